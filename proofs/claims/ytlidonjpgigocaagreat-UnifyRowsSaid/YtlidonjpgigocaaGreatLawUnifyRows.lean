/-
  'brocadelaw07': what the laws say, in plain words. Conditions: those of each theorem.
-/
import Derived.Test.YtlidonjpgigocaaGreatProws7
namespace Go.Proofs.YtlidonjpgigocaaGreat
set_option linter.all false
set_option maxRecDepth 4000
open Go.RowKit
set_option maxHeartbeats 6400000 in
theorem unifyRows_c {w : World} {m : Mem} {a : Rw} {vs_a : List Value} {b : Rw} {vs_b : List Value} (hA : Agree w m) (h_a : RwR m a vs_a) (h_b : RwR m b vs_b) : FnV Tryz.prog 6 #[.agg vs_a.toArray, .agg vs_b.toArray] w m (fun _ _ v => v = .bool true) := by
  obtain ⟨o_a, c_a, rfl, hs_a, hr_a⟩ := h_a.open_
  have hbs_a := hs_a.big; have hcs_a := hs_a.cap
  obtain ⟨o_b, c_b, rfl, hs_b, hr_b⟩ := h_b.open_
  have hbs_b := hs_b.big; have hcs_b := hs_b.cap
  refine fn_enter (vs := [_, _]) Tryz.func6 rfl rfl rfl fun a0 hfr0 => ?_
  have hst0 := st_enter hA (loc_nil [] _ w m)
  have hM : MLe m m := MLe.refl m
  refine seq_any fun _ hK1 => ?_
  refine rp0 hst0 hfr0 (.cons rfl (ob_box rfl rfl) <| .cons rfl (ob_box rfl rfl) <| .cons rfl (ob_assign rfl) <| .nil) ?_
  intro a1 w1 m1 hst1 hle1 hk1
  have hfr1 := hk1.fr (T' := []) (.nil)
  obtain ⟨g2, e2, hc2⟩ := hk1.ex 2 rfl
  replace hfr1 := hfr1.cons e2
  obtain ⟨g3, e3, hc3⟩ := hk1.ex 3 rfl
  replace hfr1 := hfr1.cons e3
  replace h_a := h_a.mono hle1
  replace hs_a := hs_a.mono hle1
  replace h_b := h_b.mono hle1
  replace hs_b := hs_b.mono hle1
  clear hst0 hfr0 hk1
  refine hK1 _ _ ?_; clear hK1
  refine seq_any fun _ hK4 => ?_
  refine rp0 hst1 hfr1 (.cons rfl (ob_callE rfl (.nil) Tryz.call9 (fun w m hK => by have hle_ := KC.le hK; have hA := KC.agree hK; exact shown_c hA)) <| .cons rfl (ob_assign rfl) <| .nil) ?_
  intro a2 w2 m2 hst2 hle2 hk2
  have hfr2 := hk2.fr (T' := [(2, _), (3, _), (5, _)]) (.old rfl rfl <| .old rfl rfl <| .new rfl <| .nil)
  replace h_a := h_a.mono hle2
  replace hs_a := hs_a.mono hle2
  replace h_b := h_b.mono hle2
  replace hs_b := hs_b.mono hle2
  replace hc2 := hc2.mono hle2
  replace hc3 := hc3.mono hle2
  clear hst1 hfr1 hk2
  refine hK4 _ _ ?_; clear hK4
  refine seq_any fun _ hK5 => ?_
  refine seq_any fun _ hK6 => ?_
  refine rp0 hst2 hfr2 (.cons rfl (ob_loadS' rfl hc2 Tryz.isAgg43 Tryz.sizeOf43 rfl rfl) <| .cons rfl (ob_callE rfl (.cons rfl <| .nil) Tryz.call23 (fun w m hK => by have hle_ := KC.le hK; have hA := KC.agree hK; have h_a := h_a.mono hle_; exact rightRowR_c (r := a) hA h_a)) <| .cons rfl (ob_not rfl) <| .cons rfl (ob_move rfl) <| .cons rfl (ob_loadS' rfl hc3 Tryz.isAgg43 Tryz.sizeOf43 rfl rfl) <| .cons rfl (ob_callE rfl (.cons rfl <| .nil) Tryz.call23 (fun w m hK => by have hle_ := KC.le hK; have hA := KC.agree hK; have h_b := h_b.mono hle_; exact rightRowR_c (r := b) hA h_b)) <| .cons rfl (ob_not rfl) <| .cons rfl (ob_or rfl rfl rfl) <| .cons rfl (ob_move rfl) <| .cons rfl (ob_fieldAddrO (off := 0) rfl Tryz.underlying43 rfl rfl Tryz.sizeOf41 rfl) <| .cons rfl (ob_load1 rfl hc2 Tryz.isAgg41 rfl) <| .cons rfl (ob_len rfl Tryz.underlying41) <| .cons rfl (ob_gtr rfl rfl) <| .cons rfl (ob_or rfl rfl rfl) <| .cons rfl (ob_move rfl) <| .cons rfl (ob_fieldAddrO (off := 0) rfl Tryz.underlying43 rfl rfl Tryz.sizeOf41 rfl) <| .cons rfl (ob_load1 rfl hc3 Tryz.isAgg41 rfl) <| .cons rfl (ob_len rfl Tryz.underlying41) <| .cons rfl (ob_gtr rfl rfl) <| .cons rfl (ob_or rfl rfl rfl) <| .cons rfl (ob_move rfl) <| .cons rfl (ob_fieldAddrO (off := 1) rfl Tryz.underlying43 rfl rfl Tryz.sizeOf3 rfl) <| .cons rfl (ob_load1 rfl hc2 Tryz.isAgg3 rfl) <| .cons rfl (ob_gtr rfl rfl) <| .cons rfl (ob_or rfl rfl rfl) <| .cons rfl (ob_move rfl) <| .cons rfl (ob_fieldAddrO (off := 1) rfl Tryz.underlying43 rfl rfl Tryz.sizeOf3 rfl) <| .cons rfl (ob_load1 rfl hc3 Tryz.isAgg3 rfl) <| .cons rfl (ob_gtr rfl rfl) <| .cons rfl (ob_or rfl rfl rfl) <| .nil) ?_
  intro a3 w3 m3 hst3 hle3 hk3
  have hfr3 := hk3.fr (T' := [(2, _), (3, _), (5, _), (50, _)]) (.old rfl rfl <| .old rfl rfl <| .old rfl rfl <| .new rfl <| .nil)
  replace h_a := h_a.mono hle3
  replace hs_a := hs_a.mono hle3
  replace h_b := h_b.mono hle3
  replace hs_b := hs_b.mono hle3
  replace hc2 := hc2.mono hle3
  replace hc3 := hc3.mono hle3
  clear hst2 hfr2 hk3
  refine hK6 _ _ ?_; clear hK6
  refine cond_any hfr3 rfl rfl (fun hb50 => ?_) (fun hb50 => ?_)
  · try simp only [nq1, nq2, nq3, nq4, nq5, nq6, nq7, nq8, nq9, u8_eq] at hb50
    refine seq_any fun _ hK7 => ?_
    refine rp0 hst3 hfr3 (.cons rfl (ob_move rfl) <| .cons rfl (ob_assign rfl) <| .nil) ?_
    intro a4 w4 m4 hst4 hle4 hk4
    have hfr4 := hk4.fr (T' := [(4, _)]) (.new rfl <| .nil)
    clear hst3 hfr3 hk4
    refine hK7 _ _ ?_; clear hK7
    refine wp_ret ?_
    repeat (with_reducible first | refine then_ret ?_ | refine block_ret ?_)
    exact fn_ret hst4 hfr4 rfl (.tmp rfl <| .nil) (rfl)
  · try simp only [nq1, nq2, nq3, nq4, nq5, nq6, nq7, nq8, nq9, u8_eq] at hb50
    have hra : rowOk a.labels a.var = true := by simp_all
    have hrb : rowOk b.labels b.var = true := by simp_all
    have hla : a.labels.length ≤ 10 := by simp_all; omega
    have hlb : b.labels.length ≤ 10 := by simp_all; omega
    have hwt := rows_want (n := 9) hra hrb
    refine wp_skip ?_
    refine hK5 _ _ ?_; clear hK5
    refine seq_any fun _ hK9 => ?_
    replace hst3 := hst3.more (r := .free) trivial List.nodup_nil (by simp [Res.blocks])
    refine region_any (tch := [(8, 0, (fun v => .blk v _)), (9, 0, (fun v => .blkx v _ _))]) (fun _ => mixed) hst3 hfr3 (by kernel_rfl) (by kernel_rfl) (by kernel_rfl) (.cons rfl (ob_call (φ := MP.subQ noneS) rfl (.nil) Tryz.call10 (fun w m hK => by have hle_ := KC.le hK; have hA := KC.agree hK; exact FnG.mono (noneU_c hA) fun _ _ _ _ h => h)) <| .cons rfl (ob_loadS' rfl hc2 Tryz.isAgg43 Tryz.sizeOf43 rfl rfl) <| .cons rfl (ob_loadS' rfl hc3 Tryz.isAgg43 Tryz.sizeOf43 rfl rfl) <| .cons rfl (ob_imgE 53 rfl rfl rfl fun y53 => ob_call (φ := MP.un (outU (rowsU a b ⟨noneS, 9⟩) ⟨noneS, 9⟩)) rfl (.cons rfl <| .cons rfl <| .cons rfl <| .cons rfl <| .nil) Tryz.call27 (fun w m hK => by have hle_ := KC.le hK; have hA := KC.agree hK; have hr0_ := hK.2; have h_a := h_a.mono hle_; have h_b := h_b.mono hle_; exact FnG.mono (rows7_c hA hr0_ h_a h_b (noneU_ok ⟨by omega, by omega⟩) (by omega) (by omega)) fun _ _ _ _ h => h)) <| .cons rfl (ob_imgV 56 rfl rfl rfl fun y56 => ob_move rfl) <| .cons rfl (ob_imgV 52 rfl rfl rfl fun y52 => ob_extract rfl rfl) <| .cons rfl (ob_imgE 52 rfl rfl rfl fun y52 => ob_extract rfl rfl) <| .cons rfl (ob_imgE 52 rfl rfl rfl fun y52 => ob_extract rfl rfl) <| .consT rfl rfl (fun _ => rfl) rfl (ob_allocL Tryz.zeroValue29 rfl) <| .consT rfl rfl (fun _ => rfl) rfl (ob_imgT 6 rfl rfl rfl fun y6 => ob_imgTX 57 rfl rfl rfl fun y57 => ob_storeF rfl rfl rfl rfl rfl Tryz.sizeOf29 rfl rfl rfl) <| .cons rfl (ob_assign rfl) <| .cons rfl (ob_assign rfl) <| .nil) ?_
    intro a4 w4 m4 hst4 hle4 hk4
    have hfr4 := hk4.fr (T' := [(2, _), (3, _), (5, _), (8, _)]) (.old rfl rfl <| .old rfl rfl <| .old rfl rfl <| .new rfl <| .nil)
    obtain ⟨g10, e10, _⟩ := hk4.ex 6 rfl
    replace hst4 := hst4.fin (L' := [_]) (.cons e10 <| .cons e10 <| .nil)
    try simp only [List.take_succ_cons, List.take_zero, List.drop_succ_cons, List.drop_zero, List.cons_append, List.nil_append, List.append_nil, List.length_cons, List.length_nil, Nat.zero_add, Nat.reduceAdd] at hst4
    obtain ⟨⟨q1, q2⟩, hS, hst4⟩ := hst4.unx (k := 0) rfl (fun _ => rfl)
    replace hs_a := hs_a.mono hle4
    replace hs_b := hs_b.mono hle4
    replace hc2 := hc2.mono hle4
    replace hc3 := hc3.mono hle4
    clear hst3 hfr3 hk4
    refine hK9 _ _ ?_; clear hK9
    refine seq_any fun _ hK12 => ?_
    refine rp0 hst4 hfr4 (.cons rfl (ob_assign rfl) <| .nil) ?_
    intro a5 w5 m5 hst5 hle5 hk5
    have hfr5 := hk5.fr (T' := [(2, _), (3, _), (5, _), (8, _), (9, _)]) (.old rfl rfl <| .old rfl rfl <| .old rfl rfl <| .old rfl rfl <| .new rfl <| .nil)
    replace hs_a := hs_a.mono hle5
    replace hs_b := hs_b.mono hle5
    replace hc2 := hc2.mono hle5
    replace hc3 := hc3.mono hle5
    clear hst4 hfr4 hk5
    refine hK12 _ _ ?_; clear hK12
    refine seq_any fun _ hK13 => ?_
    refine rp0 hst5 hfr5 (.cons rfl (ob_assign rfl) <| .nil) ?_
    intro a6 w6 m6 hst6 hle6 hk6
    have hfr6 := hk6.fr (T' := [(2, _), (3, _), (5, _), (8, _), (9, _), (10, _)]) (.old rfl rfl <| .old rfl rfl <| .old rfl rfl <| .old rfl rfl <| .old rfl rfl <| .new rfl <| .nil)
    replace hs_a := hs_a.mono hle6
    replace hs_b := hs_b.mono hle6
    replace hc2 := hc2.mono hle6
    replace hc3 := hc3.mono hle6
    clear hst5 hfr5 hk6
    refine hK13 _ _ ?_; clear hK13
    refine seq_any fun _ hK14 => ?_
    replace hst6 := hst6.more (r := .free) trivial List.nodup_nil (by simp [Res.blocks])
    refine ra0 (tch := [(1, 1, (fun v => .blk v _)), (2, 1, (fun v => .blk v _))]) hst6 hfr6 (.cons rfl (ob_loadS' rfl hc2 Tryz.isAgg43 Tryz.sizeOf43 rfl rfl) <| .consT rfl rfl (fun _ => rfl) rfl (ob_allocL Tryz.zeroValue43 rfl) <| .consT rfl rfl (fun _ => rfl) rfl (ob_imgT 11 rfl rfl rfl fun y11 => ob_storeF rfl rfl rfl rfl rfl Tryz.sizeOf43 rfl rfl rfl) <| .nil) ?_
    intro a7 w7 m7 hst7 hle7 hk7
    have hfr7 := hk7.fr (T' := [(2, _), (3, _), (5, _), (8, _), (9, _), (10, _)]) (.old rfl rfl <| .old rfl rfl <| .old rfl rfl <| .old rfl rfl <| .old rfl rfl <| .old rfl rfl <| .nil)
    obtain ⟨gX, e15, _⟩ := hk7.ex 11 rfl
    replace hfr7 := hfr7.cons e15
    replace hst7 := hst7.fin (L' := [_, _]) (.cons e15 <| .cons e15 <| .nil)
    try simp only [List.take_succ_cons, List.take_zero, List.drop_succ_cons, List.drop_zero, List.cons_append, List.nil_append, List.append_nil, List.length_cons, List.length_nil, Nat.zero_add, Nat.reduceAdd] at hst7
    replace hs_a := hs_a.mono hle7
    replace hs_b := hs_b.mono hle7
    replace hc2 := hc2.mono hle7
    replace hc3 := hc3.mono hle7
    clear hst6 hfr6 hk7
    refine hK14 _ _ ?_; clear hK14
    refine seq_any fun _ hK16 => ?_
    refine seq_any fun _ hK17 => ?_
    refine rp0 hst7 hfr7 (.cons rfl (ob_assign rfl) <| .nil) ?_
    intro a8 w8 m8 hst8 hle8 hk8
    have hfr8 := hk8.fr (T' := [(2, _), (3, _), (5, _), (8, _), (9, _), (10, _), (11, _), (12, _)]) (.old rfl rfl <| .old rfl rfl <| .old rfl rfl <| .old rfl rfl <| .old rfl rfl <| .old rfl rfl <| .old rfl rfl <| .new rfl <| .nil)
    replace hs_a := hs_a.mono hle8
    replace hs_b := hs_b.mono hle8
    replace hc2 := hc2.mono hle8
    replace hc3 := hc3.mono hle8
    clear hst7 hfr7 hk8
    refine hK17 _ _ ?_; clear hK17
    refine wp_block ?_
    refine loop_any (T := [(2, _), (3, _), (5, _), (8, _), (9, _), (11, _)]) (fun (y : Nat × Bool × List Str × (Option Addr × Nat)) => ([(10, .bool y.2.1), (12, .int .i64 (y.1 : Int))] : List (Nat × Value))) (fun y => [_, .blk (.pointer (some ⟨gX, 0, none⟩)) (.cells (rwV ⟨y.2.2.1, a.var⟩ y.2.2.2).toArray 43)]) (fun (y : Nat × Bool × List Str × (Option Addr × Nat)) m => (fun (y : Nat) (ov : Bool) (xl : List Str) (qx : (Option Addr × Nat)) => (y ≤ b.labels.length) ∧ (Strs m qx.1 xl.length qx.2 xl) ∧ (subS b.labels a.labels = (ov && subS (b.labels.drop y) xl)) ∧ (xl.length ≤ 10)) y.1 y.2.1 y.2.2.1 y.2.2.2) (fun y => b.labels.length - y.1) ((0, true, a.labels, (o_a, c_a))) ⟨hst8, MLe.refl _, hfr8.sub (.cons rfl <| .cons rfl <| .cons rfl <| .cons rfl <| .cons rfl <| .cons rfl <| .cons rfl <| .cons rfl <| .nil), ⟨Nat.zero_le _, hs_a, by rw [Bool.true_and]; rfl, by omega⟩⟩ fun y a9 w9 m9 hh9 => ?_
    have hst9 := hh9.st; have hle9 := hh9.le; have hfr9 := hh9.fr; have hrel := hh9.rel; clear hh9
    replace hs_a := hs_a.mono hle9
    replace hs_b := hs_b.mono hle9
    replace hc2 := hc2.mono hle9
    replace hc3 := hc3.mono hle9
    clear hst8 hfr8
    obtain ⟨y, ov, xl, qx⟩ := y
    dsimp only at hrel hfr9 hst9
    obtain ⟨hyn, hJx, hJs, hJl⟩ := hrel
    have hlh9 := hle9
    refine seq_any fun _ hK19 => ?_
    refine seq_any fun _ hK20 => ?_
    refine rp0 hst9 hfr9 (.cons rfl (ob_move rfl) <| .cons rfl (ob_fieldAddrO (off := 0) rfl Tryz.underlying43 rfl rfl Tryz.sizeOf41 rfl) <| .cons rfl (ob_load1 rfl hc3 Tryz.isAgg41 rfl) <| .cons rfl (ob_len rfl Tryz.underlying41) <| .cons rfl (ob_lss rfl rfl) <| .nil) ?_
    intro a10 w10 m10 hst10 hle10 hk10
    have hfr10 := hk10.fr (T' := [(10, _), (12, _), (2, _), (3, _), (5, _), (8, _), (9, _), (11, _), (65, _)]) (.old rfl rfl <| .old rfl rfl <| .old rfl rfl <| .old rfl rfl <| .old rfl rfl <| .old rfl rfl <| .old rfl rfl <| .old rfl rfl <| .new rfl <| .nil)
    replace hs_a := hs_a.mono hle10
    replace hs_b := hs_b.mono hle10
    replace hc2 := hc2.mono hle10
    replace hc3 := hc3.mono hle10
    replace hJx := hJx.mono hle10
    have hlh10 := hlh9.trans hle10
    clear hst9 hfr9 hk10
    refine hK20 _ _ ?_; clear hK20
    refine cond_any hfr10 rfl rfl (fun hb65 => ?_) (fun hb65 => ?_)
    · try simp only [nq1, nq2, nq3, nq4, nq5, nq6, nq7, nq8, nq9, u8_eq] at hb65
      refine wp_skip ?_
      refine hK19 _ _ ?_; clear hK19
      refine seq_any fun _ hK21 => ?_
      refine wp_block ?_
      refine seq_any fun _ hK22 => ?_
      obtain ⟨p23, vs23, x23, ho23, hd23, hm_x23, ht23, hcv23, hl23, hv23⟩ := hs_b.nth (k := y) (by omega)
      cases ho23
      subst hv23
      replace hst10 := hst10.more (r := .free) trivial List.nodup_nil (by simp [Res.blocks])
      refine region_any (tch := [(10, 2, (fun v => .blk v _)), (11, 2, (fun v => .blkx v _ _))]) (fun _ => mixed) hst10 hfr10 (by kernel_rfl) (by kernel_rfl) (by kernel_rfl) (.cons rfl (ob_loadLA (j := 1) rfl rfl Tryz.isAgg43 Tryz.sizeOf43 rfl) <| .cons rfl (ob_fieldAddrO (off := 0) rfl Tryz.underlying43 rfl rfl Tryz.sizeOf41 rfl) <| .cons rfl (ob_load1 rfl hc3 Tryz.isAgg41 rfl) <| .cons rfl (ob_move rfl) <| .cons rfl (ob_indexAddr (k := y) rfl rfl Tryz.underlying41 Tryz.sizeOf9 rfl (by omega)) <| .cons rfl (ob_load1' rfl hcv23 Tryz.isAgg9 rfl) <| .cons rfl (ob_call (φ := MP.rwb ⟨xl.erase x23, a.var⟩ (decide (x23 ∈ xl))) rfl (.cons rfl <| .cons rfl <| .nil) Tryz.call28 (fun w m hK => by have hle_ := KC.le hK; have hA := KC.agree hK; have hJx := hJx.mono hle_; exact FnG.mono (lessR_c (r := ⟨xl, a.var⟩) (s := x23) hA ⟨_, _, rfl, hJx, hr_a⟩ (by show xl.length ≤ _; omega)) fun _ _ _ _ h => h)) <| .cons rfl (ob_imgV 75 rfl rfl rfl fun y75 => ob_move rfl) <| .cons rfl (ob_imgV 68 rfl rfl rfl fun y68 => ob_extract rfl rfl) <| .cons rfl (ob_imgE 68 rfl rfl rfl fun y68 => ob_extract rfl rfl) <| .consT rfl rfl (fun _ => rfl) rfl (ob_allocL Tryz.zeroValue43 rfl) <| .consT rfl rfl (fun _ => rfl) rfl (ob_imgT 13 rfl rfl rfl fun y13 => ob_imgTX 76 rfl rfl rfl fun y76 => ob_storeF rfl rfl rfl rfl rfl Tryz.sizeOf43 rfl rfl rfl) <| .cons rfl (ob_assign rfl) <| .nil) ?_
      intro a11 w11 m11 hst11 hle11 hk11
      have hfr11 := hk11.fr (T' := [(10, _), (12, _), (2, _), (3, _), (5, _), (8, _), (9, _), (11, _), (14, _)]) (.old rfl rfl <| .old rfl rfl <| .old rfl rfl <| .old rfl rfl <| .old rfl rfl <| .old rfl rfl <| .old rfl rfl <| .old rfl rfl <| .new rfl <| .nil)
      obtain ⟨g24, e24, _⟩ := hk11.ex 13 rfl
      replace hfr11 := hfr11.cons e24
      replace hst11 := hst11.fin (L' := [_, _, _]) (.cons e24 <| .cons e24 <| .nil)
      try simp only [List.take_succ_cons, List.take_zero, List.drop_succ_cons, List.drop_zero, List.cons_append, List.nil_append, List.append_nil, List.length_cons, List.length_nil, Nat.zero_add, Nat.reduceAdd] at hst11
      obtain ⟨⟨oE, cE⟩, hE, hst11⟩ := hst11.unx (k := 2) rfl (fun _ => rfl)
      have hlh11 := hlh10.trans hle11
      clear hst10 hfr10 hk11
      have hJe := (rwV_open hE).1
      refine hK22 _ _ ?_; clear hK22
      refine seq_any fun _ hK26 => ?_
      refine ra0 (tch := [(1, 1, (fun _ => .blk _ _))]) hst11 hfr11 (.cons rfl (ob_loadLA (j := 2) rfl rfl Tryz.isAgg43 Tryz.sizeOf43 rfl) <| .consT rfl rfl (fun _ => rfl) rfl (ob_store' rfl rfl rfl Tryz.sizeOf43 rfl rfl rfl) <| .nil) ?_
      intro a12 w12 m12 hst12 hle12 hk12
      have hfr12 := hk12.fr (T' := [(10, _), (12, _), (2, _), (3, _), (5, _), (8, _), (9, _), (11, _), (14, _)]) (.old rfl rfl <| .old rfl rfl <| .old rfl rfl <| .old rfl rfl <| .old rfl rfl <| .old rfl rfl <| .old rfl rfl <| .old rfl rfl <| .old rfl rfl <| .nil)
      replace hst12 := hst12.fin (L' := [_, _, _]) (.cons rfl <| .nil)
      try simp only [List.take_succ_cons, List.take_zero, List.drop_succ_cons, List.drop_zero, List.cons_append, List.nil_append, List.append_nil, List.length_cons, List.length_nil, Nat.zero_add, Nat.reduceAdd] at hst12
      replace hJe := hJe.mono hle12
      have hlh12 := hlh11.trans hle12
      clear hst11 hfr11 hk12
      refine hK26 _ _ ?_; clear hK26
      refine rp0 hst12 hfr12 (.cons rfl (ob_move rfl) <| .cons rfl (ob_move rfl) <| .cons rfl (ob_move rfl) <| .cons rfl (ob_and rfl rfl rfl) <| .cons rfl (ob_assign rfl) <| .nil) ?_
      intro a13 w13 m13 hst13 hle13 hk13
      have hfr13 := hk13.fr (T' := [(12, _), (2, _), (3, _), (5, _), (8, _), (9, _), (11, _), (10, _)]) (.old rfl rfl <| .old rfl rfl <| .old rfl rfl <| .old rfl rfl <| .old rfl rfl <| .old rfl rfl <| .old rfl rfl <| .new rfl <| .nil)
      replace hJe := hJe.mono hle13
      have hlh13 := hlh12.trans hle13
      clear hst12 hfr12 hk13
      refine hK21 _ _ ?_; clear hK21
      refine rp0 hst13 hfr13 (.cons rfl (ob_move rfl) <| .cons rfl (ob_add rfl rfl ⟨by omega, by omega⟩) <| .cons rfl (ob_assign rfl) <| .nil) ?_
      intro a14 w14 m14 hst14 hle14 hk14
      have hfr14 := hk14.fr (T' := [(2, _), (3, _), (5, _), (8, _), (9, _), (11, _), (10, _), (12, _)]) (.old rfl rfl <| .old rfl rfl <| .old rfl rfl <| .old rfl rfl <| .old rfl rfl <| .old rfl rfl <| .old rfl rfl <| .new rfl <| .nil)
      replace hJe := hJe.mono hle14
      have hlh14 := hlh13.trans hle14
      clear hst13 hfr13 hk14
      have hst14 := hst14.take 2
      exact ⟨(y + 1, (ov && decide (x23 ∈ xl)), (xl.erase x23), (oE, cE)), m14, by show b.labels.length - (y + 1) < b.labels.length - y; omega, ⟨hst14, hlh14, hfr14.sub (.cons rfl <| .cons rfl <| .cons rfl <| .cons rfl <| .cons rfl <| .cons rfl <| .cons rfl <| .cons rfl <| .nil), ⟨by show y + 1 ≤ b.labels.length; omega, hJe, by rw [hJs, hd23, subS, Bool.and_assoc], Nat.le_trans List.length_erase_le hJl⟩⟩⟩
    · try simp only [nq1, nq2, nq3, nq4, nq5, nq6, nq7, nq8, nq9, u8_eq] at hb65
      have hge : y = b.labels.length := by omega
      rw [List.drop_of_length_le (by omega), subS, Bool.and_true] at hJs
      refine wp_exit ?_
      refine hK16 _ _ ?_; clear hK16
      refine seq_any fun _ hK27 => ?_
      have hov := hJs
      replace hst10 := hst10.more (r := .free) trivial List.nodup_nil (by simp [Res.blocks])
      refine ra0 (tch := [(1, 2, (fun v => .blk v _)), (2, 2, (fun v => .blk v _))]) hst10 hfr10 (.cons rfl (ob_loadS' rfl hc3 Tryz.isAgg43 Tryz.sizeOf43 rfl rfl) <| .consT rfl rfl (fun _ => rfl) rfl (ob_allocL Tryz.zeroValue43 rfl) <| .consT rfl rfl (fun _ => rfl) rfl (ob_imgT 15 rfl rfl rfl fun y15 => ob_storeF rfl rfl rfl rfl rfl Tryz.sizeOf43 rfl rfl rfl) <| .nil) ?_
      intro a11 w11 m11 hst11 hle11 hk11
      have hfr11 := hk11.fr (T' := [(10, _), (12, _), (2, _), (3, _), (5, _), (8, _), (9, _)]) (.old rfl rfl <| .old rfl rfl <| .old rfl rfl <| .old rfl rfl <| .old rfl rfl <| .old rfl rfl <| .old rfl rfl <| .nil)
      obtain ⟨gX, e28, _⟩ := hk11.ex 15 rfl
      replace hfr11 := hfr11.cons e28
      replace hst11 := hst11.fin (L' := [_, _, _]) (.cons e28 <| .cons e28 <| .nil)
      try simp only [List.take_succ_cons, List.take_zero, List.drop_succ_cons, List.drop_zero, List.cons_append, List.nil_append, List.append_nil, List.length_cons, List.length_nil, Nat.zero_add, Nat.reduceAdd] at hst11
      replace hs_a := hs_a.mono hle11
      replace hs_b := hs_b.mono hle11
      replace hc2 := hc2.mono hle11
      replace hc3 := hc3.mono hle11
      replace hJx := hJx.mono hle11
      have hlh11 := hlh10.trans hle11
      clear hst10 hfr10 hk11
      refine hK27 _ _ ?_; clear hK27
      refine seq_any fun _ hK29 => ?_
      refine seq_any fun _ hK30 => ?_
      refine rp0 hst11 hfr11 (.cons rfl (ob_assign rfl) <| .nil) ?_
      intro a12 w12 m12 hst12 hle12 hk12
      have hfr12 := hk12.fr (T' := [(10, _), (12, _), (2, _), (3, _), (5, _), (8, _), (9, _), (15, _), (16, _)]) (.old rfl rfl <| .old rfl rfl <| .old rfl rfl <| .old rfl rfl <| .old rfl rfl <| .old rfl rfl <| .old rfl rfl <| .old rfl rfl <| .new rfl <| .nil)
      replace hs_a := hs_a.mono hle12
      replace hs_b := hs_b.mono hle12
      replace hc2 := hc2.mono hle12
      replace hc3 := hc3.mono hle12
      replace hJx := hJx.mono hle12
      have hlh12 := hlh11.trans hle12
      clear hst11 hfr11 hk12
      refine hK30 _ _ ?_; clear hK30
      refine wp_block ?_
      have hlq31 := hlh12
      refine loop_any (T := [(10, _), (12, _), (2, _), (3, _), (5, _), (8, _), (15, _)]) (fun (y : Nat × Bool × List Str × (Option Addr × Nat)) => ([(9, .bool y.2.1), (16, .int .i64 (y.1 : Int))] : List (Nat × Value))) (fun y => [_, _, .blk (.pointer (some ⟨gX, 0, none⟩)) (.cells (rwV ⟨y.2.2.1, b.var⟩ y.2.2.2).toArray 43)]) (fun (y : Nat × Bool × List Str × (Option Addr × Nat)) m => (fun (y : Nat) (ov : Bool) (xl : List Str) (qx : (Option Addr × Nat)) => (y ≤ a.labels.length) ∧ (Strs m qx.1 xl.length qx.2 xl) ∧ (subS a.labels b.labels = (ov && subS (a.labels.drop y) xl)) ∧ (xl.length ≤ 10)) y.1 y.2.1 y.2.2.1 y.2.2.2) (fun y => a.labels.length - y.1) ((0, true, b.labels, (o_b, c_b))) ⟨hst12, MLe.refl _, hfr12.sub (.cons rfl <| .cons rfl <| .cons rfl <| .cons rfl <| .cons rfl <| .cons rfl <| .cons rfl <| .cons rfl <| .cons rfl <| .nil), ⟨Nat.zero_le _, hs_b, by rw [Bool.true_and]; rfl, by omega⟩⟩ fun y a13 w13 m13 hh13 => ?_
      have hst13 := hh13.st; have hle13 := hh13.le; have hfr13 := hh13.fr; have hrel := hh13.rel; clear hh13
      replace hs_a := hs_a.mono hle13
      replace hc2 := hc2.mono hle13
      replace hc3 := hc3.mono hle13
      replace hJx := hJx.mono hle13
      clear hst12 hfr12
      obtain ⟨y, ov, xl, qx⟩ := y
      dsimp only at hrel hfr13 hst13
      obtain ⟨hyn, hJx, hJs, hJl⟩ := hrel
      have hlh13 := hle13
      refine seq_any fun _ hK32 => ?_
      refine seq_any fun _ hK33 => ?_
      refine rp0 hst13 hfr13 (.cons rfl (ob_move rfl) <| .cons rfl (ob_fieldAddrO (off := 0) rfl Tryz.underlying43 rfl rfl Tryz.sizeOf41 rfl) <| .cons rfl (ob_load1 rfl hc2 Tryz.isAgg41 rfl) <| .cons rfl (ob_len rfl Tryz.underlying41) <| .cons rfl (ob_lss rfl rfl) <| .nil) ?_
      intro a14 w14 m14 hst14 hle14 hk14
      have hfr14 := hk14.fr (T' := [(9, _), (16, _), (10, _), (12, _), (2, _), (3, _), (5, _), (8, _), (15, _), (88, _)]) (.old rfl rfl <| .old rfl rfl <| .old rfl rfl <| .old rfl rfl <| .old rfl rfl <| .old rfl rfl <| .old rfl rfl <| .old rfl rfl <| .old rfl rfl <| .new rfl <| .nil)
      replace hs_a := hs_a.mono hle14
      replace hc2 := hc2.mono hle14
      replace hc3 := hc3.mono hle14
      replace hJx := hJx.mono hle14
      have hlh14 := hlh13.trans hle14
      clear hst13 hfr13 hk14
      refine hK33 _ _ ?_; clear hK33
      refine cond_any hfr14 rfl rfl (fun hb88 => ?_) (fun hb88 => ?_)
      · try simp only [nq1, nq2, nq3, nq4, nq5, nq6, nq7, nq8, nq9, u8_eq] at hb88
        refine wp_skip ?_
        refine hK32 _ _ ?_; clear hK32
        refine seq_any fun _ hK34 => ?_
        refine wp_block ?_
        refine seq_any fun _ hK35 => ?_
        obtain ⟨p36, vs36, x36, ho36, hd36, hm_x36, ht36, hcv36, hl36, hv36⟩ := hs_a.nth (k := y) (by omega)
        cases ho36
        subst hv36
        replace hst14 := hst14.more (r := .free) trivial List.nodup_nil (by simp [Res.blocks])
        refine region_any (tch := [(10, 3, (fun v => .blk v _)), (11, 3, (fun v => .blkx v _ _))]) (fun _ => mixed) hst14 hfr14 (by kernel_rfl) (by kernel_rfl) (by kernel_rfl) (.cons rfl (ob_loadLA (j := 2) rfl rfl Tryz.isAgg43 Tryz.sizeOf43 rfl) <| .cons rfl (ob_fieldAddrO (off := 0) rfl Tryz.underlying43 rfl rfl Tryz.sizeOf41 rfl) <| .cons rfl (ob_load1 rfl hc2 Tryz.isAgg41 rfl) <| .cons rfl (ob_move rfl) <| .cons rfl (ob_indexAddr (k := y) rfl rfl Tryz.underlying41 Tryz.sizeOf9 rfl (by omega)) <| .cons rfl (ob_load1' rfl hcv36 Tryz.isAgg9 rfl) <| .cons rfl (ob_call (φ := MP.rwb ⟨xl.erase x36, b.var⟩ (decide (x36 ∈ xl))) rfl (.cons rfl <| .cons rfl <| .nil) Tryz.call28 (fun w m hK => by have hle_ := KC.le hK; have hA := KC.agree hK; have hJx := hJx.mono hle_; exact FnG.mono (lessR_c (r := ⟨xl, b.var⟩) (s := x36) hA ⟨_, _, rfl, hJx, hr_b⟩ (by show xl.length ≤ _; omega)) fun _ _ _ _ h => h)) <| .cons rfl (ob_imgV 98 rfl rfl rfl fun y98 => ob_move rfl) <| .cons rfl (ob_imgV 91 rfl rfl rfl fun y91 => ob_extract rfl rfl) <| .cons rfl (ob_imgE 91 rfl rfl rfl fun y91 => ob_extract rfl rfl) <| .consT rfl rfl (fun _ => rfl) rfl (ob_allocL Tryz.zeroValue43 rfl) <| .consT rfl rfl (fun _ => rfl) rfl (ob_imgT 17 rfl rfl rfl fun y17 => ob_imgTX 99 rfl rfl rfl fun y99 => ob_storeF rfl rfl rfl rfl rfl Tryz.sizeOf43 rfl rfl rfl) <| .cons rfl (ob_assign rfl) <| .nil) ?_
        intro a15 w15 m15 hst15 hle15 hk15
        have hfr15 := hk15.fr (T' := [(9, _), (16, _), (10, _), (12, _), (2, _), (3, _), (5, _), (8, _), (15, _), (18, _)]) (.old rfl rfl <| .old rfl rfl <| .old rfl rfl <| .old rfl rfl <| .old rfl rfl <| .old rfl rfl <| .old rfl rfl <| .old rfl rfl <| .old rfl rfl <| .new rfl <| .nil)
        obtain ⟨g37, e37, _⟩ := hk15.ex 17 rfl
        replace hfr15 := hfr15.cons e37
        replace hst15 := hst15.fin (L' := [_, _, _, _]) (.cons e37 <| .cons e37 <| .nil)
        try simp only [List.take_succ_cons, List.take_zero, List.drop_succ_cons, List.drop_zero, List.cons_append, List.nil_append, List.append_nil, List.length_cons, List.length_nil, Nat.zero_add, Nat.reduceAdd] at hst15
        obtain ⟨⟨oE, cE⟩, hE, hst15⟩ := hst15.unx (k := 3) rfl (fun _ => rfl)
        have hlh15 := hlh14.trans hle15
        clear hst14 hfr14 hk15
        have hJe := (rwV_open hE).1
        refine hK35 _ _ ?_; clear hK35
        refine seq_any fun _ hK39 => ?_
        refine ra0 (tch := [(1, 2, (fun _ => .blk _ _))]) hst15 hfr15 (.cons rfl (ob_loadLA (j := 3) rfl rfl Tryz.isAgg43 Tryz.sizeOf43 rfl) <| .consT rfl rfl (fun _ => rfl) rfl (ob_store' rfl rfl rfl Tryz.sizeOf43 rfl rfl rfl) <| .nil) ?_
        intro a16 w16 m16 hst16 hle16 hk16
        have hfr16 := hk16.fr (T' := [(9, _), (16, _), (10, _), (12, _), (2, _), (3, _), (5, _), (8, _), (15, _), (18, _)]) (.old rfl rfl <| .old rfl rfl <| .old rfl rfl <| .old rfl rfl <| .old rfl rfl <| .old rfl rfl <| .old rfl rfl <| .old rfl rfl <| .old rfl rfl <| .old rfl rfl <| .nil)
        replace hst16 := hst16.fin (L' := [_, _, _, _]) (.cons rfl <| .nil)
        try simp only [List.take_succ_cons, List.take_zero, List.drop_succ_cons, List.drop_zero, List.cons_append, List.nil_append, List.append_nil, List.length_cons, List.length_nil, Nat.zero_add, Nat.reduceAdd] at hst16
        replace hJe := hJe.mono hle16
        have hlh16 := hlh15.trans hle16
        clear hst15 hfr15 hk16
        refine hK39 _ _ ?_; clear hK39
        refine rp0 hst16 hfr16 (.cons rfl (ob_move rfl) <| .cons rfl (ob_move rfl) <| .cons rfl (ob_move rfl) <| .cons rfl (ob_and rfl rfl rfl) <| .cons rfl (ob_assign rfl) <| .nil) ?_
        intro a17 w17 m17 hst17 hle17 hk17
        have hfr17 := hk17.fr (T' := [(16, _), (10, _), (12, _), (2, _), (3, _), (5, _), (8, _), (15, _), (9, _)]) (.old rfl rfl <| .old rfl rfl <| .old rfl rfl <| .old rfl rfl <| .old rfl rfl <| .old rfl rfl <| .old rfl rfl <| .old rfl rfl <| .new rfl <| .nil)
        replace hJe := hJe.mono hle17
        have hlh17 := hlh16.trans hle17
        clear hst16 hfr16 hk17
        refine hK34 _ _ ?_; clear hK34
        refine rp0 hst17 hfr17 (.cons rfl (ob_move rfl) <| .cons rfl (ob_add rfl rfl ⟨by omega, by omega⟩) <| .cons rfl (ob_assign rfl) <| .nil) ?_
        intro a18 w18 m18 hst18 hle18 hk18
        have hfr18 := hk18.fr (T' := [(10, _), (12, _), (2, _), (3, _), (5, _), (8, _), (15, _), (9, _), (16, _)]) (.old rfl rfl <| .old rfl rfl <| .old rfl rfl <| .old rfl rfl <| .old rfl rfl <| .old rfl rfl <| .old rfl rfl <| .old rfl rfl <| .new rfl <| .nil)
        replace hJe := hJe.mono hle18
        have hlh18 := hlh17.trans hle18
        clear hst17 hfr17 hk18
        have hst18 := hst18.take 3
        exact ⟨(y + 1, (ov && decide (x36 ∈ xl)), (xl.erase x36), (oE, cE)), m18, by show a.labels.length - (y + 1) < a.labels.length - y; omega, ⟨hst18, hlh18, hfr18.sub (.cons rfl <| .cons rfl <| .cons rfl <| .cons rfl <| .cons rfl <| .cons rfl <| .cons rfl <| .cons rfl <| .cons rfl <| .nil), ⟨by show y + 1 ≤ a.labels.length; omega, hJe, by rw [hJs, hd36, subS, Bool.and_assoc], Nat.le_trans List.length_erase_le hJl⟩⟩⟩
      · try simp only [nq1, nq2, nq3, nq4, nq5, nq6, nq7, nq8, nq9, u8_eq] at hb88
        have hge : y = a.labels.length := by omega
        rw [List.drop_of_length_le (by omega), subS, Bool.and_true] at hJs
        refine wp_exit ?_
        refine hK29 _ _ ?_; clear hK29
        refine seq_any fun _ hK40 => ?_
        have hwi := hJs
        refine rp0 hst14 hfr14 (.cons rfl (ob_move rfl) <| .cons rfl (ob_move rfl) <| .cons rfl (ob_fieldAddrO (off := 1) rfl Tryz.underlying43 rfl rfl Tryz.sizeOf3 rfl) <| .cons rfl (ob_load1 rfl hc3 Tryz.isAgg3 rfl) <| .cons rfl (ob_gtr rfl rfl) <| .cons rfl (ob_or rfl rfl rfl) <| .cons rfl (ob_move rfl) <| .cons rfl (ob_move rfl) <| .cons rfl (ob_move rfl) <| .cons rfl (ob_fieldAddrO (off := 1) rfl Tryz.underlying43 rfl rfl Tryz.sizeOf3 rfl) <| .cons rfl (ob_load1 rfl hc2 Tryz.isAgg3 rfl) <| .cons rfl (ob_gtr rfl rfl) <| .cons rfl (ob_or rfl rfl rfl) <| .cons rfl (ob_and rfl rfl rfl) <| .cons rfl (ob_assign rfl) <| .nil) ?_
        intro a15 w15 m15 hst15 hle15 hk15
        have hfr15 := hk15.fr (T' := [(9, _), (16, _), (10, _), (12, _), (2, _), (3, _), (5, _), (8, _), (19, _)]) (.old rfl rfl <| .old rfl rfl <| .old rfl rfl <| .old rfl rfl <| .old rfl rfl <| .old rfl rfl <| .old rfl rfl <| .old rfl rfl <| .new rfl <| .nil)
        replace hc2 := hc2.mono hle15
        replace hc3 := hc3.mono hle15
        have hlh15 := hlh14.trans hle15
        clear hst14 hfr14 hk15
        refine hK40 _ _ ?_; clear hK40
        refine seq_any fun _ hK41 => ?_
        refine seq_any fun _ hK42 => ?_
        refine rp0 hst15 hfr15 (.cons rfl (ob_fieldAddrO (off := 1) rfl Tryz.underlying43 rfl rfl Tryz.sizeOf3 rfl) <| .cons rfl (ob_load1 rfl hc2 Tryz.isAgg3 rfl) <| .cons rfl (ob_fieldAddrO (off := 1) rfl Tryz.underlying43 rfl rfl Tryz.sizeOf3 rfl) <| .cons rfl (ob_load1 rfl hc3 Tryz.isAgg3 rfl) <| .cons rfl (ob_eql rfl rfl) <| .nil) ?_
        intro a16 w16 m16 hst16 hle16 hk16
        have hfr16 := hk16.fr (T' := [(9, _), (16, _), (10, _), (12, _), (5, _), (8, _), (19, _), (124, _)]) (.old rfl rfl <| .old rfl rfl <| .old rfl rfl <| .old rfl rfl <| .old rfl rfl <| .old rfl rfl <| .old rfl rfl <| .new rfl <| .nil)
        have hlh16 := hlh15.trans hle16
        clear hst15 hfr15 hk16
        refine hK42 _ _ ?_; clear hK42
        refine cond_any hfr16 rfl rfl (fun hb124 => ?_) (fun hb124 => ?_)
        · try simp only [nq1, nq2, nq3, nq4, nq5, nq6, nq7, nq8, nq9, u8_eq] at hb124
          refine rp0 hst16 hfr16 (.cons rfl (ob_move rfl) <| .cons rfl (ob_move rfl) <| .cons rfl (ob_move rfl) <| .cons rfl (ob_and rfl rfl rfl) <| .cons rfl (ob_assign rfl) <| .nil) ?_
          intro a17 w17 m17 hst17 hle17 hk17
          have hfr17 := hk17.fr (T' := [(9, _), (16, _), (10, _), (12, _), (5, _), (8, _), (19, _)]) (.old rfl rfl <| .old rfl rfl <| .old rfl rfl <| .old rfl rfl <| .old rfl rfl <| .old rfl rfl <| .new rfl <| .nil)
          have hlh17 := hlh16.trans hle17
          clear hst16 hfr16 hk17
          refine hK41 _ _ ?_; clear hK41
          refine seq_any fun _ hK43 => ?_
          refine rp0 hst17 hfr17 (.cons rfl (ob_move rfl) <| .cons rfl (ob_move rfl) <| .cons rfl (ob_move rfl) <| .cons rfl (ob_eql rfl rfl) <| .cons rfl (ob_move rfl) <| .cons rfl (ob_beql rfl rfl Tryz.underlying4) <| .cons rfl (ob_and rfl rfl rfl) <| .cons rfl (ob_assign rfl) <| .nil) ?_
          intro a18 w18 m18 hst18 hle18 hk18
          have hfr18 := hk18.fr (T' := [(9, _), (16, _), (10, _), (12, _), (4, _)]) (.old rfl rfl <| .old rfl rfl <| .old rfl rfl <| .old rfl rfl <| .new rfl <| .nil)
          have hlh18 := hlh17.trans hle18
          clear hst17 hfr17 hk18
          refine hK43 _ _ ?_; clear hK43
          refine wp_ret ?_
          repeat (with_reducible first | refine then_ret ?_ | refine block_ret ?_)
          exact fn_ret hst18 hfr18 rfl (.tmp rfl <| .nil) (by refine congrArg Value.bool ?_; rw [outU_fst]; rw [hov, hwi] at hwt; rw [hwt]; first | (rw [if_pos hb124]; simp) | (rw [if_neg (by omega)]; simp))
        · try simp only [nq1, nq2, nq3, nq4, nq5, nq6, nq7, nq8, nq9, u8_eq] at hb124
          refine wp_skip ?_
          refine hK41 _ _ ?_; clear hK41
          refine seq_any fun _ hK45 => ?_
          refine rp0 hst16 hfr16 (.cons rfl (ob_move rfl) <| .cons rfl (ob_move rfl) <| .cons rfl (ob_move rfl) <| .cons rfl (ob_eql rfl rfl) <| .cons rfl (ob_move rfl) <| .cons rfl (ob_beql rfl rfl Tryz.underlying4) <| .cons rfl (ob_and rfl rfl rfl) <| .cons rfl (ob_assign rfl) <| .nil) ?_
          intro a17 w17 m17 hst17 hle17 hk17
          have hfr17 := hk17.fr (T' := [(9, _), (16, _), (10, _), (12, _), (4, _)]) (.old rfl rfl <| .old rfl rfl <| .old rfl rfl <| .old rfl rfl <| .new rfl <| .nil)
          have hlh17 := hlh16.trans hle17
          clear hst16 hfr16 hk17
          refine hK45 _ _ ?_; clear hK45
          refine wp_ret ?_
          repeat (with_reducible first | refine then_ret ?_ | refine block_ret ?_)
          exact fn_ret hst17 hfr17 rfl (.tmp rfl <| .nil) (by refine congrArg Value.bool ?_; rw [outU_fst]; rw [hov, hwi] at hwt; rw [hwt]; first | (rw [if_pos hb124]; simp) | (rw [if_neg (by omega)]; simp))

end Go.Proofs.YtlidonjpgigocaaGreat
