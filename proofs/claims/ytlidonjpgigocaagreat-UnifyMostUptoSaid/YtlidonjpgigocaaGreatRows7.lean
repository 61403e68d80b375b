/-
  unify's state: two rows are made the same. Conditions: those of each theorem.
-/
import Derived.Test.YtlidonjpgigocaaGreatState7
namespace Go.Proofs.YtlidonjpgigocaaGreat
set_option linter.all false
set_option maxRecDepth 4000
open Go.RowKit
set_option maxHeartbeats 6400000 in
theorem rows_g {w : World} {m : Mem} {g : Nat} {q : QQ} {U : USt} {a : Rw} {vs_a : List Value} {b : Rw} {vs_b : List Value} (hA : Agree w m) (hr : (UB g q U.nx).holds w m) (hU : SubQ m U.s (subV q)) (h_a : RwR m a vs_a) (h_b : RwR m b vs_b) (hok : OkS U) (ha : a.labels.length ≤ 50000000) (hb : b.labels.length ≤ 50000000) : FnG Tryz.prog 50 #[.pointer (some ⟨g, 0, none⟩), .agg vs_a.toArray, .agg vs_b.toArray] [g] w m (UPost g w.heap.size (rowsU a b U)) := by
  obtain ⟨o_a, c_a, rfl, hs_a, hr_a⟩ := h_a.open_
  have hbs_a := hs_a.big; have hcs_a := hs_a.cap
  obtain ⟨o_b, c_b, rfl, hs_b, hr_b⟩ := h_b.open_
  have hbs_b := hs_b.big; have hcs_b := hs_b.cap
  refine fn_enter (vs := [_, _, _]) Tryz.func50 rfl rfl rfl fun a0 hfr0 => ?_
  have hst0 := st_enter hA (loc_one hr (by simp [Res.blocks, ptrBlock]))
  have hM : MLe m m := MLe.refl m
  have hww := hok.w
  have hnx := hok.nx
  have hla := applyR_len hww a
  have hlb := applyR_len hww b
  obtain ⟨pa, hpa⟩ : ∃ x, x = applyR U.s a := ⟨_, rfl⟩
  obtain ⟨pb, hpb⟩ : ∃ x, x = applyR U.s b := ⟨_, rfl⟩
  rw [← hpa] at hla
  rw [← hpb] at hlb
  have hml := moreS_len pa.labels pb.labels
  have hml2 := moreS_len pb.labels pa.labels
  have hrv : rowsU a b U = rowsV pa pb (moreS pa.labels pb.labels) (moreS pb.labels pa.labels) U := by unfold rowsU; rw [← hpa, ← hpb]
  obtain ⟨p, hp9⟩ : ∃ x, x = (moreS pa.labels pb.labels) := ⟨_, rfl⟩
  obtain ⟨k, hk9⟩ : ∃ x, x = (moreS pb.labels pa.labels) := ⟨_, rfl⟩
  rw [← hp9] at hml hrv
  rw [← hk9] at hml2 hrv
  have hp0 : ∀ {l : List Str}, (((l.length : Int) = 0) ↔ l = []) := fun {l} => ⟨fun h => List.eq_nil_of_length_eq_zero (by omega), fun h => by rw [h]; rfl⟩
  refine seq_any fun _ hK1 => ?_
  replace hst0 := hst0.more (r := .free) trivial List.nodup_nil (by simp [Res.blocks])
  replace hst0 := hst0.more (r := .free) trivial List.nodup_nil (by simp [Res.blocks])
  refine ra0 (tch := [(0, 1, (fun v => .blk v _)), (1, 2, (fun v => .blk v _))]) hst0 hfr0 (.consT rfl rfl (fun _ => rfl) rfl (ob_boxL rfl rfl) <| .consT rfl rfl (fun _ => rfl) rfl (ob_boxL rfl rfl) <| .cons rfl (ob_assign rfl) <| .nil) ?_
  intro a1 w1 m1 hst1 hle1 hk1
  have hfr1 := hk1.fr (T' := [(0, _)]) (.old rfl rfl <| .nil)
  obtain ⟨gA, e2, _⟩ := hk1.ex 4 rfl
  replace hfr1 := hfr1.cons e2
  obtain ⟨gB, e3, _⟩ := hk1.ex 5 rfl
  replace hfr1 := hfr1.cons e3
  replace hst1 := hst1.fin (L' := [_, _, _]) (.cons e2 <| .cons e3 <| .nil)
  replace h_a := h_a.mono hle1
  replace h_b := h_b.mono hle1
  replace hU := hU.mono hle1
  clear hst0 hfr0 hk1
  refine hK1 _ _ ?_; clear hK1
  refine seq_any fun _ hK4 => ?_
  refine region_any (tch := [(12, 1, (fun _ => .blkx _ _ _)), (13, 2, (fun _ => .blkx _ _ _))]) (fun _ => mixed) hst1 hfr1 (by kernel_rfl) (by kernel_rfl) (by kernel_rfl) (.cons rfl (ob_move rfl) <| .cons rfl (ob_nilCheck rfl) <| .cons rfl (ob_fieldAddrO (off := 0) rfl Tryz.underlying74 rfl rfl Tryz.sizeOf29 rfl) <| .cons rfl (ob_loadLS (j := 0) rfl rfl Tryz.isAgg29 Tryz.sizeOf29 rfl rfl) <| .cons rfl (ob_loadLA (j := 1) rfl rfl Tryz.isAgg43 Tryz.sizeOf43 rfl) <| .cons rfl (ob_call (φ := MP.rw pa) rfl (.cons rfl <| .cons rfl <| .nil) Tryz.call21 (fun w m hK => by have hle_ := KC.le hK; have hA := KC.agree hK; have h_a := h_a.mono hle_; have hU := hU.mono hle_; exact FnG.mono ((by rw [hpa]; exact applyRU_c (r := a) hA hU h_a (hww.up (by omega)) (by omega))) fun _ _ _ _ h => h)) <| .cons rfl (ob_move rfl) <| .cons rfl (ob_nilCheck rfl) <| .cons rfl (ob_fieldAddrO (off := 0) rfl Tryz.underlying74 rfl rfl Tryz.sizeOf29 rfl) <| .cons rfl (ob_loadLS (j := 0) rfl rfl Tryz.isAgg29 Tryz.sizeOf29 rfl rfl) <| .cons rfl (ob_loadLA (j := 2) rfl rfl Tryz.isAgg43 Tryz.sizeOf43 rfl) <| .cons rfl (ob_call (φ := MP.rw pb) rfl (.cons rfl <| .cons rfl <| .nil) Tryz.call21 (fun w m hK => by have hle_ := KC.le hK; have hA := KC.agree hK; have h_b := h_b.mono hle_; have hU := hU.mono hle_; exact FnG.mono ((by rw [hpb]; exact applyRU_c (r := b) hA hU h_b (hww.up (by omega)) (by omega))) fun _ _ _ _ h => h)) <| .consT rfl rfl (fun _ => rfl) rfl (ob_imgTX 17 rfl rfl rfl fun y17 => ob_store' rfl rfl rfl Tryz.sizeOf43 rfl rfl rfl) <| .consT rfl rfl (fun _ => rfl) rfl (ob_imgTX 23 rfl rfl rfl fun y23 => ob_store' rfl rfl rfl Tryz.sizeOf43 rfl rfl rfl) <| .nil) ?_
  intro a2 w2 m2 hst2 hle2 hk2
  have hfr2 := hk2.fr (T' := [(0, _), (4, _), (5, _)]) (.old rfl rfl <| .old rfl rfl <| .old rfl rfl <| .nil)
  replace hst2 := hst2.fin (L' := [_, _, _]) (.cons rfl <| .cons rfl <| .nil)
  try simp only [List.take_succ_cons, List.take_zero, List.drop_succ_cons, List.drop_zero, List.cons_append, List.nil_append, List.append_nil, List.length_cons, List.length_nil, Nat.zero_add, Nat.reduceAdd] at hst2
  obtain ⟨⟨oA, cA⟩, hRa, hst2⟩ := hst2.unx (k := 1) rfl (fun _ => rfl)
  obtain ⟨⟨oB, cB⟩, hRb, hst2⟩ := hst2.unx (k := 2) rfl (fun _ => rfl)
  replace hU := hU.mono hle2
  clear hst1 hfr1 hk2
  have hSa := (rwV_open hRa).1
  have hSb := (rwV_open hRb).1
  have hIa : InI64 pa.var := (rwV_open hRa).2
  have hIb : InI64 pb.var := (rwV_open hRb).2
  refine hK4 _ _ ?_; clear hK4
  refine seq_any fun _ hK7 => ?_
  refine region_any (tch := []) (fun _ => mixed) hst2 hfr2 (by kernel_rfl) (by kernel_rfl) (by kernel_rfl) (.cons rfl (ob_fieldAddrO (off := 0) rfl Tryz.underlying43 rfl rfl Tryz.sizeOf41 rfl) <| .cons rfl (ob_loadL (j := 1) rfl rfl Tryz.isAgg41 rfl) <| .cons rfl (ob_fieldAddrO (off := 0) rfl Tryz.underlying43 rfl rfl Tryz.sizeOf41 rfl) <| .cons rfl (ob_loadL (j := 2) rfl rfl Tryz.isAgg41 rfl) <| .cons rfl (ob_call (φ := MP.strs p) rfl (.cons rfl <| .cons rfl <| .nil) Tryz.call73 (fun w m hK => by have hle_ := KC.le hK; have hA := KC.agree hK; have hSa := hSa.mono hle_; have hSb := hSb.mono hle_; exact FnG.mono ((by rw [hp9]; exact without_c hA hSa hSb (by omega) (by omega))) fun _ _ _ _ h => h)) <| .cons rfl (ob_fieldAddrO (off := 0) rfl Tryz.underlying43 rfl rfl Tryz.sizeOf41 rfl) <| .cons rfl (ob_loadL (j := 2) rfl rfl Tryz.isAgg41 rfl) <| .cons rfl (ob_fieldAddrO (off := 0) rfl Tryz.underlying43 rfl rfl Tryz.sizeOf41 rfl) <| .cons rfl (ob_loadL (j := 1) rfl rfl Tryz.isAgg41 rfl) <| .cons rfl (ob_call (φ := MP.strs k) rfl (.cons rfl <| .cons rfl <| .nil) Tryz.call73 (fun w m hK => by have hle_ := KC.le hK; have hA := KC.agree hK; have hSa := hSa.mono hle_; have hSb := hSb.mono hle_; exact FnG.mono ((by rw [hk9]; exact without_c hA hSb hSa (by omega) (by omega))) fun _ _ _ _ h => h)) <| .consA 28 rfl rfl <| .consA 33 rfl rfl <| .nil) ?_
  intro a3 w3 m3 hst3 hle3 hk3
  have hfr3 := hk3.fr (T' := [(0, _), (4, _), (5, _)]) (.old rfl rfl <| .old rfl rfl <| .old rfl rfl <| .nil)
  obtain ⟨⟨oP, cP⟩, e8, hP⟩ := hk3.ex 28 rfl
  obtain ⟨⟨oK, cK⟩, e9, hK⟩ := hk3.ex 33 rfl
  replace hfr3 := hfr3.cons (hk3.same 7 rfl e8)
  replace hfr3 := hfr3.cons (hk3.same 8 rfl e9)
  replace hU := hU.mono hle3
  clear hst2 hfr2 hk3
  refine hK7 _ _ ?_; clear hK7
  refine seq_any fun _ hK10 => ?_
  refine region_plain (fun _ => mixed) hst3 hfr3 (by kernel_rfl) (by kernel_rfl) (.cons rfl (ob_fieldAddrO (off := 1) rfl Tryz.underlying43 rfl rfl Tryz.sizeOf3 rfl) <| .cons rfl (ob_loadL (j := 1) rfl rfl Tryz.isAgg3 rfl) <| .cons rfl (ob_fieldAddrO (off := 1) rfl Tryz.underlying43 rfl rfl Tryz.sizeOf3 rfl) <| .cons rfl (ob_loadL (j := 2) rfl rfl Tryz.isAgg3 rfl) <| .cons rfl (ob_assign rfl) <| .cons rfl (ob_assign rfl) <| .nil) ?_
  intro a4 w4 m4 hst4 hle4 hk4
  have hfr4 := hk4.fr (T' := [(0, _), (7, _), (8, _), (9, _), (10, _)]) (.old rfl rfl <| .old rfl rfl <| .old rfl rfl <| .new rfl <| .new rfl <| .nil)
  replace hU := hU.mono hle4
  replace hP := hP.mono hle4
  replace hK := hK.mono hle4
  clear hst3 hfr3 hk4
  refine hK10 _ _ ?_; clear hK10
  refine seq_any fun _ hK11 => ?_
  refine wp_block ?_
  refine seq_any fun _ hK12 => ?_
  refine rp0 hst4 hfr4 (.cons rfl (ob_move rfl) <| .cons rfl (ob_len rfl Tryz.underlying41) <| .cons rfl (ob_eql rfl rfl) <| .cons rfl (ob_move rfl) <| .cons rfl (ob_move rfl) <| .cons rfl (ob_len rfl Tryz.underlying41) <| .cons rfl (ob_eql rfl rfl) <| .cons rfl (ob_and rfl rfl rfl) <| .cons rfl (ob_assign rfl) <| .nil) ?_
  intro a5 w5 m5 hst5 hle5 hk5
  have hfr5 := hk5.fr (T' := [(0, _), (7, _), (8, _), (9, _), (10, _), (59, _)]) (.old rfl rfl <| .old rfl rfl <| .old rfl rfl <| .old rfl rfl <| .old rfl rfl <| .new rfl <| .nil)
  replace hU := hU.mono hle5
  replace hP := hP.mono hle5
  replace hK := hK.mono hle5
  clear hst4 hfr4 hk5
  refine hK12 _ _ ?_; clear hK12
  refine cond_any hfr5 rfl rfl (fun hb59 => ?_) (fun hb59 => ?_)
  · try simp only [nq1, nq2, nq3, nq4, nq5, nq6, nq7, nq8, nq9, u8_eq] at hb59
    have hc1 : p = [] ∧ k = [] := ⟨hp0.1 hb59.1, hp0.1 hb59.2⟩
    rw [rowsV, if_pos hc1] at hrv
    refine wp_block ?_
    refine seq_any fun _ hK13 => ?_
    refine rp0 hst5 hfr5 (.cons rfl (ob_move rfl) <| .cons rfl (ob_move rfl) <| .cons rfl (ob_eql rfl rfl) <| .cons rfl (ob_assign rfl) <| .nil) ?_
    intro a6 w6 m6 hst6 hle6 hk6
    have hfr6 := hk6.fr (T' := [(0, _), (9, _), (10, _), (72, _)]) (.old rfl rfl <| .old rfl rfl <| .old rfl rfl <| .new rfl <| .nil)
    replace hU := hU.mono hle6
    clear hst5 hfr5 hk6
    refine hK13 _ _ ?_; clear hK13
    refine cond_any hfr6 rfl rfl (fun hb72 => ?_) (fun hb72 => ?_)
    · try simp only [nq1, nq2, nq3, nq4, nq5, nq6, nq7, nq8, nq9, u8_eq] at hb72
      rw [if_pos hb72] at hrv
      refine wp_skip ?_
      refine hK11 _ _ ?_; clear hK11
      refine seq_any fun _ hK14 => ?_
      refine rp0 hst6 hfr6 (.cons rfl (ob_assign rfl) <| .nil) ?_
      intro a7 w7 m7 hst7 hle7 hk7
      have hfr7 := hk7.fr (T' := [(6, _)]) (.new rfl <| .nil)
      replace hU := hU.mono hle7
      clear hst6 hfr6 hk7
      refine hK14 _ _ ?_; clear hK14
      refine wp_ret ?_
      repeat (with_reducible first | refine then_ret ?_ | refine block_ret ?_)
      exact fn_ret hst7 hfr7 rfl (.tmp rfl <| .nil) (⟨q, by rw [hrv]; exact (hst7.take 1).loc, by rw [hrv]; exact hU, by rw [hrv]; rfl⟩)
    · try simp only [nq1, nq2, nq3, nq4, nq5, nq6, nq7, nq8, nq9, u8_eq] at hb72
      rw [if_neg hb72] at hrv
      refine seq_any fun _ hK16 => ?_
      refine rp0 hst6 hfr6 (.cons rfl (ob_move rfl) <| .cons rfl (ob_eql rfl rfl) <| .cons rfl (ob_assign rfl) <| .nil) ?_
      intro a7 w7 m7 hst7 hle7 hk7
      have hfr7 := hk7.fr (T' := [(0, _), (9, _), (10, _), (76, _)]) (.old rfl rfl <| .old rfl rfl <| .old rfl rfl <| .new rfl <| .nil)
      replace hU := hU.mono hle7
      clear hst6 hfr6 hk7
      refine hK16 _ _ ?_; clear hK16
      refine cond_any hfr7 rfl rfl (fun hb76 => ?_) (fun hb76 => ?_)
      · try simp only [nq1, nq2, nq3, nq4, nq5, nq6, nq7, nq8, nq9, u8_eq] at hb76
        rw [if_pos hb76] at hrv
        refine region_cut 2 (by kernel_rfl) ?_
        refine ops_seq (tch := []) hst7 hfr7 (by kernel_rfl) (by kernel_rfl) (by kernel_rfl) (.cons rfl (ob_move rfl) <| .cons rfl (ob_move rfl) <| .nil) ?_
        intro a8 w8 m8 hst8 hle8 hk8
        have hfr8 := hk8.fr (T' := [(0, _), (9, _), (10, _), (79, _), (80, _)]) (.old rfl rfl <| .old rfl rfl <| .old rfl rfl <| .new rfl <| .new rfl <| .nil)
        replace hU := hU.mono hle8
        clear hst7 hfr7 hk8
        refine call_res [] [_, _] [_] hst8 hfr8 rfl (.cons rfl <| .cons rfl <| .cons rfl <| .cons rfl <| .nil) Tryz.call74 (row_r (n := pb.var) (l := []) (rv := 0) (U := U) hst8.agree (hst8.loc.at_ (k := 0) rfl) hU Sl.empty (hww.up (by omega)) (by simp) ⟨by omega, by omega⟩) ?_
        intro vr9 w9 m9 rs9 hst9 hle9 hp9
        obtain ⟨q9, rfl, hU9⟩ := hp9
        simp only [List.nil_append, List.cons_append] at hst9
        have hfr9 := (hfr8.sub (T' := [(0, _), (9, _), (10, _), (79, _), (80, _)]) (.cons rfl <| .cons rfl <| .cons rfl <| .cons rfl <| .cons rfl <| .nil)).put (d := 81) (v := vr9) (by kernel_rfl) rfl
        clear hst8 hfr8
        refine hK11 _ _ ?_; clear hK11
        refine seq_any fun _ hK17 => ?_
        refine rp0 hst9 hfr9 (.cons rfl (ob_assign rfl) <| .nil) ?_
        intro a10 w10 m10 hst10 hle10 hk10
        have hfr10 := hk10.fr (T' := [(6, _)]) (.new rfl <| .nil)
        replace hU9 := hU9.mono hle10
        clear hst9 hfr9 hk10
        refine hK17 _ _ ?_; clear hK17
        refine wp_ret ?_
        repeat (with_reducible first | refine then_ret ?_ | refine block_ret ?_)
        exact fn_ret hst10 hfr10 rfl (.tmp rfl <| .nil) (⟨q9, by rw [hrv]; exact (hst10.take 1).loc, by rw [hrv]; exact hU9, by rw [hrv]; rfl⟩)
      · try simp only [nq1, nq2, nq3, nq4, nq5, nq6, nq7, nq8, nq9, u8_eq] at hb76
        rw [if_neg hb76] at hrv
        refine region_cut 3 (by kernel_rfl) ?_
        refine ops_seq (tch := []) hst7 hfr7 (by kernel_rfl) (by kernel_rfl) (by kernel_rfl) (.cons rfl (ob_move rfl) <| .cons rfl (ob_move rfl) <| .cons rfl (ob_move rfl) <| .nil) ?_
        intro a8 w8 m8 hst8 hle8 hk8
        have hfr8 := hk8.fr (T' := [(0, _), (9, _), (10, _), (68, _), (69, _), (70, _)]) (.old rfl rfl <| .old rfl rfl <| .old rfl rfl <| .new rfl <| .new rfl <| .new rfl <| .nil)
        replace hU := hU.mono hle8
        clear hst7 hfr7 hk8
        refine call_res [] [_, _] [_] hst8 hfr8 rfl (.cons rfl <| .cons rfl <| .cons rfl <| .cons rfl <| .nil) Tryz.call74 (row_r (n := pa.var) (l := []) (rv := pb.var) (U := U) hst8.agree (hst8.loc.at_ (k := 0) rfl) hU Sl.empty (hww.up (by omega)) (by simp) hIb) ?_
        intro vr9 w9 m9 rs9 hst9 hle9 hp9
        obtain ⟨q9, rfl, hU9⟩ := hp9
        simp only [List.nil_append, List.cons_append] at hst9
        have hfr9 := (hfr8.sub (T' := [(0, _), (9, _), (10, _), (68, _), (69, _), (70, _)]) (.cons rfl <| .cons rfl <| .cons rfl <| .cons rfl <| .cons rfl <| .cons rfl <| .nil)).put (d := 71) (v := vr9) (by kernel_rfl) rfl
        clear hst8 hfr8
        refine hK11 _ _ ?_; clear hK11
        refine seq_any fun _ hK19 => ?_
        refine rp0 hst9 hfr9 (.cons rfl (ob_assign rfl) <| .nil) ?_
        intro a10 w10 m10 hst10 hle10 hk10
        have hfr10 := hk10.fr (T' := [(6, _)]) (.new rfl <| .nil)
        replace hU9 := hU9.mono hle10
        clear hst9 hfr9 hk10
        refine hK19 _ _ ?_; clear hK19
        refine wp_ret ?_
        repeat (with_reducible first | refine then_ret ?_ | refine block_ret ?_)
        exact fn_ret hst10 hfr10 rfl (.tmp rfl <| .nil) (⟨q9, by rw [hrv]; exact (hst10.take 1).loc, by rw [hrv]; exact hU9, by rw [hrv]; rfl⟩)
  · try simp only [nq1, nq2, nq3, nq4, nq5, nq6, nq7, nq8, nq9, u8_eq] at hb59
    have hc1 : ¬ (p = [] ∧ k = []) := fun h => by rcases hb59 with h9 | h9; (exact h9 (hp0.2 h.1)); exact h9 (hp0.2 h.2)
    rw [rowsV, if_neg hc1] at hrv
    refine seq_any fun _ hK21 => ?_
    refine seq_any fun _ hK22 => ?_
    refine rp0 hst5 hfr5 (.cons rfl (ob_move rfl) <| .cons rfl (ob_len rfl Tryz.underlying41) <| .cons rfl (ob_gtr rfl rfl) <| .cons rfl (ob_move rfl) <| .cons rfl (ob_move rfl) <| .cons rfl (ob_eql rfl rfl) <| .cons rfl (ob_and rfl rfl rfl) <| .cons rfl (ob_assign rfl) <| .nil) ?_
    intro a6 w6 m6 hst6 hle6 hk6
    have hfr6 := hk6.fr (T' := [(0, _), (7, _), (8, _), (9, _), (10, _), (82, _)]) (.old rfl rfl <| .old rfl rfl <| .old rfl rfl <| .old rfl rfl <| .old rfl rfl <| .new rfl <| .nil)
    replace hU := hU.mono hle6
    replace hP := hP.mono hle6
    replace hK := hK.mono hle6
    clear hst5 hfr5 hk6
    refine hK22 _ _ ?_; clear hK22
    refine cond_any hfr6 rfl rfl (fun hb82 => ?_) (fun hb82 => ?_)
    · try simp only [nq1, nq2, nq3, nq4, nq5, nq6, nq7, nq8, nq9, u8_eq] at hb82
      have hc2 : (p ≠ [] ∧ pb.var = 0) ∨ (k ≠ [] ∧ pa.var = 0) ∨ pa.var = pb.var := by first | exact .inl ⟨fun h => by rw [h] at hb82; exact absurd hb82.1 (by simp), hb82.2⟩ | exact .inr (.inl ⟨fun h => by rw [h] at hb82; exact absurd hb82.1 (by simp), hb82.2⟩) | exact .inr (.inr hb82)
      try rw [if_pos hc2] at hrv
      refine wp_skip ?_
      refine hK21 _ _ ?_; clear hK21
      refine cond_any hfr6 rfl rfl (fun hb82x => ?_) (fun hb82x => ?_)
      · try simp only [nq1, nq2, nq3, nq4, nq5, nq6, nq7, nq8, nq9, u8_eq] at hb82x
        have hc2 : (p ≠ [] ∧ pb.var = 0) ∨ (k ≠ [] ∧ pa.var = 0) ∨ pa.var = pb.var := by first | exact .inl ⟨fun h => by rw [h] at hb82; exact absurd hb82.1 (by simp), hb82.2⟩ | exact .inr (.inl ⟨fun h => by rw [h] at hb82; exact absurd hb82.1 (by simp), hb82.2⟩) | exact .inr (.inr hb82)
        try rw [if_pos hc2] at hrv
        refine seq_any fun _ hK23 => ?_
        refine rp0 hst6 hfr6 (.cons rfl (ob_assign rfl) <| .nil) ?_
        intro a7 w7 m7 hst7 hle7 hk7
        have hfr7 := hk7.fr (T' := [(6, _)]) (.new rfl <| .nil)
        replace hU := hU.mono hle7
        clear hst6 hfr6 hk7
        refine hK23 _ _ ?_; clear hK23
        refine wp_ret ?_
        repeat (with_reducible first | refine then_ret ?_ | refine block_ret ?_)
        exact fn_ret hst7 hfr7 rfl (.tmp rfl <| .nil) (⟨q, by rw [hrv]; exact (hst7.take 1).loc, by rw [hrv]; exact hU, by rw [hrv]; rfl⟩)
      · exfalso; try simp only [nq1, nq2, nq3, nq4, nq5, nq6, nq7, nq8, nq9, u8_eq] at hb82x
        first | exact absurd hb82x hb82 | exact absurd hb82 hb82x | simp_all
    · try simp only [nq1, nq2, nq3, nq4, nq5, nq6, nq7, nq8, nq9, u8_eq] at hb82
      try rw [if_neg (show ¬ ((p ≠ [] ∧ pb.var = 0) ∨ (k ≠ [] ∧ pa.var = 0) ∨ pa.var = pb.var) from fun h => by rcases h with ⟨h1, h2⟩ | ⟨h1, h2⟩ | h3; (rcases hf1 with h9 | h9; (exact h1 (hp0.1 (by omega))); exact h9 h2); (rcases hf2 with h9 | h9; (exact h1 (hp0.1 (by omega))); exact h9 h2); exact hb82 h3)] at hrv
      refine seq_any fun _ hK25 => ?_
      have hf1 := hb82
      refine rp0 hst6 hfr6 (.cons rfl (ob_move rfl) <| .cons rfl (ob_len rfl Tryz.underlying41) <| .cons rfl (ob_gtr rfl rfl) <| .cons rfl (ob_move rfl) <| .cons rfl (ob_move rfl) <| .cons rfl (ob_eql rfl rfl) <| .cons rfl (ob_and rfl rfl rfl) <| .cons rfl (ob_assign rfl) <| .nil) ?_
      intro a7 w7 m7 hst7 hle7 hk7
      have hfr7 := hk7.fr (T' := [(0, _), (7, _), (8, _), (9, _), (10, _), (82, _)]) (.old rfl rfl <| .old rfl rfl <| .old rfl rfl <| .old rfl rfl <| .old rfl rfl <| .new rfl <| .nil)
      replace hU := hU.mono hle7
      replace hP := hP.mono hle7
      replace hK := hK.mono hle7
      clear hst6 hfr6 hk7
      refine hK25 _ _ ?_; clear hK25
      refine cond_any hfr7 rfl rfl (fun hb82 => ?_) (fun hb82 => ?_)
      · try simp only [nq1, nq2, nq3, nq4, nq5, nq6, nq7, nq8, nq9, u8_eq] at hb82
        have hc2 : (p ≠ [] ∧ pb.var = 0) ∨ (k ≠ [] ∧ pa.var = 0) ∨ pa.var = pb.var := by first | exact .inl ⟨fun h => by rw [h] at hb82; exact absurd hb82.1 (by simp), hb82.2⟩ | exact .inr (.inl ⟨fun h => by rw [h] at hb82; exact absurd hb82.1 (by simp), hb82.2⟩) | exact .inr (.inr hb82)
        try rw [if_pos hc2] at hrv
        refine wp_skip ?_
        refine hK21 _ _ ?_; clear hK21
        refine cond_any hfr7 rfl rfl (fun hb82x => ?_) (fun hb82x => ?_)
        · try simp only [nq1, nq2, nq3, nq4, nq5, nq6, nq7, nq8, nq9, u8_eq] at hb82x
          have hc2 : (p ≠ [] ∧ pb.var = 0) ∨ (k ≠ [] ∧ pa.var = 0) ∨ pa.var = pb.var := by first | exact .inl ⟨fun h => by rw [h] at hb82; exact absurd hb82.1 (by simp), hb82.2⟩ | exact .inr (.inl ⟨fun h => by rw [h] at hb82; exact absurd hb82.1 (by simp), hb82.2⟩) | exact .inr (.inr hb82)
          try rw [if_pos hc2] at hrv
          refine seq_any fun _ hK26 => ?_
          refine rp0 hst7 hfr7 (.cons rfl (ob_assign rfl) <| .nil) ?_
          intro a8 w8 m8 hst8 hle8 hk8
          have hfr8 := hk8.fr (T' := [(6, _)]) (.new rfl <| .nil)
          replace hU := hU.mono hle8
          clear hst7 hfr7 hk8
          refine hK26 _ _ ?_; clear hK26
          refine wp_ret ?_
          repeat (with_reducible first | refine then_ret ?_ | refine block_ret ?_)
          exact fn_ret hst8 hfr8 rfl (.tmp rfl <| .nil) (⟨q, by rw [hrv]; exact (hst8.take 1).loc, by rw [hrv]; exact hU, by rw [hrv]; rfl⟩)
        · exfalso; try simp only [nq1, nq2, nq3, nq4, nq5, nq6, nq7, nq8, nq9, u8_eq] at hb82x
          first | exact absurd hb82x hb82 | exact absurd hb82 hb82x | simp_all
      · try simp only [nq1, nq2, nq3, nq4, nq5, nq6, nq7, nq8, nq9, u8_eq] at hb82
        try rw [if_neg (show ¬ ((p ≠ [] ∧ pb.var = 0) ∨ (k ≠ [] ∧ pa.var = 0) ∨ pa.var = pb.var) from fun h => by rcases h with ⟨h1, h2⟩ | ⟨h1, h2⟩ | h3; (rcases hf1 with h9 | h9; (exact h1 (hp0.1 (by omega))); exact h9 h2); (rcases hf2 with h9 | h9; (exact h1 (hp0.1 (by omega))); exact h9 h2); exact hb82 h3)] at hrv
        have hf2 := hb82
        refine rp0 hst7 hfr7 (.cons rfl (ob_move rfl) <| .cons rfl (ob_move rfl) <| .cons rfl (ob_eql rfl rfl) <| .cons rfl (ob_assign rfl) <| .nil) ?_
        intro a8 w8 m8 hst8 hle8 hk8
        have hfr8 := hk8.fr (T' := [(0, _), (7, _), (8, _), (9, _), (10, _), (82, _)]) (.old rfl rfl <| .old rfl rfl <| .old rfl rfl <| .old rfl rfl <| .old rfl rfl <| .new rfl <| .nil)
        replace hU := hU.mono hle8
        replace hP := hP.mono hle8
        replace hK := hK.mono hle8
        clear hst7 hfr7 hk8
        refine hK21 _ _ ?_; clear hK21
        refine cond_any hfr8 rfl rfl (fun hb82 => ?_) (fun hb82 => ?_)
        · try simp only [nq1, nq2, nq3, nq4, nq5, nq6, nq7, nq8, nq9, u8_eq] at hb82
          have hc2 : (p ≠ [] ∧ pb.var = 0) ∨ (k ≠ [] ∧ pa.var = 0) ∨ pa.var = pb.var := by first | exact .inl ⟨fun h => by rw [h] at hb82; exact absurd hb82.1 (by simp), hb82.2⟩ | exact .inr (.inl ⟨fun h => by rw [h] at hb82; exact absurd hb82.1 (by simp), hb82.2⟩) | exact .inr (.inr hb82)
          try rw [if_pos hc2] at hrv
          refine seq_any fun _ hK28 => ?_
          refine rp0 hst8 hfr8 (.cons rfl (ob_assign rfl) <| .nil) ?_
          intro a9 w9 m9 hst9 hle9 hk9
          have hfr9 := hk9.fr (T' := [(6, _)]) (.new rfl <| .nil)
          replace hU := hU.mono hle9
          clear hst8 hfr8 hk9
          refine hK28 _ _ ?_; clear hK28
          refine wp_ret ?_
          repeat (with_reducible first | refine then_ret ?_ | refine block_ret ?_)
          exact fn_ret hst9 hfr9 rfl (.tmp rfl <| .nil) (⟨q, by rw [hrv]; exact (hst9.take 1).loc, by rw [hrv]; exact hU, by rw [hrv]; rfl⟩)
        · try simp only [nq1, nq2, nq3, nq4, nq5, nq6, nq7, nq8, nq9, u8_eq] at hb82
          try rw [if_neg (show ¬ ((p ≠ [] ∧ pb.var = 0) ∨ (k ≠ [] ∧ pa.var = 0) ∨ pa.var = pb.var) from fun h => by rcases h with ⟨h1, h2⟩ | ⟨h1, h2⟩ | h3; (rcases hf1 with h9 | h9; (exact h1 (hp0.1 (by omega))); exact h9 h2); (rcases hf2 with h9 | h9; (exact h1 (hp0.1 (by omega))); exact h9 h2); exact hb82 h3)] at hrv
          refine seq_any fun _ hK30 => ?_
          refine rp0 hst8 hfr8 (.cons rfl (ob_move rfl) <| .cons rfl (ob_len rfl Tryz.underlying41) <| .cons rfl (ob_eql rfl rfl) <| .cons rfl (ob_assign rfl) <| .nil) ?_
          intro a9 w9 m9 hst9 hle9 hk9
          have hfr9 := hk9.fr (T' := [(0, _), (7, _), (8, _), (9, _), (10, _), (100, _)]) (.old rfl rfl <| .old rfl rfl <| .old rfl rfl <| .old rfl rfl <| .old rfl rfl <| .new rfl <| .nil)
          replace hU := hU.mono hle9
          replace hP := hP.mono hle9
          replace hK := hK.mono hle9
          clear hst8 hfr8 hk9
          refine hK30 _ _ ?_; clear hK30
          refine cond_any hfr9 rfl rfl (fun hb100 => ?_) (fun hb100 => ?_)
          · try simp only [nq1, nq2, nq3, nq4, nq5, nq6, nq7, nq8, nq9, u8_eq] at hb100
            rw [if_pos (hp0.1 hb100)] at hrv
            refine region_cut 4 (by kernel_rfl) ?_
            refine ops_seq (tch := []) hst9 hfr9 (by kernel_rfl) (by kernel_rfl) (by kernel_rfl) (.cons rfl (ob_move rfl) <| .cons rfl (ob_move rfl) <| .cons rfl (ob_move rfl) <| .cons rfl (ob_move rfl) <| .nil) ?_
            intro a10 w10 m10 hst10 hle10 hk10
            have hfr10 := hk10.fr (T' := [(0, _), (7, _), (8, _), (9, _), (10, _), (104, _), (105, _), (106, _), (107, _)]) (.old rfl rfl <| .old rfl rfl <| .old rfl rfl <| .old rfl rfl <| .old rfl rfl <| .new rfl <| .new rfl <| .new rfl <| .new rfl <| .nil)
            replace hU := hU.mono hle10
            replace hP := hP.mono hle10
            clear hst9 hfr9 hk10
            refine call_res [] [_, _] [_] hst10 hfr10 rfl (.cons rfl <| .cons rfl <| .cons rfl <| .cons rfl <| .nil) Tryz.call74 (row_r (n := pb.var) (l := p) (rv := pa.var) (U := U) hst10.agree (hst10.loc.at_ (k := 0) rfl) hU hP (hww.up (by omega)) (by omega) hIa) ?_
            intro vr11 w11 m11 rs11 hst11 hle11 hp11
            obtain ⟨q9, rfl, hU9⟩ := hp11
            simp only [List.nil_append, List.cons_append] at hst11
            have hfr11 := (hfr10.sub (T' := [(0, _), (7, _), (8, _), (9, _), (10, _), (104, _), (105, _), (106, _), (107, _)]) (.cons rfl <| .cons rfl <| .cons rfl <| .cons rfl <| .cons rfl <| .cons rfl <| .cons rfl <| .cons rfl <| .cons rfl <| .nil)).put (d := 108) (v := vr11) (by kernel_rfl) rfl
            clear hst10 hfr10
            refine hK11 _ _ ?_; clear hK11
            refine seq_any fun _ hK31 => ?_
            refine rp0 hst11 hfr11 (.cons rfl (ob_assign rfl) <| .nil) ?_
            intro a12 w12 m12 hst12 hle12 hk12
            have hfr12 := hk12.fr (T' := [(6, _)]) (.new rfl <| .nil)
            replace hU9 := hU9.mono hle12
            clear hst11 hfr11 hk12
            refine hK31 _ _ ?_; clear hK31
            refine wp_ret ?_
            repeat (with_reducible first | refine then_ret ?_ | refine block_ret ?_)
            exact fn_ret hst12 hfr12 rfl (.tmp rfl <| .nil) (⟨q9, by rw [hrv]; exact (hst12.take 1).loc, by rw [hrv]; exact hU9, by rw [hrv]; rfl⟩)
          · try simp only [nq1, nq2, nq3, nq4, nq5, nq6, nq7, nq8, nq9, u8_eq] at hb100
            rw [if_neg (fun h => hb100 (hp0.2 h))] at hrv
            refine seq_any fun _ hK33 => ?_
            refine rp0 hst9 hfr9 (.cons rfl (ob_move rfl) <| .cons rfl (ob_len rfl Tryz.underlying41) <| .cons rfl (ob_eql rfl rfl) <| .cons rfl (ob_assign rfl) <| .nil) ?_
            intro a10 w10 m10 hst10 hle10 hk10
            have hfr10 := hk10.fr (T' := [(0, _), (7, _), (8, _), (9, _), (10, _), (109, _)]) (.old rfl rfl <| .old rfl rfl <| .old rfl rfl <| .old rfl rfl <| .old rfl rfl <| .new rfl <| .nil)
            replace hU := hU.mono hle10
            replace hP := hP.mono hle10
            replace hK := hK.mono hle10
            clear hst9 hfr9 hk10
            refine hK33 _ _ ?_; clear hK33
            refine cond_any hfr10 rfl rfl (fun hb109 => ?_) (fun hb109 => ?_)
            · try simp only [nq1, nq2, nq3, nq4, nq5, nq6, nq7, nq8, nq9, u8_eq] at hb109
              rw [if_pos (hp0.1 hb109)] at hrv
              refine region_cut 4 (by kernel_rfl) ?_
              refine ops_seq (tch := []) hst10 hfr10 (by kernel_rfl) (by kernel_rfl) (by kernel_rfl) (.cons rfl (ob_move rfl) <| .cons rfl (ob_move rfl) <| .cons rfl (ob_move rfl) <| .cons rfl (ob_move rfl) <| .nil) ?_
              intro a11 w11 m11 hst11 hle11 hk11
              have hfr11 := hk11.fr (T' := [(0, _), (7, _), (8, _), (9, _), (10, _), (113, _), (114, _), (115, _), (116, _)]) (.old rfl rfl <| .old rfl rfl <| .old rfl rfl <| .old rfl rfl <| .old rfl rfl <| .new rfl <| .new rfl <| .new rfl <| .new rfl <| .nil)
              replace hU := hU.mono hle11
              replace hK := hK.mono hle11
              clear hst10 hfr10 hk11
              refine call_res [] [_, _] [_] hst11 hfr11 rfl (.cons rfl <| .cons rfl <| .cons rfl <| .cons rfl <| .nil) Tryz.call74 (row_r (n := pa.var) (l := k) (rv := pb.var) (U := U) hst11.agree (hst11.loc.at_ (k := 0) rfl) hU hK (hww.up (by omega)) (by omega) hIb) ?_
              intro vr12 w12 m12 rs12 hst12 hle12 hp12
              obtain ⟨q9, rfl, hU9⟩ := hp12
              simp only [List.nil_append, List.cons_append] at hst12
              have hfr12 := (hfr11.sub (T' := [(0, _), (7, _), (8, _), (9, _), (10, _), (113, _), (114, _), (115, _), (116, _)]) (.cons rfl <| .cons rfl <| .cons rfl <| .cons rfl <| .cons rfl <| .cons rfl <| .cons rfl <| .cons rfl <| .cons rfl <| .nil)).put (d := 117) (v := vr12) (by kernel_rfl) rfl
              clear hst11 hfr11
              refine hK11 _ _ ?_; clear hK11
              refine seq_any fun _ hK34 => ?_
              refine rp0 hst12 hfr12 (.cons rfl (ob_assign rfl) <| .nil) ?_
              intro a13 w13 m13 hst13 hle13 hk13
              have hfr13 := hk13.fr (T' := [(6, _)]) (.new rfl <| .nil)
              replace hU9 := hU9.mono hle13
              clear hst12 hfr12 hk13
              refine hK34 _ _ ?_; clear hK34
              refine wp_ret ?_
              repeat (with_reducible first | refine then_ret ?_ | refine block_ret ?_)
              exact fn_ret hst13 hfr13 rfl (.tmp rfl <| .nil) (⟨q9, by rw [hrv]; exact (hst13.take 1).loc, by rw [hrv]; exact hU9, by rw [hrv]; rfl⟩)
            · try simp only [nq1, nq2, nq3, nq4, nq5, nq6, nq7, nq8, nq9, u8_eq] at hb109
              rw [if_neg (fun h => hb109 (hp0.2 h))] at hrv
              refine seq_any fun _ hK36 => ?_
              refine rp0 hst10 hfr10 (.cons rfl (ob_move rfl) <| .cons rfl (ob_nilCheck rfl) <| .cons rfl (ob_fieldAddrO (off := 2) rfl Tryz.underlying74 rfl rfl Tryz.sizeOf3 rfl) <| .cons rfl (ob_loadL (j := 0) rfl rfl Tryz.isAgg3 rfl) <| .cons rfl (ob_assign rfl) <| .nil) ?_
              intro a11 w11 m11 hst11 hle11 hk11
              have hfr11 := hk11.fr (T' := [(0, _), (7, _), (8, _), (9, _), (10, _), (11, _)]) (.old rfl rfl <| .old rfl rfl <| .old rfl rfl <| .old rfl rfl <| .old rfl rfl <| .new rfl <| .nil)
              replace hU := hU.mono hle11
              replace hP := hP.mono hle11
              replace hK := hK.mono hle11
              clear hst10 hfr10 hk11
              refine hK36 _ _ ?_; clear hK36
              refine seq_any fun _ hK37 => ?_
              refine ra0 (tch := [(7, 0, (fun _ => .blk _ _))]) hst11 hfr11 (.cons rfl (ob_move rfl) <| .cons rfl (ob_nilCheck rfl) <| .cons rfl (ob_fieldAddrO (off := 2) rfl Tryz.underlying74 rfl rfl Tryz.sizeOf3 rfl) <| .cons rfl (ob_loadL (j := 0) rfl rfl Tryz.isAgg3 rfl) <| .cons rfl (ob_add rfl rfl ⟨by omega, by omega⟩) <| .cons rfl (ob_nilCheck rfl) <| .cons rfl (ob_fieldAddrO (off := 2) rfl Tryz.underlying74 rfl rfl Tryz.sizeOf3 rfl) <| .consT rfl rfl (fun _ => rfl) rfl (ob_store rfl rfl rfl Tryz.sizeOf3 rfl rfl rfl) <| .nil) ?_
              intro a12 w12 m12 hst12 hle12 hk12
              have hfr12 := hk12.fr (T' := [(0, _), (7, _), (8, _), (9, _), (10, _), (11, _)]) (.old rfl rfl <| .old rfl rfl <| .old rfl rfl <| .old rfl rfl <| .old rfl rfl <| .old rfl rfl <| .nil)
              replace hst12 := hst12.fin (L' := [_, _, _]) (.cons rfl <| .nil)
              try simp only [List.take_succ_cons, List.take_zero, List.drop_succ_cons, List.drop_zero, List.cons_append, List.nil_append, List.append_nil, List.length_cons, List.length_nil, Nat.zero_add, Nat.reduceAdd] at hst12
              replace hU := hU.mono hle12
              replace hP := hP.mono hle12
              replace hK := hK.mono hle12
              clear hst11 hfr11 hk12
              have hst12 : St [g] w m [UB g q (U.nx + 1), _, _] w12 m12 := hst12
              refine hK37 _ _ ?_; clear hK37
              refine seq_any fun _ hK38 => ?_
              refine region_cut 4 (by kernel_rfl) ?_
              refine ops_seq (tch := []) hst12 hfr12 (by kernel_rfl) (by kernel_rfl) (by kernel_rfl) (.cons rfl (ob_move rfl) <| .cons rfl (ob_move rfl) <| .cons rfl (ob_move rfl) <| .cons rfl (ob_move rfl) <| .nil) ?_
              intro a13 w13 m13 hst13 hle13 hk13
              have hfr13 := hk13.fr (T' := [(0, _), (7, _), (8, _), (9, _), (10, _), (11, _), (49, _), (50, _), (51, _), (52, _)]) (.old rfl rfl <| .old rfl rfl <| .old rfl rfl <| .old rfl rfl <| .old rfl rfl <| .old rfl rfl <| .new rfl <| .new rfl <| .new rfl <| .new rfl <| .nil)
              replace hU := hU.mono hle13
              replace hP := hP.mono hle13
              replace hK := hK.mono hle13
              clear hst12 hfr12 hk13
              refine call_res [] [_, _] [_] hst13 hfr13 rfl (.cons rfl <| .cons rfl <| .cons rfl <| .cons rfl <| .nil) Tryz.call74 (row_r (n := pa.var) (l := k) (rv := U.nx) (U := ⟨U.s, U.nx + 1⟩) hst13.agree (hst13.loc.at_ (k := 0) rfl) hU hK (hww.up (by omega)) (by omega) ⟨by omega, by omega⟩) ?_
              intro vr14 w14 m14 rs14 hst14 hle14 hp14
              obtain ⟨q9, rfl, hU9⟩ := hp14
              simp only [List.nil_append, List.cons_append] at hst14
              have hfr14 := (hfr13.sub (T' := [(0, _), (7, _), (8, _), (9, _), (10, _), (11, _), (49, _), (50, _), (51, _), (52, _)]) (.cons rfl <| .cons rfl <| .cons rfl <| .cons rfl <| .cons rfl <| .cons rfl <| .cons rfl <| .cons rfl <| .cons rfl <| .cons rfl <| .nil)).put (d := 53) (v := vr14) (by kernel_rfl) rfl
              replace hU := hU.mono hle14
              replace hP := hP.mono hle14
              clear hst13 hfr13
              have hw9 := thenR_w (A := 50000000) (B := 100000000) hU.apart hww (oneR_w (n := pa.var) (r := ⟨k, U.nx⟩) (by show k.length ≤ _; omega))
              refine hK38 _ _ ?_; clear hK38
              refine region_cut 4 (by kernel_rfl) ?_
              refine ops_seq (tch := []) hst14 hfr14 (by kernel_rfl) (by kernel_rfl) (by kernel_rfl) (.cons rfl (ob_move rfl) <| .cons rfl (ob_move rfl) <| .cons rfl (ob_move rfl) <| .cons rfl (ob_move rfl) <| .nil) ?_
              intro a15 w15 m15 hst15 hle15 hk15
              have hfr15 := hk15.fr (T' := [(0, _), (7, _), (8, _), (9, _), (10, _), (11, _), (49, _), (50, _), (51, _), (52, _), (54, _), (55, _), (56, _), (57, _)]) (.old rfl rfl <| .old rfl rfl <| .old rfl rfl <| .old rfl rfl <| .old rfl rfl <| .old rfl rfl <| .old rfl rfl <| .old rfl rfl <| .old rfl rfl <| .old rfl rfl <| .new rfl <| .new rfl <| .new rfl <| .new rfl <| .nil)
              replace hP := hP.mono hle15
              replace hU9 := hU9.mono hle15
              clear hst14 hfr14 hk15
              refine call_res [] [_, _] [_] hst15 hfr15 rfl (.cons rfl <| .cons rfl <| .cons rfl <| .cons rfl <| .nil) Tryz.call74 (row_r (n := pb.var) (l := p) (rv := U.nx) (U := ⟨rowU pa.var k U.nx U.s, U.nx + 1⟩) hst15.agree (hst15.loc.at_ (k := 0) rfl) hU9 hP (hw9.up (by omega)) (by omega) ⟨by omega, by omega⟩) ?_
              intro vr16 w16 m16 rs16 hst16 hle16 hp16
              obtain ⟨q10, rfl, hU10⟩ := hp16
              simp only [List.nil_append, List.cons_append] at hst16
              have hfr16 := (hfr15.sub (T' := [(0, _), (7, _), (8, _), (9, _), (10, _), (11, _), (49, _), (50, _), (51, _), (52, _), (54, _), (55, _), (56, _), (57, _)]) (.cons rfl <| .cons rfl <| .cons rfl <| .cons rfl <| .cons rfl <| .cons rfl <| .cons rfl <| .cons rfl <| .cons rfl <| .cons rfl <| .cons rfl <| .cons rfl <| .cons rfl <| .cons rfl <| .nil)).put (d := 58) (v := vr16) (by kernel_rfl) rfl
              clear hst15 hfr15
              refine hK11 _ _ ?_; clear hK11
              refine seq_any fun _ hK39 => ?_
              refine rp0 hst16 hfr16 (.cons rfl (ob_assign rfl) <| .nil) ?_
              intro a17 w17 m17 hst17 hle17 hk17
              have hfr17 := hk17.fr (T' := [(6, _)]) (.new rfl <| .nil)
              replace hU10 := hU10.mono hle17
              clear hst16 hfr16 hk17
              refine hK39 _ _ ?_; clear hK39
              refine wp_ret ?_
              repeat (with_reducible first | refine then_ret ?_ | refine block_ret ?_)
              exact fn_ret hst17 hfr17 rfl (.tmp rfl <| .nil) (⟨q10, by rw [hrv]; exact (hst17.take 1).loc, by rw [hrv]; exact hU10, by rw [hrv]; rfl⟩)

end Go.Proofs.YtlidonjpgigocaaGreat
