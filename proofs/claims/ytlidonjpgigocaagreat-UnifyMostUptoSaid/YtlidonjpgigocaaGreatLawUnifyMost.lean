/-
  'brocadelaw07': what the laws say, in plain words. Conditions: those of each theorem.
-/
import Derived.Test.YtlidonjpgigocaaGreatP9
namespace Go.Proofs.YtlidonjpgigocaaGreat
set_option linter.all false
set_option maxRecDepth 4000
open Go.RowKit
structure Say where
  n : Int
  ofRow : Bool
  ty : Ty
  row : Rw
abbrev sayV (x : Say) (y : (Option Addr × Nat) × (Option Addr × Nat)) (z : Option Addr × Nat) : List Value := .int .i64 x.n :: .bool x.ofRow :: (tyV x.ty y ++ rwV x.row z)
def SayR (m : Mem) (x : Say) (vs : List Value) : Prop := ∃ y z, vs = sayV x y z ∧ InI64 x.n ∧ TyR m x.ty (tyV x.ty y) ∧ RwR m x.row (rwV x.row z)
theorem SayR.mono {m m' : Mem} {x : Say} {vs : List Value} (h : SayR m x vs) (hm : MLe m m') : SayR m' x vs := by obtain ⟨y, z, e, h0, h1, h2⟩ := h; exact ⟨y, z, e, h0, h1.mono hm, h2.mono hm⟩
abbrev Says (m : Mem) (o : Option Addr) (n c : Nat) (l : List Say) : Prop := Sl (fun m vs x => SayR m x vs) 10 m o n c l
theorem Says.mono {m m' : Mem} {o : Option Addr} {n c : Nat} {l : List Say} (h : Says m o n c l) (hm : MLe m m') : Says m' o n c l := Sl.mono h (fun _ _ e => e.mono hm) hm
def keyS (n : Int) : Int := 1 + band n 7
theorem band7 (n : Int) : 0 ≤ band n 7 ∧ band n 7 ≤ 7 := band_le n 7 (by omega)
set_option maxHeartbeats 6400000 in
theorem unifyMost_c {w : World} {m : Mem} {a : Ty} {vs_a : List Value} {b : Ty} {vs_b : List Value} {o_l : Option Addr} {c_l : Nat} {l : List Say} (hA : Agree w m) (h_a : TyR m a vs_a) (h_b : TyR m b vs_b) (h_l : Says m o_l l.length c_l l) (hw_a : wdT a ≤ 10000000) (hc_a : cntT a ≤ 10000000) (hw_b : wdT b ≤ 10000000) (hc_b : cntT b ≤ 10000000) (hw : ∀ x ∈ l, wdT x.ty ≤ 100000000 ∧ x.row.labels.length ≤ 100000000 ∧ cntT x.ty ≤ 100000000) : FnV Tryz.prog 5 #[.agg vs_a.toArray, .agg vs_b.toArray, .slice o_l l.length c_l] w m (fun _ _ v => v = .bool true) := by
  obtain ⟨o_a, c_a, oL_a, cL_a, rfl, hk_a, hs_a, hi_a, hj_a, hr_a⟩ := h_a.open_
  have hbg_a := hk_a.big; have hcp_a := hk_a.cap; have hbs_a := hs_a.big; have hcs_a := hs_a.cap
  have hrw_a : RwR _ ⟨a.labels, a.rv⟩ _ := ⟨_, _, rfl, hs_a, hr_a⟩
  obtain ⟨o_b, c_b, oL_b, cL_b, rfl, hk_b, hs_b, hi_b, hj_b, hr_b⟩ := h_b.open_
  have hbg_b := hk_b.big; have hcp_b := hk_b.cap; have hbs_b := hs_b.big; have hcs_b := hs_b.cap
  have hrw_b : RwR _ ⟨b.labels, b.rv⟩ _ := ⟨_, _, rfl, hs_b, hr_b⟩
  have hb_l := h_l.big; have hc_l := h_l.cap
  refine fn_enter (vs := [_, _, _]) Tryz.func5 rfl rfl rfl fun a0 hfr0 => ?_
  have hst0 := st_enter hA (loc_nil [] _ w m)
  have hM : MLe m m := MLe.refl m
  refine seq_any fun _ hK1 => ?_
  refine rp0 hst0 hfr0 (.cons rfl (ob_box rfl rfl) <| .cons rfl (ob_box rfl rfl) <| .cons rfl (ob_assign rfl) <| .nil) ?_
  intro a1 w1 m1 hst1 hle1 hk1
  have hfr1 := hk1.fr (T' := [(2, _)]) (.old rfl rfl <| .nil)
  obtain ⟨g2, e2, hc3⟩ := hk1.ex 3 rfl
  replace hfr1 := hfr1.cons e2
  obtain ⟨g3, e3, hc4⟩ := hk1.ex 4 rfl
  replace hfr1 := hfr1.cons e3
  replace h_a := h_a.mono hle1
  replace h_b := h_b.mono hle1
  replace h_l := h_l.mono hle1
  clear hst0 hfr0 hk1
  refine hK1 _ _ ?_; clear hK1
  refine seq_any fun _ hK4 => ?_
  refine rp0 hst1 hfr1 (.cons rfl (ob_callE rfl (.nil) Tryz.call9 (fun w m hK => by have hle_ := KC.le hK; have hA := KC.agree hK; exact shown_c hA)) <| .cons rfl (ob_assign rfl) <| .nil) ?_
  intro a2 w2 m2 hst2 hle2 hk2
  have hfr2 := hk2.fr (T' := [(2, _), (3, _), (4, _), (7, _)]) (.old rfl rfl <| .old rfl rfl <| .old rfl rfl <| .new rfl <| .nil)
  replace h_a := h_a.mono hle2
  replace h_b := h_b.mono hle2
  replace h_l := h_l.mono hle2
  replace hc3 := hc3.mono hle2
  replace hc4 := hc4.mono hle2
  clear hst1 hfr1 hk2
  refine hK4 _ _ ?_; clear hK4
  refine seq_any fun _ hK5 => ?_
  refine seq_any fun _ hK6 => ?_
  refine rp0 hst2 hfr2 (.cons rfl (ob_loadS' rfl hc3 Tryz.isAgg45 Tryz.sizeOf45 rfl rfl) <| .cons rfl (ob_callE rfl (.cons rfl <| .nil) Tryz.call11 (fun w m hK => by have hle_ := KC.le hK; have hA := KC.agree hK; have h_a := h_a.mono hle_; exact small_c (t := a) hA h_a (by omega))) <| .cons rfl (ob_not rfl) <| .cons rfl (ob_move rfl) <| .cons rfl (ob_loadS' rfl hc4 Tryz.isAgg45 Tryz.sizeOf45 rfl rfl) <| .cons rfl (ob_callE rfl (.cons rfl <| .nil) Tryz.call11 (fun w m hK => by have hle_ := KC.le hK; have hA := KC.agree hK; have h_b := h_b.mono hle_; exact small_c (t := b) hA h_b (by omega))) <| .cons rfl (ob_not rfl) <| .cons rfl (ob_or rfl rfl rfl) <| .nil) ?_
  intro a3 w3 m3 hst3 hle3 hk3
  have hfr3 := hk3.fr (T' := [(2, _), (3, _), (4, _), (7, _), (28, _)]) (.old rfl rfl <| .old rfl rfl <| .old rfl rfl <| .old rfl rfl <| .new rfl <| .nil)
  replace h_a := h_a.mono hle3
  replace h_b := h_b.mono hle3
  replace h_l := h_l.mono hle3
  replace hc3 := hc3.mono hle3
  replace hc4 := hc4.mono hle3
  clear hst2 hfr2 hk3
  refine hK6 _ _ ?_; clear hK6
  refine cond_any hfr3 rfl rfl (fun hb28 => ?_) (fun hb28 => ?_)
  · try simp only [nq1, nq2, nq3, nq4, nq5, nq6, nq7, nq8, nq9, u8_eq] at hb28
    refine seq_any fun _ hK7 => ?_
    refine rp0 hst3 hfr3 (.cons rfl (ob_move rfl) <| .cons rfl (ob_assign rfl) <| .nil) ?_
    intro a4 w4 m4 hst4 hle4 hk4
    have hfr4 := hk4.fr (T' := [(6, _)]) (.new rfl <| .nil)
    clear hst3 hfr3 hk4
    refine hK7 _ _ ?_; clear hK7
    refine wp_ret ?_
    repeat (with_reducible first | refine then_ret ?_ | refine block_ret ?_)
    exact fn_ret hst4 hfr4 rfl (.tmp rfl <| .nil) (rfl)
  · try simp only [nq1, nq2, nq3, nq4, nq5, nq6, nq7, nq8, nq9, u8_eq] at hb28
    have ha : smallT a = true := by simp_all
    have hb : smallT b = true := by simp_all
    obtain ⟨hra, _, hwda, hcta⟩ := small_open ha
    obtain ⟨hrb, _, hwdb, hctb⟩ := small_open hb
    refine wp_skip ?_
    refine hK5 _ _ ?_; clear hK5
    refine seq_any fun _ hK9 => ?_
    replace hst3 := hst3.more (r := .free) trivial List.nodup_nil (by simp [Res.blocks])
    refine ra0 (tch := [(1, 0, (fun v => .blk v _)), (2, 0, (fun v => .blkx v _ _))]) hst3 hfr3 (.cons rfl (ob_call (φ := MP.subQ noneS) rfl (.nil) Tryz.call10 (fun w m hK => by have hle_ := KC.le hK; have hA := KC.agree hK; exact FnG.mono (noneU_c hA) fun _ _ _ _ h => h)) <| .consT rfl rfl (fun _ => rfl) rfl (ob_allocL Tryz.zeroValue29 rfl) <| .consT rfl rfl (fun _ => rfl) rfl (ob_imgT 8 rfl rfl rfl fun y8 => ob_imgTX 30 rfl rfl rfl fun y30 => ob_storeF rfl rfl rfl rfl rfl Tryz.sizeOf29 rfl rfl rfl) <| .nil) ?_
    intro a4 w4 m4 hst4 hle4 hk4
    have hfr4 := hk4.fr (T' := [(2, _), (3, _), (4, _), (7, _)]) (.old rfl rfl <| .old rfl rfl <| .old rfl rfl <| .old rfl rfl <| .nil)
    obtain ⟨g8, e10, _⟩ := hk4.ex 8 rfl
    replace hfr4 := hfr4.cons e10
    replace hst4 := hst4.fin (L' := [_]) (.cons e10 <| .cons e10 <| .nil)
    try simp only [List.take_succ_cons, List.take_zero, List.drop_succ_cons, List.drop_zero, List.cons_append, List.nil_append, List.append_nil, List.length_cons, List.length_nil, Nat.zero_add, Nat.reduceAdd] at hst4
    obtain ⟨⟨q1, q2⟩, hS0, hst4⟩ := hst4.unx (k := 0) rfl (fun _ => rfl)
    replace h_a := h_a.mono hle4
    replace h_b := h_b.mono hle4
    replace h_l := h_l.mono hle4
    replace hc3 := hc3.mono hle4
    replace hc4 := hc4.mono hle4
    clear hst3 hfr3 hk4
    refine hK9 _ _ ?_; clear hK9
    refine seq_any fun _ hK12 => ?_
    refine seq_any fun _ hK13 => ?_
    refine rp0 hst4 hfr4 (.cons rfl (ob_assign rfl) <| .nil) ?_
    intro a5 w5 m5 hst5 hle5 hk5
    have hfr5 := hk5.fr (T' := [(2, _), (3, _), (4, _), (7, _), (8, _), (9, _)]) (.old rfl rfl <| .old rfl rfl <| .old rfl rfl <| .old rfl rfl <| .old rfl rfl <| .new rfl <| .nil)
    replace h_a := h_a.mono hle5
    replace h_b := h_b.mono hle5
    replace h_l := h_l.mono hle5
    replace hc3 := hc3.mono hle5
    replace hc4 := hc4.mono hle5
    replace hS0 := hS0.mono hle5
    clear hst4 hfr4 hk5
    refine hK13 _ _ ?_; clear hK13
    refine wp_block ?_
    refine loop_any (T := [(2, _), (3, _), (4, _), (7, _), (8, _)]) (fun (y : Nat × Sub × QQ) => ([(9, .int .i64 (y.1 : Int))] : List (Nat × Value))) (fun y => [.blk (.pointer (some ⟨g8, 0, none⟩)) (.cells (subV y.2.2).toArray 29)]) (fun (y : Nat × Sub × QQ) m => (fun (y : Nat) (s : Sub) (q : QQ) => (y ≤ min l.length 8) ∧ (SubQ m s (subV q)) ∧ (MostS s)) y.1 y.2.1 y.2.2) (fun y => min l.length 8 - y.1) ((0, noneS, (q1, q2))) ⟨hst5, MLe.refl _, hfr5.sub (.cons rfl <| .cons rfl <| .cons rfl <| .cons rfl <| .cons rfl <| .cons rfl <| .nil), ⟨Nat.zero_le _, hS0, MostS.none⟩⟩ fun y a6 w6 m6 hh6 => ?_
    have hst6 := hh6.st; have hle6 := hh6.le; have hfr6 := hh6.fr; have hrel := hh6.rel; clear hh6
    replace h_a := h_a.mono hle6
    replace h_b := h_b.mono hle6
    replace h_l := h_l.mono hle6
    replace hc3 := hc3.mono hle6
    replace hc4 := hc4.mono hle6
    clear hst5 hfr5
    obtain ⟨y, s, q⟩ := y
    dsimp only at hrel hfr6 hst6
    obtain ⟨hyn, hS, hMo⟩ := hrel
    have hlh6 := hle6
    refine seq_any fun _ hK15 => ?_
    refine seq_any fun _ hK16 => ?_
    refine rp0 hst6 hfr6 (.cons rfl (ob_move rfl) <| .cons rfl (ob_move rfl) <| .cons rfl (ob_len rfl Tryz.underlying57) <| .cons rfl (ob_lss rfl rfl) <| .cons rfl (ob_move rfl) <| .cons rfl (ob_move rfl) <| .cons rfl (ob_lss rfl rfl) <| .cons rfl (ob_and rfl rfl rfl) <| .nil) ?_
    intro a7 w7 m7 hst7 hle7 hk7
    have hfr7 := hk7.fr (T' := [(9, _), (2, _), (3, _), (4, _), (7, _), (8, _), (38, _)]) (.old rfl rfl <| .old rfl rfl <| .old rfl rfl <| .old rfl rfl <| .old rfl rfl <| .old rfl rfl <| .new rfl <| .nil)
    replace h_a := h_a.mono hle7
    replace h_b := h_b.mono hle7
    replace h_l := h_l.mono hle7
    replace hc3 := hc3.mono hle7
    replace hc4 := hc4.mono hle7
    replace hS := hS.mono hle7
    have hlh7 := hlh6.trans hle7
    clear hst6 hfr6 hk7
    refine hK16 _ _ ?_; clear hK16
    refine cond_any hfr7 rfl rfl (fun hb38 => ?_) (fun hb38 => ?_)
    · try simp only [nq1, nq2, nq3, nq4, nq5, nq6, nq7, nq8, nq9, u8_eq] at hb38
      refine wp_skip ?_
      refine hK15 _ _ ?_; clear hK15
      refine seq_any fun _ hK17 => ?_
      refine wp_block ?_
      refine seq_any fun _ hK18 => ?_
      obtain ⟨p19, vs19, x19, ho19, hd19, hm_x19, ht19, hcv19, hl19, hv19⟩ := h_l.nth (k := y) (by omega)
      cases ho19
      obtain ⟨⟨⟨oa19, ca19⟩, ob19, cb19⟩, ⟨oc19, cc19⟩, rfl, hn19, hty19, hrw19⟩ := id hv19
      have hrl19 := (rwV_open hrw19).1
      replace hst7 := hst7.more (r := .free) trivial List.nodup_nil (by simp [Res.blocks])
      refine ra0 (tch := [(4, 1, (fun v => .blk v _)), (5, 1, (fun v => .blk v _))]) hst7 hfr7 (.cons rfl (ob_move rfl) <| .cons rfl (ob_move rfl) <| .cons rfl (ob_indexAddr (k := y) rfl rfl Tryz.underlying57 Tryz.sizeOf59 rfl (by omega)) <| .cons rfl (ob_loadS' rfl hcv19 Tryz.isAgg59 Tryz.sizeOf59 rfl rfl) <| .consT rfl rfl (fun _ => rfl) rfl (ob_allocL Tryz.zeroValue59 rfl) <| .consT rfl rfl (fun _ => rfl) rfl (ob_imgT 10 rfl rfl rfl fun y10 => ob_storeF rfl rfl rfl rfl rfl Tryz.sizeOf59 rfl rfl rfl) <| .nil) ?_
      intro a8 w8 m8 hst8 hle8 hk8
      have hfr8 := hk8.fr (T' := [(9, _), (2, _), (3, _), (4, _), (7, _), (8, _)]) (.old rfl rfl <| .old rfl rfl <| .old rfl rfl <| .old rfl rfl <| .old rfl rfl <| .old rfl rfl <| .nil)
      obtain ⟨g10, e20, _⟩ := hk8.ex 10 rfl
      replace hfr8 := hfr8.cons e20
      replace hst8 := hst8.fin (L' := [_, _]) (.cons e20 <| .cons e20 <| .nil)
      try simp only [List.take_succ_cons, List.take_zero, List.drop_succ_cons, List.drop_zero, List.cons_append, List.nil_append, List.append_nil, List.length_cons, List.length_nil, Nat.zero_add, Nat.reduceAdd] at hst8
      replace hS := hS.mono hle8
      replace hty19 := hty19.mono hle8
      replace hrl19 := hrl19.mono hle8
      have hlh8 := hlh7.trans hle8
      clear hst7 hfr7 hk8
      have hwx := hw x19 hm_x19
      have hb7 := band7 x19.n
      refine hK18 _ _ ?_; clear hK18
      refine seq_any fun _ hK21 => ?_
      refine ra0 (tch := [(2, 1, (fun _ => .blk _ _))]) hst8 hfr8 (.cons rfl (ob_fieldAddrO (off := 8) rfl Tryz.underlying59 rfl rfl Tryz.sizeOf43 rfl) <| .cons rfl (ob_fieldAddrO (off := 1) rfl Tryz.underlying43 rfl rfl Tryz.sizeOf3 rfl) <| .consT rfl rfl (fun _ => rfl) rfl (ob_store (k := 9) rfl rfl rfl Tryz.sizeOf3 rfl rfl rfl) <| .nil) ?_
      intro a9 w9 m9 hst9 hle9 hk9
      have hfr9 := hk9.fr (T' := [(9, _), (2, _), (3, _), (4, _), (7, _), (8, _), (10, _)]) (.old rfl rfl <| .old rfl rfl <| .old rfl rfl <| .old rfl rfl <| .old rfl rfl <| .old rfl rfl <| .old rfl rfl <| .nil)
      replace hst9 := hst9.fin (L' := [_, _]) (.cons rfl <| .nil)
      try simp only [List.take_succ_cons, List.take_zero, List.drop_succ_cons, List.drop_zero, List.cons_append, List.nil_append, List.append_nil, List.length_cons, List.length_nil, Nat.zero_add, Nat.reduceAdd] at hst9
      replace hS := hS.mono hle9
      replace hty19 := hty19.mono hle9
      replace hrl19 := hrl19.mono hle9
      have hlh9 := hlh8.trans hle9
      clear hst8 hfr8 hk9
      refine hK21 _ _ ?_; clear hK21
      refine seq_any fun _ hK22 => ?_
      refine seq_any fun _ hK23 => ?_
      refine rp0 hst9 hfr9 (.cons rfl (ob_fieldAddrO (off := 1) rfl Tryz.underlying59 rfl rfl Tryz.sizeOf4 rfl) <| .cons rfl (ob_loadL (j := 1) rfl rfl Tryz.isAgg4 rfl) <| .cons rfl (ob_move rfl) <| .cons rfl (ob_fieldAddrO (off := 8) rfl Tryz.underlying59 rfl rfl Tryz.sizeOf43 rfl) <| .cons rfl (ob_loadLS (j := 1) rfl rfl Tryz.isAgg43 Tryz.sizeOf43 rfl rfl) <| .cons rfl (ob_callE rfl (.cons rfl <| .nil) Tryz.call23 (fun w m hK => by have hle_ := KC.le hK; have hA := KC.agree hK; have hrl19 := hrl19.mono hle_; exact rightRowR_c (r := ⟨x19.row.labels, 0⟩) hA ⟨_, _, rfl, hrl19, (show InI64 (0 : Int) from ⟨by omega, by omega⟩)⟩)) <| .cons rfl (ob_and rfl rfl rfl) <| .cons rfl (ob_move rfl) <| .cons rfl (ob_fieldAddrO (off := 8) rfl Tryz.underlying59 rfl rfl Tryz.sizeOf43 rfl) <| .cons rfl (ob_fieldAddrO (off := 0) rfl Tryz.underlying43 rfl rfl Tryz.sizeOf41 rfl) <| .cons rfl (ob_loadL (k := 8) (j := 1) rfl rfl Tryz.isAgg41 rfl) <| .cons rfl (ob_len rfl Tryz.underlying41) <| .cons rfl (ob_leq rfl rfl) <| .cons rfl (ob_and rfl rfl rfl) <| .nil) ?_
      intro a10 w10 m10 hst10 hle10 hk10
      have hfr10 := hk10.fr (T' := [(9, _), (2, _), (3, _), (4, _), (7, _), (8, _), (10, _), (60, _)]) (.old rfl rfl <| .old rfl rfl <| .old rfl rfl <| .old rfl rfl <| .old rfl rfl <| .old rfl rfl <| .old rfl rfl <| .new rfl <| .nil)
      replace hS := hS.mono hle10
      replace hty19 := hty19.mono hle10
      replace hrl19 := hrl19.mono hle10
      have hlh10 := hlh9.trans hle10
      clear hst9 hfr9 hk10
      refine hK23 _ _ ?_; clear hK23
      refine cond_any hfr10 rfl rfl (fun hb60 => ?_) (fun hb60 => ?_)
      · try simp only [nq1, nq2, nq3, nq4, nq5, nq6, nq7, nq8, nq9, u8_eq] at hb60
        refine ra0 (tch := [(8, 0, (fun _ => .blkx _ _ _))]) hst10 hfr10 (.cons rfl (ob_loadLA (j := 0) rfl rfl Tryz.isAgg29 Tryz.sizeOf29 rfl) <| .cons rfl (ob_fieldAddrO (off := 0) rfl Tryz.underlying59 rfl rfl Tryz.sizeOf3 rfl) <| .cons rfl (ob_loadL (j := 1) rfl rfl Tryz.isAgg3 rfl) <| .cons rfl (ob_band rfl rfl) <| .cons rfl (ob_add rfl rfl ⟨by omega, by omega⟩) <| .cons rfl (ob_fieldAddrO (off := 8) rfl Tryz.underlying59 rfl rfl Tryz.sizeOf43 rfl) <| .cons rfl (ob_loadLS (j := 1) rfl rfl Tryz.isAgg43 Tryz.sizeOf43 rfl rfl) <| .cons rfl (ob_call (φ := MP.subQ ⟨s.ts, aset (keyS x19.n) ⟨x19.row.labels, 0⟩ s.rs⟩) rfl (.cons rfl <| .cons rfl <| .cons rfl <| .nil) Tryz.call24 (fun w m hK => by have hle_ := KC.le hK; have hA := KC.agree hK; have hS := hS.mono hle_; have hrl19 := hrl19.mono hle_; exact FnG.mono (setRowU_c (n := keyS x19.n) (r := ⟨x19.row.labels, 0⟩) hA hS ⟨_, _, rfl, hrl19, (show InI64 (0 : Int) from ⟨by omega, by omega⟩)⟩ (by show x19.row.labels.length ≤ _; omega)) fun _ _ _ _ h => h)) <| .consT rfl rfl (fun _ => rfl) rfl (ob_imgTX 68 rfl rfl rfl fun y68 => ob_store' rfl rfl rfl Tryz.sizeOf29 rfl rfl rfl) <| .nil) ?_
        intro a11 w11 m11 hst11 hle11 hk11
        have hfr11 := hk11.fr (T' := [(9, _), (2, _), (3, _), (4, _), (7, _), (8, _), (10, _)]) (.old rfl rfl <| .old rfl rfl <| .old rfl rfl <| .old rfl rfl <| .old rfl rfl <| .old rfl rfl <| .old rfl rfl <| .nil)
        replace hst11 := hst11.fin (L' := [_, _]) (.cons rfl <| .nil)
        try simp only [List.take_succ_cons, List.take_zero, List.drop_succ_cons, List.drop_zero, List.cons_append, List.nil_append, List.append_nil, List.length_cons, List.length_nil, Nat.zero_add, Nat.reduceAdd] at hst11
        obtain ⟨⟨q3, q4⟩, hS1, hst11⟩ := hst11.unx (k := 0) rfl (fun _ => rfl)
        replace hty19 := hty19.mono hle11
        have hlh11 := hlh10.trans hle11
        clear hst10 hfr10 hk11
        have hM1 := hMo.row (n := keyS x19.n) (r := ⟨x19.row.labels, 0⟩) (mem_vs8.2 (by unfold keyS; omega)) (by simp_all) rfl (by show x19.row.labels.length ≤ 5; simp_all; try omega)
        refine hK22 _ _ ?_; clear hK22
        refine seq_any fun _ hK25 => ?_
        refine rp0 hst11 hfr11 (.cons rfl (ob_fieldAddrO (off := 1) rfl Tryz.underlying59 rfl rfl Tryz.sizeOf4 rfl) <| .cons rfl (ob_loadL (j := 1) rfl rfl Tryz.isAgg4 rfl) <| .cons rfl (ob_not rfl) <| .cons rfl (ob_move rfl) <| .cons rfl (ob_fieldAddrO (off := 2) rfl Tryz.underlying59 rfl rfl Tryz.sizeOf45 rfl) <| .cons rfl (ob_loadLS (j := 1) rfl rfl Tryz.isAgg45 Tryz.sizeOf45 rfl rfl) <| .cons rfl (ob_callE rfl (.cons rfl <| .nil) Tryz.call11 (fun w m hK => by have hle_ := KC.le hK; have hA := KC.agree hK; have hty19 := hty19.mono hle_; exact small_c (t := x19.ty) hA hty19 (by omega))) <| .cons rfl (ob_and rfl rfl rfl) <| .cons rfl (ob_move rfl) <| .cons rfl (ob_fieldAddrO (off := 2) rfl Tryz.underlying59 rfl rfl Tryz.sizeOf45 rfl) <| .cons rfl (ob_loadLS (j := 1) rfl rfl Tryz.isAgg45 Tryz.sizeOf45 rfl rfl) <| .cons rfl (ob_callE rfl (.cons rfl <| .nil) Tryz.call25 (fun w m hK => by have hle_ := KC.le hK; have hA := KC.agree hK; have hty19 := hty19.mono hle_; exact count_c x19.ty hA hty19 (by omega))) <| .cons rfl (ob_leq rfl rfl) <| .cons rfl (ob_and rfl rfl rfl) <| .nil) ?_
        intro a12 w12 m12 hst12 hle12 hk12
        have hfr12 := hk12.fr (T' := [(9, _), (2, _), (3, _), (4, _), (7, _), (8, _), (10, _), (82, _)]) (.old rfl rfl <| .old rfl rfl <| .old rfl rfl <| .old rfl rfl <| .old rfl rfl <| .old rfl rfl <| .old rfl rfl <| .new rfl <| .nil)
        replace hty19 := hty19.mono hle12
        replace hS1 := hS1.mono hle12
        have hlh12 := hlh11.trans hle12
        clear hst11 hfr11 hk12
        refine hK25 _ _ ?_; clear hK25
        refine cond_any hfr12 rfl rfl (fun hb82 => ?_) (fun hb82 => ?_)
        · try simp only [nq1, nq2, nq3, nq4, nq5, nq6, nq7, nq8, nq9, u8_eq] at hb82
          refine ra0 (tch := [(8, 0, (fun _ => .blkx _ _ _))]) hst12 hfr12 (.cons rfl (ob_loadLA (j := 0) rfl rfl Tryz.isAgg29 Tryz.sizeOf29 rfl) <| .cons rfl (ob_fieldAddrO (off := 0) rfl Tryz.underlying59 rfl rfl Tryz.sizeOf3 rfl) <| .cons rfl (ob_loadL (j := 1) rfl rfl Tryz.isAgg3 rfl) <| .cons rfl (ob_band rfl rfl) <| .cons rfl (ob_add rfl rfl ⟨by omega, by omega⟩) <| .cons rfl (ob_fieldAddrO (off := 2) rfl Tryz.underlying59 rfl rfl Tryz.sizeOf45 rfl) <| .cons rfl (ob_loadLS (j := 1) rfl rfl Tryz.isAgg45 Tryz.sizeOf45 rfl rfl) <| .cons rfl (ob_call (φ := MP.subQ ⟨aset (keyS x19.n) x19.ty (⟨s.ts, aset (keyS x19.n) ⟨x19.row.labels, 0⟩ s.rs⟩ : Sub).ts, (⟨s.ts, aset (keyS x19.n) ⟨x19.row.labels, 0⟩ s.rs⟩ : Sub).rs⟩) rfl (.cons rfl <| .cons rfl <| .cons rfl <| .nil) Tryz.call26 (fun w m hK => by have hle_ := KC.le hK; have hA := KC.agree hK; have hty19 := hty19.mono hle_; have hS1 := hS1.mono hle_; exact FnG.mono (setTypeU_c (n := keyS x19.n) (t := x19.ty) hA hS1 hty19 (by omega)) fun _ _ _ _ h => h)) <| .consT rfl rfl (fun _ => rfl) rfl (ob_imgTX 90 rfl rfl rfl fun y90 => ob_store' rfl rfl rfl Tryz.sizeOf29 rfl rfl rfl) <| .nil) ?_
          intro a13 w13 m13 hst13 hle13 hk13
          have hfr13 := hk13.fr (T' := [(9, _), (2, _), (3, _), (4, _), (7, _), (8, _)]) (.old rfl rfl <| .old rfl rfl <| .old rfl rfl <| .old rfl rfl <| .old rfl rfl <| .old rfl rfl <| .nil)
          replace hst13 := hst13.fin (L' := [_, _]) (.cons rfl <| .nil)
          try simp only [List.take_succ_cons, List.take_zero, List.drop_succ_cons, List.drop_zero, List.cons_append, List.nil_append, List.append_nil, List.length_cons, List.length_nil, Nat.zero_add, Nat.reduceAdd] at hst13
          obtain ⟨⟨q5, q6⟩, hS2, hst13⟩ := hst13.unx (k := 0) rfl (fun _ => rfl)
          have hlh13 := hlh12.trans hle13
          clear hst12 hfr12 hk13
          have hM2 := hM1.ty (n := keyS x19.n) (t := x19.ty) (mem_vs8.2 (by unfold keyS; omega)) (by simp_all) (by simp_all; try omega)
          refine hK17 _ _ ?_; clear hK17
          refine rp0 hst13 hfr13 (.cons rfl (ob_move rfl) <| .cons rfl (ob_add rfl rfl ⟨by omega, by omega⟩) <| .cons rfl (ob_assign rfl) <| .nil) ?_
          intro a14 w14 m14 hst14 hle14 hk14
          have hfr14 := hk14.fr (T' := [(2, _), (3, _), (4, _), (7, _), (8, _), (9, _)]) (.old rfl rfl <| .old rfl rfl <| .old rfl rfl <| .old rfl rfl <| .old rfl rfl <| .new rfl <| .nil)
          replace hS2 := hS2.mono hle14
          have hlh14 := hlh13.trans hle14
          clear hst13 hfr13 hk14
          have hst14 := hst14.take 1
          exact ⟨(y + 1, ⟨aset (keyS x19.n) x19.ty (⟨s.ts, aset (keyS x19.n) ⟨x19.row.labels, 0⟩ s.rs⟩ : Sub).ts, (⟨s.ts, aset (keyS x19.n) ⟨x19.row.labels, 0⟩ s.rs⟩ : Sub).rs⟩, (q5, q6)), m14, by show min l.length 8 - (y + 1) < min l.length 8 - y; omega, ⟨hst14, hlh14, hfr14.sub (.cons rfl <| .cons rfl <| .cons rfl <| .cons rfl <| .cons rfl <| .cons rfl <| .nil), ⟨by show y + 1 ≤ min l.length 8; omega, hS2, hM2⟩⟩⟩
        · try simp only [nq1, nq2, nq3, nq4, nq5, nq6, nq7, nq8, nq9, u8_eq] at hb82
          refine wp_skip ?_
          refine hK17 _ _ ?_; clear hK17
          refine rp0 hst12 hfr12 (.cons rfl (ob_move rfl) <| .cons rfl (ob_add rfl rfl ⟨by omega, by omega⟩) <| .cons rfl (ob_assign rfl) <| .nil) ?_
          intro a13 w13 m13 hst13 hle13 hk13
          have hfr13 := hk13.fr (T' := [(2, _), (3, _), (4, _), (7, _), (8, _), (9, _)]) (.old rfl rfl <| .old rfl rfl <| .old rfl rfl <| .old rfl rfl <| .old rfl rfl <| .new rfl <| .nil)
          replace hS1 := hS1.mono hle13
          have hlh13 := hlh12.trans hle13
          clear hst12 hfr12 hk13
          have hst13 := hst13.take 1
          exact ⟨(y + 1, ⟨s.ts, aset (keyS x19.n) ⟨x19.row.labels, 0⟩ s.rs⟩, (q3, q4)), m13, by show min l.length 8 - (y + 1) < min l.length 8 - y; omega, ⟨hst13, hlh13, hfr13.sub (.cons rfl <| .cons rfl <| .cons rfl <| .cons rfl <| .cons rfl <| .cons rfl <| .nil), ⟨by show y + 1 ≤ min l.length 8; omega, hS1, hM1⟩⟩⟩
      · try simp only [nq1, nq2, nq3, nq4, nq5, nq6, nq7, nq8, nq9, u8_eq] at hb60
        refine wp_skip ?_
        refine hK22 _ _ ?_; clear hK22
        refine seq_any fun _ hK27 => ?_
        refine rp0 hst10 hfr10 (.cons rfl (ob_fieldAddrO (off := 1) rfl Tryz.underlying59 rfl rfl Tryz.sizeOf4 rfl) <| .cons rfl (ob_loadL (j := 1) rfl rfl Tryz.isAgg4 rfl) <| .cons rfl (ob_not rfl) <| .cons rfl (ob_move rfl) <| .cons rfl (ob_fieldAddrO (off := 2) rfl Tryz.underlying59 rfl rfl Tryz.sizeOf45 rfl) <| .cons rfl (ob_loadLS (j := 1) rfl rfl Tryz.isAgg45 Tryz.sizeOf45 rfl rfl) <| .cons rfl (ob_callE rfl (.cons rfl <| .nil) Tryz.call11 (fun w m hK => by have hle_ := KC.le hK; have hA := KC.agree hK; have hty19 := hty19.mono hle_; exact small_c (t := x19.ty) hA hty19 (by omega))) <| .cons rfl (ob_and rfl rfl rfl) <| .cons rfl (ob_move rfl) <| .cons rfl (ob_fieldAddrO (off := 2) rfl Tryz.underlying59 rfl rfl Tryz.sizeOf45 rfl) <| .cons rfl (ob_loadLS (j := 1) rfl rfl Tryz.isAgg45 Tryz.sizeOf45 rfl rfl) <| .cons rfl (ob_callE rfl (.cons rfl <| .nil) Tryz.call25 (fun w m hK => by have hle_ := KC.le hK; have hA := KC.agree hK; have hty19 := hty19.mono hle_; exact count_c x19.ty hA hty19 (by omega))) <| .cons rfl (ob_leq rfl rfl) <| .cons rfl (ob_and rfl rfl rfl) <| .nil) ?_
        intro a11 w11 m11 hst11 hle11 hk11
        have hfr11 := hk11.fr (T' := [(9, _), (2, _), (3, _), (4, _), (7, _), (8, _), (10, _), (82, _)]) (.old rfl rfl <| .old rfl rfl <| .old rfl rfl <| .old rfl rfl <| .old rfl rfl <| .old rfl rfl <| .old rfl rfl <| .new rfl <| .nil)
        replace hS := hS.mono hle11
        replace hty19 := hty19.mono hle11
        have hlh11 := hlh10.trans hle11
        clear hst10 hfr10 hk11
        refine hK27 _ _ ?_; clear hK27
        refine cond_any hfr11 rfl rfl (fun hb82 => ?_) (fun hb82 => ?_)
        · try simp only [nq1, nq2, nq3, nq4, nq5, nq6, nq7, nq8, nq9, u8_eq] at hb82
          refine ra0 (tch := [(8, 0, (fun _ => .blkx _ _ _))]) hst11 hfr11 (.cons rfl (ob_loadLA (j := 0) rfl rfl Tryz.isAgg29 Tryz.sizeOf29 rfl) <| .cons rfl (ob_fieldAddrO (off := 0) rfl Tryz.underlying59 rfl rfl Tryz.sizeOf3 rfl) <| .cons rfl (ob_loadL (j := 1) rfl rfl Tryz.isAgg3 rfl) <| .cons rfl (ob_band rfl rfl) <| .cons rfl (ob_add rfl rfl ⟨by omega, by omega⟩) <| .cons rfl (ob_fieldAddrO (off := 2) rfl Tryz.underlying59 rfl rfl Tryz.sizeOf45 rfl) <| .cons rfl (ob_loadLS (j := 1) rfl rfl Tryz.isAgg45 Tryz.sizeOf45 rfl rfl) <| .cons rfl (ob_call (φ := MP.subQ ⟨aset (keyS x19.n) x19.ty (s : Sub).ts, (s : Sub).rs⟩) rfl (.cons rfl <| .cons rfl <| .cons rfl <| .nil) Tryz.call26 (fun w m hK => by have hle_ := KC.le hK; have hA := KC.agree hK; have hS := hS.mono hle_; have hty19 := hty19.mono hle_; exact FnG.mono (setTypeU_c (n := keyS x19.n) (t := x19.ty) hA hS hty19 (by omega)) fun _ _ _ _ h => h)) <| .consT rfl rfl (fun _ => rfl) rfl (ob_imgTX 90 rfl rfl rfl fun y90 => ob_store' rfl rfl rfl Tryz.sizeOf29 rfl rfl rfl) <| .nil) ?_
          intro a12 w12 m12 hst12 hle12 hk12
          have hfr12 := hk12.fr (T' := [(9, _), (2, _), (3, _), (4, _), (7, _), (8, _)]) (.old rfl rfl <| .old rfl rfl <| .old rfl rfl <| .old rfl rfl <| .old rfl rfl <| .old rfl rfl <| .nil)
          replace hst12 := hst12.fin (L' := [_, _]) (.cons rfl <| .nil)
          try simp only [List.take_succ_cons, List.take_zero, List.drop_succ_cons, List.drop_zero, List.cons_append, List.nil_append, List.append_nil, List.length_cons, List.length_nil, Nat.zero_add, Nat.reduceAdd] at hst12
          obtain ⟨⟨q5, q6⟩, hS2, hst12⟩ := hst12.unx (k := 0) rfl (fun _ => rfl)
          have hlh12 := hlh11.trans hle12
          clear hst11 hfr11 hk12
          have hM2 := hMo.ty (n := keyS x19.n) (t := x19.ty) (mem_vs8.2 (by unfold keyS; omega)) (by simp_all) (by simp_all; try omega)
          refine hK17 _ _ ?_; clear hK17
          refine rp0 hst12 hfr12 (.cons rfl (ob_move rfl) <| .cons rfl (ob_add rfl rfl ⟨by omega, by omega⟩) <| .cons rfl (ob_assign rfl) <| .nil) ?_
          intro a13 w13 m13 hst13 hle13 hk13
          have hfr13 := hk13.fr (T' := [(2, _), (3, _), (4, _), (7, _), (8, _), (9, _)]) (.old rfl rfl <| .old rfl rfl <| .old rfl rfl <| .old rfl rfl <| .old rfl rfl <| .new rfl <| .nil)
          replace hS2 := hS2.mono hle13
          have hlh13 := hlh12.trans hle13
          clear hst12 hfr12 hk13
          have hst13 := hst13.take 1
          exact ⟨(y + 1, ⟨aset (keyS x19.n) x19.ty (s : Sub).ts, (s : Sub).rs⟩, (q5, q6)), m13, by show min l.length 8 - (y + 1) < min l.length 8 - y; omega, ⟨hst13, hlh13, hfr13.sub (.cons rfl <| .cons rfl <| .cons rfl <| .cons rfl <| .cons rfl <| .cons rfl <| .nil), ⟨by show y + 1 ≤ min l.length 8; omega, hS2, hM2⟩⟩⟩
        · try simp only [nq1, nq2, nq3, nq4, nq5, nq6, nq7, nq8, nq9, u8_eq] at hb82
          refine wp_skip ?_
          refine hK17 _ _ ?_; clear hK17
          refine rp0 hst11 hfr11 (.cons rfl (ob_move rfl) <| .cons rfl (ob_add rfl rfl ⟨by omega, by omega⟩) <| .cons rfl (ob_assign rfl) <| .nil) ?_
          intro a12 w12 m12 hst12 hle12 hk12
          have hfr12 := hk12.fr (T' := [(2, _), (3, _), (4, _), (7, _), (8, _), (9, _)]) (.old rfl rfl <| .old rfl rfl <| .old rfl rfl <| .old rfl rfl <| .old rfl rfl <| .new rfl <| .nil)
          replace hS := hS.mono hle12
          have hlh12 := hlh11.trans hle12
          clear hst11 hfr11 hk12
          have hst12 := hst12.take 1
          exact ⟨(y + 1, s, q), m12, by show min l.length 8 - (y + 1) < min l.length 8 - y; omega, ⟨hst12, hlh12, hfr12.sub (.cons rfl <| .cons rfl <| .cons rfl <| .cons rfl <| .cons rfl <| .cons rfl <| .nil), ⟨by show y + 1 ≤ min l.length 8; omega, hS, hMo⟩⟩⟩
    · try simp only [nq1, nq2, nq3, nq4, nq5, nq6, nq7, nq8, nq9, u8_eq] at hb38
      refine wp_exit ?_
      refine hK12 _ _ ?_; clear hK12
      refine seq_any fun _ hK29 => ?_
      refine seq_any fun _ hK30 => ?_
      have hws := hMo.w
      refine region_plain (fun _ => mixed) hst7 hfr7 (by kernel_rfl) (by kernel_rfl) (.cons rfl (ob_loadLA (j := 0) rfl rfl Tryz.isAgg29 Tryz.sizeOf29 rfl) <| .cons rfl (ob_loadS' rfl hc3 Tryz.isAgg45 Tryz.sizeOf45 rfl rfl) <| .cons rfl (ob_call (φ := MP.ty (applyT s a)) rfl (.cons rfl <| .cons rfl <| .nil) Tryz.call17 (fun w m hK => by have hle_ := KC.le hK; have hA := KC.agree hK; have h_a := h_a.mono hle_; have hS := hS.mono hle_; exact FnG.mono (applyU_c (a) hA hS h_a (hws.up (by omega)) (by omega)) fun _ _ _ _ h => h)) <| .cons rfl (ob_loadLA (j := 0) rfl rfl Tryz.isAgg29 Tryz.sizeOf29 rfl) <| .cons rfl (ob_loadS' rfl hc4 Tryz.isAgg45 Tryz.sizeOf45 rfl rfl) <| .cons rfl (ob_call (φ := MP.ty (applyT s b)) rfl (.cons rfl <| .cons rfl <| .nil) Tryz.call17 (fun w m hK => by have hle_ := KC.le hK; have hA := KC.agree hK; have h_b := h_b.mono hle_; have hS := hS.mono hle_; exact FnG.mono (applyU_c (b) hA hS h_b (hws.up (by omega)) (by omega)) fun _ _ _ _ h => h)) <| .cons rfl (ob_imgE 93 rfl rfl rfl fun y93 => ob_imgE 96 rfl rfl rfl fun y96 => ob_callE rfl (.cons rfl <| .cons rfl <| .nil) Tryz.call16 (fun w m hK => by have hle_ := KC.le hK; have hA := KC.agree hK; have hr0_ := hK.2; have hr1_ := hK.1.2; exact sameR_c (applyT s a) (u := applyT s b) hA hr1_ hr0_)) <| .cons rfl (ob_not rfl) <| .nil) ?_
      intro a8 w8 m8 hst8 hle8 hk8
      have hfr8 := hk8.fr (T' := [(9, _), (3, _), (4, _), (7, _), (8, _), (98, _)]) (.old rfl rfl <| .old rfl rfl <| .old rfl rfl <| .old rfl rfl <| .old rfl rfl <| .new rfl <| .nil)
      replace h_a := h_a.mono hle8
      replace h_b := h_b.mono hle8
      replace hc3 := hc3.mono hle8
      replace hc4 := hc4.mono hle8
      replace hS := hS.mono hle8
      have hlh8 := hlh7.trans hle8
      clear hst7 hfr7 hk8
      refine hK30 _ _ ?_; clear hK30
      refine cond_any hfr8 rfl rfl (fun hb98 => ?_) (fun hb98 => ?_)
      · try simp only [nq1, nq2, nq3, nq4, nq5, nq6, nq7, nq8, nq9, u8_eq] at hb98
        refine seq_any fun _ hK31 => ?_
        refine rp0 hst8 hfr8 (.cons rfl (ob_move rfl) <| .cons rfl (ob_assign rfl) <| .nil) ?_
        intro a9 w9 m9 hst9 hle9 hk9
        have hfr9 := hk9.fr (T' := [(9, _), (6, _)]) (.old rfl rfl <| .new rfl <| .nil)
        have hlh9 := hlh8.trans hle9
        clear hst8 hfr8 hk9
        refine hK31 _ _ ?_; clear hK31
        refine wp_ret ?_
        repeat (with_reducible first | refine then_ret ?_ | refine block_ret ?_)
        exact fn_ret hst9 hfr9 rfl (.tmp rfl <| .nil) (rfl)
      · try simp only [nq1, nq2, nq3, nq4, nq5, nq6, nq7, nq8, nq9, u8_eq] at hb98
        have heq : applyT s a = applyT s b := (sameT_iff _ _).1 (by simpa using hb98)
        obtain ⟨k1, R1, hR1, he1, hw1, hnx1, hrn1⟩ := most_run hMo ha hb heq
        obtain ⟨O1, hO1⟩ : ∃ O, O = outU R1 ⟨noneS, 20⟩ := ⟨_, rfl⟩
        have hf1 : O1.1 = R1.1 := by rw [hO1, outU_fst]
        refine wp_skip ?_
        refine hK29 _ _ ?_; clear hK29
        refine seq_any fun _ hK33 => ?_
        replace hst8 := hst8.more (r := .free) trivial List.nodup_nil (by simp [Res.blocks])
        refine region_any (tch := [(8, 1, (fun v => .blk v _)), (9, 1, (fun v => .blkx v _ _))]) (fun _ => mixed) hst8 hfr8 (by kernel_rfl) (by kernel_rfl) (by kernel_rfl) (.cons rfl (ob_call (φ := MP.subQ noneS) rfl (.nil) Tryz.call10 (fun w m hK => by have hle_ := KC.le hK; have hA := KC.agree hK; exact FnG.mono (noneU_c hA) fun _ _ _ _ h => h)) <| .cons rfl (ob_loadS' rfl hc3 Tryz.isAgg45 Tryz.sizeOf45 rfl rfl) <| .cons rfl (ob_loadS' rfl hc4 Tryz.isAgg45 Tryz.sizeOf45 rfl rfl) <| .cons rfl (ob_imgE 101 rfl rfl rfl fun y101 => ob_call (φ := MP.un O1) rfl (.cons rfl <| .cons rfl <| .cons rfl <| .cons rfl <| .nil) Tryz.call14 (fun w m hK => by have hle_ := KC.le hK; have hA := KC.agree hK; have hr0_ := hK.2; have h_a := h_a.mono hle_; have h_b := h_b.mono hle_; exact FnG.mono ((by rw [hO1]; exact types7_c (n := 20) hA hr0_ h_a h_b hR1)) fun _ _ _ _ h => h)) <| .cons rfl (ob_imgV 104 rfl rfl rfl fun y104 => ob_move rfl) <| .cons rfl (ob_imgV 100 rfl rfl rfl fun y100 => ob_extract rfl rfl) <| .cons rfl (ob_imgE 100 rfl rfl rfl fun y100 => ob_extract rfl rfl) <| .cons rfl (ob_imgE 100 rfl rfl rfl fun y100 => ob_extract rfl rfl) <| .consT rfl rfl (fun _ => rfl) rfl (ob_allocL Tryz.zeroValue29 rfl) <| .consT rfl rfl (fun _ => rfl) rfl (ob_imgT 11 rfl rfl rfl fun y11 => ob_imgTX 105 rfl rfl rfl fun y105 => ob_storeF rfl rfl rfl rfl rfl Tryz.sizeOf29 rfl rfl rfl) <| .cons rfl (ob_assign rfl) <| .cons rfl (ob_assign rfl) <| .nil) ?_
        intro a9 w9 m9 hst9 hle9 hk9
        have hfr9 := hk9.fr (T' := [(9, _), (3, _), (7, _), (8, _), (12, _), (13, _)]) (.old rfl rfl <| .old rfl rfl <| .old rfl rfl <| .old rfl rfl <| .new rfl <| .new rfl <| .nil)
        obtain ⟨g34, e34, _⟩ := hk9.ex 11 rfl
        replace hfr9 := hfr9.cons e34
        replace hst9 := hst9.fin (L' := [_, _]) (.cons e34 <| .cons e34 <| .nil)
        try simp only [List.take_succ_cons, List.take_zero, List.drop_succ_cons, List.drop_zero, List.cons_append, List.nil_append, List.append_nil, List.length_cons, List.length_nil, Nat.zero_add, Nat.reduceAdd] at hst9
        obtain ⟨⟨q7, q8⟩, hU1, hst9⟩ := hst9.unx (k := 1) rfl (fun _ => rfl)
        replace h_a := h_a.mono hle9
        replace hc3 := hc3.mono hle9
        replace hS := hS.mono hle9
        have hlh9 := hlh8.trans hle9
        clear hst8 hfr8 hk9
        refine hK33 _ _ ?_; clear hK33
        refine seq_any fun _ hK36 => ?_
        refine seq_any fun _ hK37 => ?_
        refine rp0 hst9 hfr9 (.cons rfl (ob_move rfl) <| .cons rfl (ob_neq rfl rfl) <| .nil) ?_
        intro a10 w10 m10 hst10 hle10 hk10
        have hfr10 := hk10.fr (T' := [(9, _), (3, _), (7, _), (8, _), (12, _), (13, _), (11, _), (109, _)]) (.old rfl rfl <| .old rfl rfl <| .old rfl rfl <| .old rfl rfl <| .old rfl rfl <| .old rfl rfl <| .old rfl rfl <| .new rfl <| .nil)
        replace h_a := h_a.mono hle10
        replace hc3 := hc3.mono hle10
        replace hS := hS.mono hle10
        replace hU1 := hU1.mono hle10
        have hlh10 := hlh9.trans hle10
        clear hst9 hfr9 hk10
        refine hK37 _ _ ?_; clear hK37
        refine cond_any hfr10 rfl rfl (fun hb109 => ?_) (fun hb109 => ?_)
        · try simp only [nq1, nq2, nq3, nq4, nq5, nq6, nq7, nq8, nq9, u8_eq] at hb109
          refine seq_any fun _ hK38 => ?_
          refine rp0 hst10 hfr10 (.cons rfl (ob_move rfl) <| .cons rfl (ob_move rfl) <| .cons rfl (ob_move rfl) <| .cons rfl (ob_eql rfl rfl) <| .cons rfl (ob_and rfl rfl rfl) <| .cons rfl (ob_assign rfl) <| .nil) ?_
          intro a11 w11 m11 hst11 hle11 hk11
          have hfr11 := hk11.fr (T' := [(9, _), (6, _)]) (.old rfl rfl <| .new rfl <| .nil)
          have hlh11 := hlh10.trans hle11
          clear hst10 hfr10 hk11
          refine hK38 _ _ ?_; clear hK38
          refine wp_ret ?_
          repeat (with_reducible first | refine then_ret ?_ | refine block_ret ?_)
          exact fn_ret hst11 hfr11 rfl (.tmp rfl <| .nil) (by refine congrArg Value.bool ?_; rcases he1 with h9 | h9 <;> simp_all)
        · try simp only [nq1, nq2, nq3, nq4, nq5, nq6, nq7, nq8, nq9, u8_eq] at hb109
          have hz1 : R1.1 = 0 := by omega
          rw [out_ok hz1] at hO1
          subst hO1
          obtain ⟨k2, R2, hR2, he2⟩ := hrn1 hz1
          obtain ⟨O2, hO2⟩ : ∃ O, O = outU R2 ⟨noneS, R1.2.nx + 200⟩ := ⟨_, rfl⟩
          have hf2 : O2.1 = R2.1 := by rw [hO2, outU_fst]
          refine wp_skip ?_
          refine hK36 _ _ ?_; clear hK36
          refine seq_any fun _ hK40 => ?_
          replace hst10 := hst10.more (r := .free) trivial List.nodup_nil (by simp [Res.blocks])
          refine ra0 (tch := [(3, 2, (fun v => .blk v _)), (4, 2, (fun v => .blkx v _ _))]) hst10 hfr10 (.cons rfl (ob_loadLA (j := 1) rfl rfl Tryz.isAgg29 Tryz.sizeOf29 rfl) <| .cons rfl (ob_loadS' rfl hc3 Tryz.isAgg45 Tryz.sizeOf45 rfl rfl) <| .cons rfl (ob_call (φ := MP.ty (applyT R1.2.s a)) rfl (.cons rfl <| .cons rfl <| .nil) Tryz.call17 (fun w m hK => by have hle_ := KC.le hK; have hA := KC.agree hK; have h_a := h_a.mono hle_; have hU1 := hU1.mono hle_; exact FnG.mono (applyU_c (a) hA hU1 h_a (hw1.up (by omega)) (by omega)) fun _ _ _ _ h => h)) <| .consT rfl rfl (fun _ => rfl) rfl (ob_allocL Tryz.zeroValue45 rfl) <| .consT rfl rfl (fun _ => rfl) rfl (ob_imgT 14 rfl rfl rfl fun y14 => ob_imgTX 117 rfl rfl rfl fun y117 => ob_storeF rfl rfl rfl rfl rfl Tryz.sizeOf45 rfl rfl rfl) <| .nil) ?_
          intro a11 w11 m11 hst11 hle11 hk11
          have hfr11 := hk11.fr (T' := [(9, _), (3, _), (7, _), (8, _), (12, _)]) (.old rfl rfl <| .old rfl rfl <| .old rfl rfl <| .old rfl rfl <| .old rfl rfl <| .nil)
          obtain ⟨g41, e41, _⟩ := hk11.ex 14 rfl
          replace hfr11 := hfr11.cons e41
          replace hst11 := hst11.fin (L' := [_, _, _]) (.cons e41 <| .cons e41 <| .nil)
          try simp only [List.take_succ_cons, List.take_zero, List.drop_succ_cons, List.drop_zero, List.cons_append, List.nil_append, List.append_nil, List.length_cons, List.length_nil, Nat.zero_add, Nat.reduceAdd] at hst11
          obtain ⟨⟨⟨oa1, ca1⟩, oa2, ca2⟩, hT1, hst11⟩ := hst11.unx (k := 2) rfl (fun _ => rfl)
          replace h_a := h_a.mono hle11
          replace hc3 := hc3.mono hle11
          replace hS := hS.mono hle11
          have hlh11 := hlh10.trans hle11
          clear hst10 hfr10 hk11
          refine hK40 _ _ ?_; clear hK40
          refine seq_any fun _ hK43 => ?_
          replace hst11 := hst11.more (r := .free) trivial List.nodup_nil (by simp [Res.blocks])
          refine ra0 (tch := [(1, 3, (fun v => .blk v _)), (2, 3, (fun v => .blkx v _ _))]) hst11 hfr11 (.cons rfl (ob_call (φ := MP.subQ noneS) rfl (.nil) Tryz.call10 (fun w m hK => by have hle_ := KC.le hK; have hA := KC.agree hK; exact FnG.mono (noneU_c hA) fun _ _ _ _ h => h)) <| .consT rfl rfl (fun _ => rfl) rfl (ob_allocL Tryz.zeroValue29 rfl) <| .consT rfl rfl (fun _ => rfl) rfl (ob_imgT 15 rfl rfl rfl fun y15 => ob_imgTX 118 rfl rfl rfl fun y118 => ob_storeF rfl rfl rfl rfl rfl Tryz.sizeOf29 rfl rfl rfl) <| .nil) ?_
          intro a12 w12 m12 hst12 hle12 hk12
          have hfr12 := hk12.fr (T' := [(9, _), (3, _), (7, _), (8, _), (12, _), (14, _)]) (.old rfl rfl <| .old rfl rfl <| .old rfl rfl <| .old rfl rfl <| .old rfl rfl <| .old rfl rfl <| .nil)
          obtain ⟨g15, e44, _⟩ := hk12.ex 15 rfl
          replace hfr12 := hfr12.cons e44
          replace hst12 := hst12.fin (L' := [_, _, _, _]) (.cons e44 <| .cons e44 <| .nil)
          try simp only [List.take_succ_cons, List.take_zero, List.drop_succ_cons, List.drop_zero, List.cons_append, List.nil_append, List.append_nil, List.length_cons, List.length_nil, Nat.zero_add, Nat.reduceAdd] at hst12
          obtain ⟨⟨q9, q10⟩, hN0, hst12⟩ := hst12.unx (k := 3) rfl (fun _ => rfl)
          replace h_a := h_a.mono hle12
          replace hc3 := hc3.mono hle12
          replace hS := hS.mono hle12
          replace hT1 := hT1.mono hle12
          have hlh12 := hlh11.trans hle12
          clear hst11 hfr11 hk12
          refine hK43 _ _ ?_; clear hK43
          refine seq_any fun _ hK46 => ?_
          refine seq_any fun _ hK47 => ?_
          refine rp0 hst12 hfr12 (.cons rfl (ob_assign rfl) <| .nil) ?_
          intro a13 w13 m13 hst13 hle13 hk13
          have hfr13 := hk13.fr (T' := [(9, _), (3, _), (7, _), (8, _), (12, _), (14, _), (15, _), (16, _)]) (.old rfl rfl <| .old rfl rfl <| .old rfl rfl <| .old rfl rfl <| .old rfl rfl <| .old rfl rfl <| .old rfl rfl <| .new rfl <| .nil)
          replace h_a := h_a.mono hle13
          replace hc3 := hc3.mono hle13
          replace hS := hS.mono hle13
          replace hT1 := hT1.mono hle13
          replace hN0 := hN0.mono hle13
          have hlh13 := hlh12.trans hle13
          clear hst12 hfr12 hk13
          refine hK47 _ _ ?_; clear hK47
          refine wp_block ?_
          have hlq48 := hlh13
          refine loop_any (T := [(9, _), (3, _), (7, _), (8, _), (12, _), (14, _), (15, _)]) (fun (y : Nat × QQ) => ([(16, .int .i64 ((y.1 + 1 : Nat) : Int))] : List (Nat × Value))) (fun y => [_, _, _, .blk (.pointer (some ⟨g15, 0, none⟩)) (.cells (subV y.2).toArray 29)]) (fun (y : Nat × QQ) m => (fun (y : Nat) (q : QQ) => (y ≤ 8) ∧ (SubQ m (renS y) (subV q))) y.1 y.2) (fun y => 8 - y.1) ((0, (q9, q10))) ⟨hst13, MLe.refl _, hfr13.sub (.cons rfl <| .cons rfl <| .cons rfl <| .cons rfl <| .cons rfl <| .cons rfl <| .cons rfl <| .cons rfl <| .nil), ⟨Nat.zero_le _, hN0⟩⟩ fun y a14 w14 m14 hh14 => ?_
          have hst14 := hh14.st; have hle14 := hh14.le; have hfr14 := hh14.fr; have hrel := hh14.rel; clear hh14
          replace h_a := h_a.mono hle14
          replace hc3 := hc3.mono hle14
          replace hS := hS.mono hle14
          replace hT1 := hT1.mono hle14
          clear hst13 hfr13
          obtain ⟨y, q⟩ := y
          dsimp only at hrel hfr14 hst14
          obtain ⟨hyn, hN⟩ := hrel
          have hlh14 := hle14
          refine seq_any fun _ hK49 => ?_
          refine seq_any fun _ hK50 => ?_
          refine rp0 hst14 hfr14 (.cons rfl (ob_move rfl) <| .cons rfl (ob_lss rfl rfl) <| .nil) ?_
          intro a15 w15 m15 hst15 hle15 hk15
          have hfr15 := hk15.fr (T' := [(16, _), (9, _), (3, _), (7, _), (8, _), (12, _), (14, _), (15, _), (120, _)]) (.old rfl rfl <| .old rfl rfl <| .old rfl rfl <| .old rfl rfl <| .old rfl rfl <| .old rfl rfl <| .old rfl rfl <| .old rfl rfl <| .new rfl <| .nil)
          replace h_a := h_a.mono hle15
          replace hc3 := hc3.mono hle15
          replace hS := hS.mono hle15
          replace hT1 := hT1.mono hle15
          replace hN := hN.mono hle15
          have hlh15 := hlh14.trans hle15
          clear hst14 hfr14 hk15
          refine hK50 _ _ ?_; clear hK50
          refine cond_any hfr15 rfl rfl (fun hb120 => ?_) (fun hb120 => ?_)
          · try simp only [nq1, nq2, nq3, nq4, nq5, nq6, nq7, nq8, nq9, u8_eq] at hb120
            refine wp_skip ?_
            refine hK49 _ _ ?_; clear hK49
            refine seq_any fun _ hK51 => ?_
            refine wp_block ?_
            refine region_any (tch := [(11, 3, (fun _ => .blkx _ _ _))]) (fun _ => mixed) hst15 hfr15 (by kernel_rfl) (by kernel_rfl) (by kernel_rfl) (.cons rfl (ob_loadLA (j := 3) rfl rfl Tryz.isAgg29 Tryz.sizeOf29 rfl) <| .cons rfl (ob_move rfl) <| .cons rfl (ob_move rfl) <| .cons rfl (ob_add rfl rfl ⟨by omega, by omega⟩) <| .cons rfl (ob_call (φ := MP.ty (varT (100 + ((y + 1 : Nat) : Int)))) rfl (.cons rfl <| .nil) Tryz.call18 (fun w m hK => by have hle_ := KC.le hK; have hA := KC.agree hK; exact FnG.mono (tvar_c (n := 100 + ((y + 1 : Nat) : Int)) hA ⟨by omega, by omega⟩) fun _ _ _ _ h => h)) <| .cons rfl (ob_imgE 127 rfl rfl rfl fun y127 => ob_call (φ := MP.subQ ⟨aset ((y + 1 : Nat) : Int) (varT (100 + ((y + 1 : Nat) : Int))) (renS y).ts, (renS y).rs⟩) rfl (.cons rfl <| .cons rfl <| .cons rfl <| .nil) Tryz.call26 (fun w m hK => by have hle_ := KC.le hK; have hA := KC.agree hK; have hr0_ := hK.2; have hN := hN.mono hle_; exact FnG.mono (setTypeU_c (n := ((y + 1 : Nat) : Int)) hA hN hr0_ (by simp [varT, wdT, wdTs])) fun _ _ _ _ h => h)) <| .cons rfl (ob_move rfl) <| .cons rfl (ob_move rfl) <| .cons rfl (ob_add rfl rfl ⟨by omega, by omega⟩) <| .cons rfl (ob_buildS (.cons rfl <| .nil) Tryz.underlying43 Tryz.zeroValue43 (.cons Tryz.sizeOf41 <| .cons Tryz.sizeOf3 <| .nil) rfl) <| .cons rfl (ob_imgE 128 rfl rfl rfl fun y128 => ob_call (φ := MP.subQ (renS (y + 1))) rfl (.cons rfl <| .cons rfl <| .cons rfl <| .nil) Tryz.call24 (fun w m hK => by have hle_ := KC.le hK; have hA := KC.agree hK; have hr0_ := hK.2; exact FnG.mono (setRowU_c (n := ((y + 1 : Nat) : Int)) (r := ⟨[], 100 + ((y + 1 : Nat) : Int)⟩) hA hr0_ ⟨none, 0, rfl, Sl.empty, ⟨by show -_ ≤ 100 + _; omega, by show 100 + _ ≤ _; omega⟩⟩ (by simp)) fun _ _ _ _ h => h)) <| .consT rfl rfl (fun _ => rfl) rfl (ob_imgTX 133 rfl rfl rfl fun y133 => ob_store' rfl rfl rfl Tryz.sizeOf29 rfl rfl rfl) <| .nil) ?_
            intro a16 w16 m16 hst16 hle16 hk16
            have hfr16 := hk16.fr (T' := [(16, _), (9, _), (3, _), (7, _), (8, _), (12, _), (14, _), (15, _)]) (.old rfl rfl <| .old rfl rfl <| .old rfl rfl <| .old rfl rfl <| .old rfl rfl <| .old rfl rfl <| .old rfl rfl <| .old rfl rfl <| .nil)
            replace hst16 := hst16.fin (L' := [_, _, _, _]) (.cons rfl <| .nil)
            try simp only [List.take_succ_cons, List.take_zero, List.drop_succ_cons, List.drop_zero, List.cons_append, List.nil_append, List.append_nil, List.length_cons, List.length_nil, Nat.zero_add, Nat.reduceAdd] at hst16
            obtain ⟨⟨q11, q12⟩, hN1, hst16⟩ := hst16.unx (k := 3) rfl (fun _ => rfl)
            have hlh16 := hlh15.trans hle16
            clear hst15 hfr15 hk16
            refine hK51 _ _ ?_; clear hK51
            refine rp0 hst16 hfr16 (.cons rfl (ob_move rfl) <| .cons rfl (ob_add rfl rfl ⟨by omega, by omega⟩) <| .cons rfl (ob_assign rfl) <| .nil) ?_
            intro a17 w17 m17 hst17 hle17 hk17
            have hfr17 := hk17.fr (T' := [(9, _), (3, _), (7, _), (8, _), (12, _), (14, _), (15, _), (16, _)]) (.old rfl rfl <| .old rfl rfl <| .old rfl rfl <| .old rfl rfl <| .old rfl rfl <| .old rfl rfl <| .old rfl rfl <| .new rfl <| .nil)
            replace hN1 := hN1.mono hle17
            have hlh17 := hlh16.trans hle17
            clear hst16 hfr16 hk17
            exact ⟨(y + 1, (q11, q12)), m17, by show 8 - (y + 1) < 8 - y; omega, ⟨hst17, hlh17, hfr17.sub (.cons rfl <| .cons rfl <| .cons rfl <| .cons rfl <| .cons rfl <| .cons rfl <| .cons rfl <| .cons rfl <| .nil), ⟨by show y + 1 ≤ 8; omega, hN1⟩⟩⟩
          · try simp only [nq1, nq2, nq3, nq4, nq5, nq6, nq7, nq8, nq9, u8_eq] at hb120
            have hge : y = 8 := by omega
            subst hge
            refine wp_exit ?_
            refine hK46 _ _ ?_; clear hK46
            refine seq_any fun _ hK53 => ?_
            have hd1 := applyT_wd hMo.w a
            have hwr := ren_w 8
            replace hst15 := hst15.more (r := .free) trivial List.nodup_nil (by simp [Res.blocks])
            refine region_any (tch := [(14, 4, (fun v => .blk v _)), (15, 4, (fun v => .blkx v _ _))]) (fun _ => mixed) hst15 hfr15 (by kernel_rfl) (by kernel_rfl) (by kernel_rfl) (.cons rfl (ob_call (φ := MP.subQ noneS) rfl (.nil) Tryz.call10 (fun w m hK => by have hle_ := KC.le hK; have hA := KC.agree hK; exact FnG.mono (noneU_c hA) fun _ _ _ _ h => h)) <| .cons rfl (ob_loadLA (j := 2) rfl rfl Tryz.isAgg45 Tryz.sizeOf45 rfl) <| .cons rfl (ob_loadLA (j := 3) rfl rfl Tryz.isAgg29 Tryz.sizeOf29 rfl) <| .cons rfl (ob_loadLA (j := 0) rfl rfl Tryz.isAgg29 Tryz.sizeOf29 rfl) <| .cons rfl (ob_loadS' rfl hc3 Tryz.isAgg45 Tryz.sizeOf45 rfl rfl) <| .cons rfl (ob_call (φ := MP.ty (applyT s a)) rfl (.cons rfl <| .cons rfl <| .nil) Tryz.call17 (fun w m hK => by have hle_ := KC.le hK; have hA := KC.agree hK; have h_a := h_a.mono hle_; have hS := hS.mono hle_; exact FnG.mono (applyU_c (a) hA hS h_a (hws.up (by omega)) (by omega)) fun _ _ _ _ h => h)) <| .cons rfl (ob_imgE 140 rfl rfl rfl fun y140 => ob_call (φ := MP.ty (applyT (renS 8) (applyT s a))) rfl (.cons rfl <| .cons rfl <| .nil) Tryz.call17 (fun w m hK => by have hle_ := KC.le hK; have hA := KC.agree hK; have hr0_ := hK.2; have hN := hN.mono hle_; exact FnG.mono (applyU_c ((applyT s a)) hA hN hr0_ (hwr.up (by omega)) (by omega)) fun _ _ _ _ h => h)) <| .cons rfl (ob_move rfl) <| .cons rfl (ob_add rfl rfl ⟨by omega, by omega⟩) <| .cons rfl (ob_imgE 135 rfl rfl rfl fun y135 => ob_imgE 141 rfl rfl rfl fun y141 => ob_call (φ := MP.un O2) rfl (.cons rfl <| .cons rfl <| .cons rfl <| .cons rfl <| .nil) Tryz.call14 (fun w m hK => by have hle_ := KC.le hK; have hA := KC.agree hK; have hr0_ := hK.2; have hr1_ := hK.1.2; have hT1 := hT1.mono hle_; exact FnG.mono ((by rw [hO2]; exact types7_c (n := R1.2.nx + 200) hA hr1_ hT1 hr0_ hR2)) fun _ _ _ _ h => h)) <| .cons rfl (ob_imgV 144 rfl rfl rfl fun y144 => ob_move rfl) <| .cons rfl (ob_imgV 134 rfl rfl rfl fun y134 => ob_extract rfl rfl) <| .cons rfl (ob_imgE 134 rfl rfl rfl fun y134 => ob_extract rfl rfl) <| .cons rfl (ob_imgE 134 rfl rfl rfl fun y134 => ob_extract rfl rfl) <| .consT rfl rfl (fun _ => rfl) rfl (ob_allocL Tryz.zeroValue29 rfl) <| .consT rfl rfl (fun _ => rfl) rfl (ob_imgT 17 rfl rfl rfl fun y17 => ob_imgTX 145 rfl rfl rfl fun y145 => ob_storeF rfl rfl rfl rfl rfl Tryz.sizeOf29 rfl rfl rfl) <| .cons rfl (ob_assign rfl) <| .cons rfl (ob_assign rfl) <| .nil) ?_
            intro a16 w16 m16 hst16 hle16 hk16
            have hfr16 := hk16.fr (T' := [(16, _), (9, _), (7, _), (19, _)]) (.old rfl rfl <| .old rfl rfl <| .old rfl rfl <| .new rfl <| .nil)
            obtain ⟨g54, e54, _⟩ := hk16.ex 17 rfl
            replace hst16 := hst16.fin (L' := [_, _, _, _, _]) (.cons e54 <| .cons e54 <| .nil)
            try simp only [List.take_succ_cons, List.take_zero, List.drop_succ_cons, List.drop_zero, List.cons_append, List.nil_append, List.append_nil, List.length_cons, List.length_nil, Nat.zero_add, Nat.reduceAdd] at hst16
            obtain ⟨⟨q13, q14⟩, hU2, hst16⟩ := hst16.unx (k := 4) rfl (fun _ => rfl)
            have hlh16 := hlh15.trans hle16
            clear hst15 hfr15 hk16
            refine hK53 _ _ ?_; clear hK53
            refine seq_any fun _ hK56 => ?_
            refine rp0 hst16 hfr16 (.cons rfl (ob_move rfl) <| .cons rfl (ob_move rfl) <| .cons rfl (ob_move rfl) <| .cons rfl (ob_eql rfl rfl) <| .cons rfl (ob_move rfl) <| .cons rfl (ob_move rfl) <| .cons rfl (ob_eql rfl rfl) <| .cons rfl (ob_or rfl rfl rfl) <| .cons rfl (ob_and rfl rfl rfl) <| .cons rfl (ob_assign rfl) <| .nil) ?_
            intro a17 w17 m17 hst17 hle17 hk17
            have hfr17 := hk17.fr (T' := [(16, _), (9, _), (6, _)]) (.old rfl rfl <| .old rfl rfl <| .new rfl <| .nil)
            have hlh17 := hlh16.trans hle17
            clear hst16 hfr16 hk17
            refine hK56 _ _ ?_; clear hK56
            refine wp_ret ?_
            repeat (with_reducible first | refine then_ret ?_ | refine block_ret ?_)
            exact fn_ret hst17 hfr17 rfl (.tmp rfl <| .nil) (by refine congrArg Value.bool ?_; rcases he2 with h9 | h9 <;> simp_all)

end Go.Proofs.YtlidonjpgigocaaGreat
