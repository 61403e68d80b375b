/-
  Names: a term's parts, and what is bound in each. Conditions: those of each theorem.
-/
import Derived.Test.YtppmbhjacjmfkaaNames1
import Derived.Test.YtppmbhjacjmfkaaPart1
import Derived.Test.YtppmbhjacjmfkaaRange
import Derived.Test.YtppmbhjacjmfkaaMapt
namespace Go.Proofs.Ytppmbhjacjmfkaa
set_option linter.all false
set_option maxRecDepth 4000
open Go.RowKit
/-- What is bound in a kid. -/
def boundP (k : Int) (s p : Str) (i : Nat) : List Str := if k = 5 ∨ (k = 7 ∧ i = 1) ∨ (k = 8 ∧ i = 1) then [s] else if k = 8 then [s, p] else []
theorem boundP_R {t : Tm} (h : ShT t) {i : Nat} (hi : i < t.kids.length) : boundP t.kind t.name t.param i = boundR t.kind t.name t.param i := by
  have h1 := h.here.1; have h2 := h.here.2
  unfold boundP boundR
  repeat' split
  all_goals first | rfl | (exfalso; omega)
/-- The parts, and what is bound in each. -/
def partsT (t : Tm) : List (Tm × List Str) := t.kids.zipIdx.map (fun x => (x.1, boundP t.kind t.name t.param x.2)) ++ t.arms.map fun a => (a.body, a.vars)
theorem parts_len (t : Tm) : (partsT t).length = t.kids.length + t.arms.length := by simp [partsT]
theorem parts_kid {t : Tm} {i : Nat} {u : Tm} (h : t.kids[i]? = some u) : (partsT t)[i]? = some (u, boundP t.kind t.name t.param i) := by
  have hi := (List.getElem?_eq_some_iff.1 h).1
  unfold partsT
  rw [List.getElem?_append_left (by simpa using hi)]
  simp [h]
theorem parts_arm {t : Tm} {i : Nat} {a : Ar} (h : t.arms[i]? = some a) : (partsT t)[t.kids.length + i]? = some (a.body, a.vars) := by
  unfold partsT
  rw [List.getElem?_append_right (by simp)]
  simp [h]
/-- What the i-th call of yield gets. -/
def PartY (t : Tm) (i : Nat) (m : Mem) (args : List Value) : Prop := ∃ (u : Tm) (l : List Str) (vs : List Value) (o : Option Addr) (c : Nat), args = [.agg vs.toArray, .slice o l.length c] ∧ TmR m u vs ∧ Strs m o l.length c l ∧ (partsT t)[i]? = some (u, l)
theorem at_of_drop {α : Type} {l r : List α} {k : Nat} {x : α} (h : l.drop k = x :: r) : l[k]? = some x := by
  have := congrArg (·[0]?) h
  simpa using this
set_option maxHeartbeats 400000 in
theorem boundP_c {w : World} {m : Mem} {t : Tm} {vs_t : List Value} {i : Nat} (hA : Agree w m) (h_t : TmR m t vs_t) : FnV Try.prog 54 #[.agg vs_t.toArray, .int .i64 (i : Int)] w m (fun _ m v => (MP.strs (boundP t.kind t.name t.param i)).p m v) := by
  obtain ⟨⟨oK_t, cK_t, oA_t, cA_t, oR_t, cR_t, t0_t, t1_t, t2_t, t3_t, t4_t, t5_t, u0_t, u1_t, u2_t, u3_t, u4_t, u5_t⟩, rfl, hon_t, hkk_t, haa_t, hrr_t⟩ := h_t.open_
  dsimp only at hkk_t haa_t hrr_t
  have hbg_t := hkk_t.big; have hcp_t := hkk_t.cap; have hbh_t := haa_t.big; have hcq_t := haa_t.cap
  refine fn_enter (vs := [_, _]) Try.func54 rfl rfl rfl fun a0 hfr0 => ?_
  have hst0 := st_enter hA (loc_nil [] _ w m)
  have hM : MLe m m := MLe.refl m
  refine seq_any fun _ hK1 => ?_
  refine rp0 hst0 hfr0 (.cons rfl (ob_box rfl rfl) <| .cons rfl (ob_assign rfl) <| .nil) ?_
  intro a1 w1 m1 hst1 hle1 hk1
  have hfr1 := hk1.fr (T' := [(1, _)]) (.old rfl rfl <| .nil)
  obtain ⟨g2, e2, hc2⟩ := hk1.ex 2 rfl
  replace hfr1 := hfr1.cons e2
  clear hst0 hfr0 hk1
  refine hK1 _ _ ?_; clear hK1
  refine seq_any fun _ hK3 => ?_
  refine wp_block ?_
  refine seq_any fun _ hK4 => ?_
  refine seq_any fun _ hK5 => ?_
  refine rp0 hst1 hfr1 (.cons rfl (ob_fieldAddrO (off := 0) rfl Try.underlying33 rfl rfl Try.sizeOf3 rfl) <| .cons rfl (ob_load1 rfl hc2 Try.isAgg3 rfl) <| .cons rfl (ob_eql rfl rfl) <| .cons rfl (ob_assign rfl) <| .nil) ?_
  intro a2 w2 m2 hst2 hle2 hk2
  have hfr2 := hk2.fr (T' := [(1, _), (2, _), (5, _)]) (.old rfl rfl <| .old rfl rfl <| .new rfl <| .nil)
  replace hc2 := hc2.mono hle2
  clear hst1 hfr1 hk2
  refine hK5 _ _ ?_; clear hK5
  refine cond_any hfr2 rfl rfl (fun hb5 => ?_) (fun hb5 => ?_)
  · try simp only [nq1, nq2, nq3, nq4, nq5, nq6, nq7, nq8, nq9, u8_eq] at hb5
    refine wp_skip ?_
    refine hK4 _ _ ?_; clear hK4
    refine cond_any hfr2 rfl rfl (fun hb5x => ?_) (fun hb5x => ?_)
    · try simp only [nq1, nq2, nq3, nq4, nq5, nq6, nq7, nq8, nq9, u8_eq] at hb5x
      refine seq_any fun _ hK6 => ?_
      refine ra0 (tch := []) hst2 hfr2 (.cons rfl (ob_fieldAddrO (off := 2) rfl Try.underlying33 rfl rfl Try.sizeOf9 rfl) <| .cons rfl (ob_load1 rfl hc2 Try.isAgg9 rfl) <| .cons rfl (ob_buildSlice (.cons rfl <| .nil) Try.underlying27 Try.sizeOf9 Try.zeroValue9 rfl rfl rfl rfl) <| .consA 25 rfl rfl <| .nil) ?_
      intro a3 w3 m3 hst3 hle3 hk3
      have hfr3 := hk3.fr (T' := []) (.nil)
      obtain ⟨g9, e7, hg9⟩ := hk3.ex 25 rfl
      replace hfr3 := hfr3.cons (hk3.same 4 rfl e7)
      clear hst2 hfr2 hk3
      refine hK6 _ _ ?_; clear hK6
      refine wp_ret ?_
      repeat (with_reducible first | refine then_ret ?_ | refine block_ret ?_)
      exact fn_ret hst3 hfr3 rfl (.tmp rfl <| .nil) (⟨(some ⟨g9, 0, none⟩, 1), by rw [show boundP t.kind t.name t.param i = [t.name] from by unfold boundP; first | rw [if_pos (by omega)] | rw [if_neg (by omega), if_pos (by omega)] | rw [if_neg (by omega), if_neg (by omega)]]; rfl, by rw [show boundP t.kind t.name t.param i = [t.name] from by unfold boundP; first | rw [if_pos (by omega)] | rw [if_neg (by omega), if_pos (by omega)] | rw [if_neg (by omega), if_neg (by omega)]]; exact Sl.one (vs := [_]) hg9 rfl rfl⟩)
    · exfalso; try simp only [nq1, nq2, nq3, nq4, nq5, nq6, nq7, nq8, nq9, u8_eq] at hb5x
      first | exact absurd hb5x hb5 | exact absurd hb5 hb5x | simp_all
  · try simp only [nq1, nq2, nq3, nq4, nq5, nq6, nq7, nq8, nq9, u8_eq] at hb5
    refine seq_any fun _ hK9 => ?_
    refine rp0 hst2 hfr2 (.cons rfl (ob_fieldAddrO (off := 0) rfl Try.underlying33 rfl rfl Try.sizeOf3 rfl) <| .cons rfl (ob_load1 rfl hc2 Try.isAgg3 rfl) <| .cons rfl (ob_eql rfl rfl) <| .cons rfl (ob_move rfl) <| .cons rfl (ob_move rfl) <| .cons rfl (ob_eql rfl rfl) <| .cons rfl (ob_and rfl rfl rfl) <| .cons rfl (ob_assign rfl) <| .nil) ?_
    intro a3 w3 m3 hst3 hle3 hk3
    have hfr3 := hk3.fr (T' := [(1, _), (2, _), (5, _)]) (.old rfl rfl <| .old rfl rfl <| .new rfl <| .nil)
    replace hc2 := hc2.mono hle3
    clear hst2 hfr2 hk3
    refine hK9 _ _ ?_; clear hK9
    refine cond_any hfr3 rfl rfl (fun hb5 => ?_) (fun hb5 => ?_)
    · try simp only [nq1, nq2, nq3, nq4, nq5, nq6, nq7, nq8, nq9, u8_eq] at hb5
      refine wp_skip ?_
      refine hK4 _ _ ?_; clear hK4
      refine cond_any hfr3 rfl rfl (fun hb5x => ?_) (fun hb5x => ?_)
      · try simp only [nq1, nq2, nq3, nq4, nq5, nq6, nq7, nq8, nq9, u8_eq] at hb5x
        refine seq_any fun _ hK10 => ?_
        refine ra0 (tch := []) hst3 hfr3 (.cons rfl (ob_fieldAddrO (off := 2) rfl Try.underlying33 rfl rfl Try.sizeOf9 rfl) <| .cons rfl (ob_load1 rfl hc2 Try.isAgg9 rfl) <| .cons rfl (ob_buildSlice (.cons rfl <| .nil) Try.underlying27 Try.sizeOf9 Try.zeroValue9 rfl rfl rfl rfl) <| .consA 25 rfl rfl <| .nil) ?_
        intro a4 w4 m4 hst4 hle4 hk4
        have hfr4 := hk4.fr (T' := []) (.nil)
        obtain ⟨g9, e11, hg9⟩ := hk4.ex 25 rfl
        replace hfr4 := hfr4.cons (hk4.same 4 rfl e11)
        clear hst3 hfr3 hk4
        refine hK10 _ _ ?_; clear hK10
        refine wp_ret ?_
        repeat (with_reducible first | refine then_ret ?_ | refine block_ret ?_)
        exact fn_ret hst4 hfr4 rfl (.tmp rfl <| .nil) (⟨(some ⟨g9, 0, none⟩, 1), by rw [show boundP t.kind t.name t.param i = [t.name] from by unfold boundP; first | rw [if_pos (by omega)] | rw [if_neg (by omega), if_pos (by omega)] | rw [if_neg (by omega), if_neg (by omega)]]; rfl, by rw [show boundP t.kind t.name t.param i = [t.name] from by unfold boundP; first | rw [if_pos (by omega)] | rw [if_neg (by omega), if_pos (by omega)] | rw [if_neg (by omega), if_neg (by omega)]]; exact Sl.one (vs := [_]) hg9 rfl rfl⟩)
      · exfalso; try simp only [nq1, nq2, nq3, nq4, nq5, nq6, nq7, nq8, nq9, u8_eq] at hb5x
        first | exact absurd hb5x hb5 | exact absurd hb5 hb5x | simp_all
    · try simp only [nq1, nq2, nq3, nq4, nq5, nq6, nq7, nq8, nq9, u8_eq] at hb5
      refine rp0 hst3 hfr3 (.cons rfl (ob_fieldAddrO (off := 0) rfl Try.underlying33 rfl rfl Try.sizeOf3 rfl) <| .cons rfl (ob_load1 rfl hc2 Try.isAgg3 rfl) <| .cons rfl (ob_eql rfl rfl) <| .cons rfl (ob_move rfl) <| .cons rfl (ob_move rfl) <| .cons rfl (ob_eql rfl rfl) <| .cons rfl (ob_and rfl rfl rfl) <| .cons rfl (ob_assign rfl) <| .nil) ?_
      intro a4 w4 m4 hst4 hle4 hk4
      have hfr4 := hk4.fr (T' := [(2, _), (5, _)]) (.old rfl rfl <| .new rfl <| .nil)
      replace hc2 := hc2.mono hle4
      clear hst3 hfr3 hk4
      refine hK4 _ _ ?_; clear hK4
      refine cond_any hfr4 rfl rfl (fun hb5 => ?_) (fun hb5 => ?_)
      · try simp only [nq1, nq2, nq3, nq4, nq5, nq6, nq7, nq8, nq9, u8_eq] at hb5
        refine seq_any fun _ hK13 => ?_
        refine ra0 (tch := []) hst4 hfr4 (.cons rfl (ob_fieldAddrO (off := 2) rfl Try.underlying33 rfl rfl Try.sizeOf9 rfl) <| .cons rfl (ob_load1 rfl hc2 Try.isAgg9 rfl) <| .cons rfl (ob_buildSlice (.cons rfl <| .nil) Try.underlying27 Try.sizeOf9 Try.zeroValue9 rfl rfl rfl rfl) <| .consA 25 rfl rfl <| .nil) ?_
        intro a5 w5 m5 hst5 hle5 hk5
        have hfr5 := hk5.fr (T' := []) (.nil)
        obtain ⟨g9, e14, hg9⟩ := hk5.ex 25 rfl
        replace hfr5 := hfr5.cons (hk5.same 4 rfl e14)
        clear hst4 hfr4 hk5
        refine hK13 _ _ ?_; clear hK13
        refine wp_ret ?_
        repeat (with_reducible first | refine then_ret ?_ | refine block_ret ?_)
        exact fn_ret hst5 hfr5 rfl (.tmp rfl <| .nil) (⟨(some ⟨g9, 0, none⟩, 1), by rw [show boundP t.kind t.name t.param i = [t.name] from by unfold boundP; first | rw [if_pos (by omega)] | rw [if_neg (by omega), if_pos (by omega)] | rw [if_neg (by omega), if_neg (by omega)]]; rfl, by rw [show boundP t.kind t.name t.param i = [t.name] from by unfold boundP; first | rw [if_pos (by omega)] | rw [if_neg (by omega), if_pos (by omega)] | rw [if_neg (by omega), if_neg (by omega)]]; exact Sl.one (vs := [_]) hg9 rfl rfl⟩)
      · try simp only [nq1, nq2, nq3, nq4, nq5, nq6, nq7, nq8, nq9, u8_eq] at hb5
        refine seq_any fun _ hK16 => ?_
        refine rp0 hst4 hfr4 (.cons rfl (ob_fieldAddrO (off := 0) rfl Try.underlying33 rfl rfl Try.sizeOf3 rfl) <| .cons rfl (ob_load1 rfl hc2 Try.isAgg3 rfl) <| .cons rfl (ob_eql rfl rfl) <| .cons rfl (ob_assign rfl) <| .nil) ?_
        intro a5 w5 m5 hst5 hle5 hk5
        have hfr5 := hk5.fr (T' := [(2, _), (26, _)]) (.old rfl rfl <| .new rfl <| .nil)
        replace hc2 := hc2.mono hle5
        clear hst4 hfr4 hk5
        refine hK16 _ _ ?_; clear hK16
        refine cond_any hfr5 rfl rfl (fun hb26 => ?_) (fun hb26 => ?_)
        · try simp only [nq1, nq2, nq3, nq4, nq5, nq6, nq7, nq8, nq9, u8_eq] at hb26
          refine seq_any fun _ hK17 => ?_
          refine ra0 (tch := []) hst5 hfr5 (.cons rfl (ob_fieldAddrO (off := 2) rfl Try.underlying33 rfl rfl Try.sizeOf9 rfl) <| .cons rfl (ob_load1 rfl hc2 Try.isAgg9 rfl) <| .cons rfl (ob_fieldAddrO (off := 3) rfl Try.underlying33 rfl rfl Try.sizeOf9 rfl) <| .cons rfl (ob_load1 rfl hc2 Try.isAgg9 rfl) <| .cons rfl (ob_buildSlice (.cons rfl <| .cons rfl <| .nil) Try.underlying27 Try.sizeOf9 Try.zeroValue9 rfl rfl rfl rfl) <| .consA 34 rfl rfl <| .nil) ?_
          intro a6 w6 m6 hst6 hle6 hk6
          have hfr6 := hk6.fr (T' := []) (.nil)
          obtain ⟨g9, e18, hg9⟩ := hk6.ex 34 rfl
          replace hfr6 := hfr6.cons (hk6.same 4 rfl e18)
          clear hst5 hfr5 hk6
          refine hK17 _ _ ?_; clear hK17
          refine wp_ret ?_
          repeat (with_reducible first | refine then_ret ?_ | refine block_ret ?_)
          exact fn_ret hst6 hfr6 rfl (.tmp rfl <| .nil) (⟨(some ⟨g9, 0, none⟩, 2), by rw [show boundP t.kind t.name t.param i = [t.name, t.param] from by unfold boundP; first | rw [if_pos (by omega)] | rw [if_neg (by omega), if_pos (by omega)] | rw [if_neg (by omega), if_neg (by omega)]]; rfl, by rw [show boundP t.kind t.name t.param i = [t.name, t.param] from by unfold boundP; first | rw [if_pos (by omega)] | rw [if_neg (by omega), if_pos (by omega)] | rw [if_neg (by omega), if_neg (by omega)]]; exact Sl.two (vs := [_]) (us := [_]) hg9 rfl rfl rfl rfl⟩)
        · try simp only [nq1, nq2, nq3, nq4, nq5, nq6, nq7, nq8, nq9, u8_eq] at hb26
          refine wp_skip ?_
          refine hK3 _ _ ?_; clear hK3
          refine seq_any fun _ hK20 => ?_
          refine rp0 hst5 hfr5 (.cons rfl (ob_assign rfl) <| .nil) ?_
          intro a6 w6 m6 hst6 hle6 hk6
          have hfr6 := hk6.fr (T' := [(4, _)]) (.new rfl <| .nil)
          clear hst5 hfr5 hk6
          refine hK20 _ _ ?_; clear hK20
          refine wp_ret ?_
          repeat (with_reducible first | refine then_ret ?_ | refine block_ret ?_)
          exact fn_ret hst6 hfr6 rfl (.tmp rfl <| .nil) (⟨(none, 0), by rw [show boundP t.kind t.name t.param i = [] from by unfold boundP; first | rw [if_pos (by omega)] | rw [if_neg (by omega), if_pos (by omega)] | rw [if_neg (by omega), if_neg (by omega)]]; rfl, by rw [show boundP t.kind t.name t.param i = [] from by unfold boundP; first | rw [if_pos (by omega)] | rw [if_neg (by omega), if_pos (by omega)] | rw [if_neg (by omega), if_neg (by omega)]]; exact Sl.empty⟩)

def MP.partsV (t : Tm) : MP := MP.mem (fun y : Nat × List Value => .func (.func 53) #[] #[.pointer (some ⟨y.1, 0, none⟩)]) (fun y m => CellsAt m ⟨y.1, 0, none⟩ y.2 ∧ TmR m t y.2) fun hm h => ⟨h.1.mono hm, h.2.mono hm⟩
set_option maxHeartbeats 400000 in
theorem parts_c {w : World} {m : Mem} {t : Tm} {vs_t : List Value} (hA : Agree w m) (h_t : TmR m t vs_t) : FnV Try.prog 41 #[.agg vs_t.toArray] w m (fun _ m v => (MP.partsV t).p m v) := by
  obtain ⟨⟨oK_t, cK_t, oA_t, cA_t, oR_t, cR_t, t0_t, t1_t, t2_t, t3_t, t4_t, t5_t, u0_t, u1_t, u2_t, u3_t, u4_t, u5_t⟩, rfl, hon_t, hkk_t, haa_t, hrr_t⟩ := h_t.open_
  dsimp only at hkk_t haa_t hrr_t
  have hbg_t := hkk_t.big; have hcp_t := hkk_t.cap; have hbh_t := haa_t.big; have hcq_t := haa_t.cap
  refine fn_enter (vs := [_]) Try.func41 rfl rfl rfl fun a0 hfr0 => ?_
  have hst0 := st_enter hA (loc_nil [] _ w m)
  have hM : MLe m m := MLe.refl m
  refine seq_any fun _ hK1 => ?_
  refine rp0 hst0 hfr0 (.cons rfl (ob_box rfl rfl) <| .cons rfl (ob_assign rfl) <| .nil) ?_
  intro a1 w1 m1 hst1 hle1 hk1
  have hfr1 := hk1.fr (T' := []) (.nil)
  obtain ⟨g9, e2, hg9⟩ := hk1.ex 1 rfl
  replace hfr1 := hfr1.cons e2
  replace h_t := h_t.mono hle1
  clear hst0 hfr0 hk1
  refine hK1 _ _ ?_; clear hK1
  refine seq_any fun _ hK3 => ?_
  refine rp0 hst1 hfr1 (.cons rfl (ob_makeFunc (.cons rfl <| .nil)) <| .cons rfl (ob_assign rfl) <| .nil) ?_
  intro a2 w2 m2 hst2 hle2 hk2
  have hfr2 := hk2.fr (T' := [(2, _)]) (.new rfl <| .nil)
  replace h_t := h_t.mono hle2
  replace hg9 := hg9.mono hle2
  clear hst1 hfr1 hk2
  refine hK3 _ _ ?_; clear hK3
  refine wp_ret ?_
  repeat (with_reducible first | refine then_ret ?_ | refine block_ret ?_)
  exact fn_ret hst2 hfr2 rfl (.tmp rfl <| .nil) (⟨(g9, _), rfl, hg9, h_t⟩)

set_option maxHeartbeats 800000 in
theorem parts1_c {w : World} {m : Mem} {l : Nat} {bs : List Nat} {Ψ : Nat → World → Mem → Prop} {Ψx : World → Mem → Prop} {mY : Mem} {q : Addr} {vs_t : List Value} {t : Tm} (hA : Agree w m) (hq : CellsAt m q vs_t) (h_t : TmR m t vs_t) (hmY : MLe mY m) (hbs : bs.Nodup) (hp : (Res.pack bs (Ψ 0)).holds w m) (hy : ∀ i, i < (partsT t).length → YieldW Try.prog l bs mY (PartY t i) (Ψ i) (Ψ (i + 1)) Ψx) : FnG Try.prog 53 #[.func (.yield l) #[] #[], .pointer (some q)] bs w m (fun w m _ => (Res.pack bs fun w m => Ψ (partsT t).length w m ∨ Ψx w m).holds w m) := by
  obtain ⟨⟨oK_t, cK_t, oA_t, cA_t, oR_t, cR_t, t0_t, t1_t, t2_t, t3_t, t4_t, t5_t, u0_t, u1_t, u2_t, u3_t, u4_t, u5_t⟩, rfl, hon_t, hkk_t, haa_t, hrr_t⟩ := h_t.open_
  dsimp only at hkk_t haa_t hrr_t
  have hbg_t := hkk_t.big; have hcp_t := hkk_t.cap; have hbh_t := haa_t.big; have hcq_t := haa_t.cap
  refine fn_enter (vs := [_, _]) Try.func53 rfl rfl rfl fun a0 hfr0 => ?_
  have hst0 := st_enter hA (loc_one hp hbs)
  have hM : MLe m m := MLe.refl m
  rw [parts_len] at hy
  rw [parts_len]
  refine seq_any fun _ hK1 => ?_
  refine seq_any fun _ hK2 => ?_
  refine rp0 hst0 hfr0 (.cons rfl (ob_fieldAddrO (off := 5) rfl Try.underlying33 rfl rfl Try.sizeOf24 rfl) <| .cons rfl (ob_load1 rfl hq Try.isAgg24 rfl) <| .cons rfl (ob_len rfl Try.underlying24) <| .cons rfl (ob_move rfl) <| .nil) ?_
  intro a1 w1 m1 hst1 hle1 hk1
  have hfr1 := hk1.fr (T' := [(0, _), (1, _), (8, _), (9, _), (10, _)]) (.old rfl rfl <| .old rfl rfl <| .new rfl <| .new rfl <| .new rfl <| .nil)
  replace hq := hq.mono hle1
  replace h_t := h_t.mono hle1
  replace hkk_t := hkk_t.mono hle1
  replace haa_t := haa_t.mono hle1
  replace hM := hM.trans hle1
  clear hst0 hfr0 hk1
  refine hK2 _ _ ?_; clear hK2
  refine wp_block ?_
  refine loop_any (T := [(0, _), (1, _), (8, _), (9, _)]) (fun (y : Nat) => ([(10, .int .i64 (y : Int))] : List (Nat × Value))) (fun y => [.pack bs (Ψ y)]) (fun (y : Nat) m => (y ≤ t.kids.length)) (fun y => t.kids.length - y) (0) ⟨hst1, MLe.refl _, hfr1.sub (.cons rfl <| .cons rfl <| .cons rfl <| .cons rfl <| .cons rfl <| .nil), Nat.zero_le _⟩ fun y a2 w2 m2 hh2 => ?_
  have hst2 := hh2.st; have hle2 := hh2.le; have hfr2 := hh2.fr; have hrel := hh2.rel; clear hh2
  replace hq := hq.mono hle2
  replace h_t := h_t.mono hle2
  replace hkk_t := hkk_t.mono hle2
  replace haa_t := haa_t.mono hle2
  clear hst1 hfr1
  replace hM := hM.trans hle2
  have hyn := hrel
  have hlh2 := hle2
  refine seq_any fun _ hK4 => ?_
  refine rp0 hst2 hfr2 (.cons rfl (ob_lss rfl rfl) <| .nil) ?_
  intro a3 w3 m3 hst3 hle3 hk3
  have hfr3 := hk3.fr (T' := [(10, _), (0, _), (1, _), (8, _), (9, _), (11, _)]) (.old rfl rfl <| .old rfl rfl <| .old rfl rfl <| .old rfl rfl <| .old rfl rfl <| .new rfl <| .nil)
  replace hq := hq.mono hle3
  replace h_t := h_t.mono hle3
  replace hkk_t := hkk_t.mono hle3
  replace haa_t := haa_t.mono hle3
  have hlh3 := hlh2.trans hle3
  replace hM := hM.trans hle3
  clear hst2 hfr2 hk3
  refine hK4 _ _ ?_; clear hK4
  refine seq_any fun _ hK5 => ?_
  refine cond_any hfr3 rfl rfl (fun hb11 => ?_) (fun hb11 => ?_)
  · try simp only [nq1, nq2, nq3, nq4, nq5, nq6, nq7, nq8, nq9, u8_eq] at hb11
    refine wp_skip ?_
    refine hK5 _ _ ?_; clear hK5
    refine seq_any fun _ hK6 => ?_
    refine wp_block ?_
    refine seq_any fun _ hK7 => ?_
    obtain ⟨p8, vs8, x8, ho8, hd8, hm_x8, ht8, hcv8, hl8, hv8⟩ := hkk_t.nth (k := y) (by omega)
    cases ho8
    obtain ⟨⟨oK8, cK8, oA8, cA8, oR8, cR8, t08, t18, t28, t38, t48, t58, u08, u18, u28, u38, u48, u58⟩, rfl, hon8, hkk8, haa8, hrr8⟩ := hv8.open_
    dsimp only at hkk8 haa8 hrr8
    have hbg8 := hkk8.big; have hcp8 := hkk8.cap; have hbh8 := haa8.big; have hcq8 := haa8.cap
    replace hst3 := hst3.more (r := .free) trivial List.nodup_nil (by simp [Res.blocks])
    refine ra0 (tch := [(3, 1, (fun v => .blk v _)), (5, 1, (fun v => .blk v _))]) hst3 hfr3 (.cons rfl (ob_move rfl) <| .cons rfl (ob_indexAddr (k := y) rfl rfl Try.underlying24 Try.sizeOf33 rfl (by omega)) <| .cons rfl (ob_loadS' rfl hcv8 Try.isAgg33 Try.sizeOf33 rfl rfl) <| .consT rfl rfl (fun _ => rfl) rfl (ob_allocL Try.zeroValue33 rfl) <| .cons rfl (ob_assign rfl) <| .consT rfl rfl (fun _ => rfl) rfl (ob_imgT 4 rfl rfl rfl fun y4 => ob_storeF rfl rfl rfl rfl rfl Try.sizeOf33 rfl rfl hv8.one) <| .nil) ?_
    intro a4 w4 m4 hst4 hle4 hk4
    have hfr4 := hk4.fr (T' := [(10, _), (0, _), (1, _), (8, _), (9, _), (3, _)]) (.old rfl rfl <| .old rfl rfl <| .old rfl rfl <| .old rfl rfl <| .old rfl rfl <| .new rfl <| .nil)
    obtain ⟨g9, e9, _⟩ := hk4.ex 4 rfl
    replace hfr4 := hfr4.cons e9
    replace hst4 := hst4.fin (L' := [_, _]) (.cons e9 <| .cons e9 <| .nil)
    try simp only [List.take_succ_cons, List.take_zero, List.drop_succ_cons, List.drop_zero, List.cons_append, List.nil_append, List.append_nil, List.length_cons, List.length_nil, Nat.zero_add, Nat.reduceAdd] at hst4
    replace hq := hq.mono hle4
    replace h_t := h_t.mono hle4
    replace hv8 := hv8.mono hle4
    have hlh4 := hlh3.trans hle4
    replace hM := hM.trans hle4
    clear hst3 hfr3 hk4
    refine hK7 _ _ ?_; clear hK7
    refine seq_any fun _ hK10 => ?_
    refine region_any (tch := [(5, 0, (fun v => .pack bs _))]) (fun _ => mixed) hst4 hfr4 (by kernel_rfl) (by kernel_rfl) (by kernel_rfl) (.cons rfl (ob_move rfl) <| .cons rfl (ob_loadLA (j := 1) rfl rfl Try.isAgg33 Try.sizeOf33 rfl) <| .cons rfl (ob_loadS' rfl hq Try.isAgg33 Try.sizeOf33 rfl rfl) <| .cons rfl (ob_move rfl) <| .cons rfl (ob_call (φ := MP.strs (boundP t.kind t.name t.param y)) rfl (.cons rfl <| .cons rfl <| .nil) Try.call54 (fun w m hK => by have hle_ := KC.le hK; have hA := KC.agree hK; have h_t := h_t.mono hle_; exact FnG.mono (boundP_c (t := t) (i := y) hA h_t) fun _ _ _ _ h => h)) <| .consT rfl rfl (fun _ => rfl) rfl (ob_imgT 19 rfl rfl rfl fun y19 => ob_yield rfl (.cons rfl <| .cons rfl <| .nil) (hy y (by omega)) (hmY.trans hM) hbs (fun w m hK => ⟨x8, _, _, _, _, rfl, hv8.mono (KC.le hK), hK.2, parts_kid (at_of_drop hd8)⟩)) <| .consN 20 notV rfl rfl (makes_not rfl rfl) <| .nil) ?_
    intro a5 w5 m5 hst5 hle5 hk5
    have hfr5 := hk5.fr (T' := [(10, _), (0, _), (1, _), (8, _), (9, _)]) (.old rfl rfl <| .old rfl rfl <| .old rfl rfl <| .old rfl rfl <| .old rfl rfl <| .nil)
    obtain ⟨b20, e11, _⟩ := hk5.ex 20 rfl
    replace hfr5 := hfr5.cons (hk5.made 21 rfl e11)
    replace hst5 := hst5.fin (L' := [_, _]) (.cons e11 <| .nil)
    have hlh5 := hlh4.trans hle5
    clear hst4 hfr4 hk5
    refine hK10 _ _ ?_; clear hK10
    refine cond_any hfr5 rfl rfl (fun hb21 => ?_) (fun hb21 => ?_)
    · try simp only [nq1, nq2, nq3, nq4, nq5, nq6, nq7, nq8, nq9, u8_eq] at hb21
      have hst9 := hst5.weaken (k := 0) (r' := .pack bs (Ψx)) rfl rfl (fun h => pack_mono h fun w m h => h.elim (fun h => by have h1 : Value.bool b20 = Value.bool true := h.1; injection h1 with h1; rw [h1] at hb21; exact absurd hb21 (by decide)) (fun h => h.2))
      simp only [List.set_cons_zero] at hst9
      clear hst5; have hst5 := hst9; clear hst9
      refine wp_ret ?_
      repeat (with_reducible first | refine then_ret ?_ | refine block_ret ?_)
      exact fn_ret hst5 hfr5 rfl (.nil) (pack_mono (hst5.loc.at_ (k := 0) rfl) fun w m h => .inr h)
    · try simp only [nq1, nq2, nq3, nq4, nq5, nq6, nq7, nq8, nq9, u8_eq] at hb21
      have hst9 := hst5.weaken (k := 0) (r' := .pack bs (Ψ (y + 1))) rfl rfl (fun h => pack_mono h fun w m h => h.elim (fun h => h.2) (fun h => by have h1 : Value.bool b20 = Value.bool false := h.1; injection h1 with h1; rw [h1] at hb21; exact absurd hb21 (by decide)))
      simp only [List.set_cons_zero] at hst9
      clear hst5; have hst5 := hst9; clear hst9
      refine wp_skip ?_
      refine hK6 _ _ ?_; clear hK6
      refine rp0 hst5 hfr5 (.cons rfl (ob_add rfl rfl ⟨by omega, by omega⟩) <| .cons rfl (ob_move rfl) <| .nil) ?_
      intro a6 w6 m6 hst6 hle6 hk6
      have hfr6 := hk6.fr (T' := [(0, _), (1, _), (8, _), (9, _), (10, _)]) (.old rfl rfl <| .old rfl rfl <| .old rfl rfl <| .old rfl rfl <| .new rfl <| .nil)
      have hlh6 := hlh5.trans hle6
      clear hst5 hfr5 hk6
      have hst6 := hst6.take 1
      exact ⟨y + 1, m6, by show t.kids.length - (y + 1) < t.kids.length - y; omega, ⟨hst6, hlh6, hfr6.sub (.cons rfl <| .cons rfl <| .cons rfl <| .cons rfl <| .cons rfl <| .nil), by show y + 1 ≤ t.kids.length; omega⟩⟩
  · try simp only [nq1, nq2, nq3, nq4, nq5, nq6, nq7, nq8, nq9, u8_eq] at hb11
    have hge : y = t.kids.length := by omega
    subst hge
    refine wp_exit ?_
    refine hK1 _ _ ?_; clear hK1
    refine seq_any fun _ hK13 => ?_
    refine rp0 hst3 hfr3 (.cons rfl (ob_fieldAddrO (off := 6) rfl Try.underlying33 rfl rfl Try.sizeOf25 rfl) <| .cons rfl (ob_load1 rfl hq Try.isAgg25 rfl) <| .cons rfl (ob_len rfl Try.underlying25) <| .cons rfl (ob_move rfl) <| .nil) ?_
    intro a4 w4 m4 hst4 hle4 hk4
    have hfr4 := hk4.fr (T' := [(10, _), (0, _), (24, _), (25, _), (26, _)]) (.old rfl rfl <| .old rfl rfl <| .new rfl <| .new rfl <| .new rfl <| .nil)
    replace haa_t := haa_t.mono hle4
    have hlh4 := hlh3.trans hle4
    replace hM := hM.trans hle4
    clear hst3 hfr3 hk4
    refine hK13 _ _ ?_; clear hK13
    refine wp_block ?_
    have hlq14 := hlh4
    refine loop_any (T := [(10, _), (0, _), (24, _), (25, _)]) (fun (y : Nat) => ([(26, .int .i64 (y : Int))] : List (Nat × Value))) (fun y => [.pack bs (Ψ (t.kids.length + y))]) (fun (y : Nat) m => (y ≤ t.arms.length)) (fun y => t.arms.length - y) (0) ⟨hst4, MLe.refl _, hfr4.sub (.cons rfl <| .cons rfl <| .cons rfl <| .cons rfl <| .cons rfl <| .nil), Nat.zero_le _⟩ fun y a5 w5 m5 hh5 => ?_
    have hst5 := hh5.st; have hle5 := hh5.le; have hfr5 := hh5.fr; have hrel := hh5.rel; clear hh5
    replace haa_t := haa_t.mono hle5
    clear hst4 hfr4
    replace hM := hM.trans hle5
    have hyn := hrel
    have hlh5 := hle5
    refine seq_any fun _ hK15 => ?_
    refine rp0 hst5 hfr5 (.cons rfl (ob_lss rfl rfl) <| .nil) ?_
    intro a6 w6 m6 hst6 hle6 hk6
    have hfr6 := hk6.fr (T' := [(26, _), (10, _), (0, _), (24, _), (25, _), (27, _)]) (.old rfl rfl <| .old rfl rfl <| .old rfl rfl <| .old rfl rfl <| .old rfl rfl <| .new rfl <| .nil)
    replace haa_t := haa_t.mono hle6
    have hlh6 := hlh5.trans hle6
    replace hM := hM.trans hle6
    clear hst5 hfr5 hk6
    refine hK15 _ _ ?_; clear hK15
    refine seq_any fun _ hK16 => ?_
    refine cond_any hfr6 rfl rfl (fun hb27 => ?_) (fun hb27 => ?_)
    · try simp only [nq1, nq2, nq3, nq4, nq5, nq6, nq7, nq8, nq9, u8_eq] at hb27
      refine wp_skip ?_
      refine hK16 _ _ ?_; clear hK16
      refine seq_any fun _ hK17 => ?_
      refine wp_block ?_
      refine seq_any fun _ hK18 => ?_
      obtain ⟨p19, vs19, x19, ho19, hd19, hm_x19, ht19, hcv19, hl19, hv19⟩ := haa_t.nth (k := y) (by omega)
      cases ho19
      obtain ⟨oV19, cV19, bs19, rfl, hva19, hbd19⟩ := hv19.open_
      have hbv19 := hva19.big; have hcv19_ := hva19.cap
      obtain ⟨⟨oK19b, cK19b, oA19b, cA19b, oR19b, cR19b, t019b, t119b, t219b, t319b, t419b, t519b, u019b, u119b, u219b, u319b, u419b, u519b⟩, rfl, hon19b, hkk19b, haa19b, hrr19b⟩ := hbd19.open_
      dsimp only at hkk19b haa19b hrr19b
      have hbg19b := hkk19b.big; have hcp19b := hkk19b.cap; have hbh19b := haa19b.big; have hcq19b := haa19b.cap
      replace hst6 := hst6.more (r := .free) trivial List.nodup_nil (by simp [Res.blocks])
      refine ra0 (tch := [(2, 1, (fun v => .blk v _)), (3, 1, (fun v => .blk v _))]) hst6 hfr6 (.cons rfl (ob_indexAddr (k := y) rfl rfl Try.underlying25 Try.sizeOf40 rfl (by omega)) <| .cons rfl (ob_loadS' rfl hcv19 Try.isAgg40 Try.sizeOf40 rfl rfl) <| .consT rfl rfl (fun _ => rfl) rfl (ob_allocL Try.zeroValue40 rfl) <| .consT rfl rfl (fun _ => rfl) rfl (ob_imgT 6 rfl rfl rfl fun y6 => ob_storeF rfl rfl rfl rfl rfl Try.sizeOf40 rfl rfl hv19.one) <| .nil) ?_
      intro a7 w7 m7 hst7 hle7 hk7
      have hfr7 := hk7.fr (T' := [(26, _), (10, _), (0, _), (24, _), (25, _)]) (.old rfl rfl <| .old rfl rfl <| .old rfl rfl <| .old rfl rfl <| .old rfl rfl <| .nil)
      obtain ⟨g20, e20, _⟩ := hk7.ex 6 rfl
      replace hfr7 := hfr7.cons e20
      replace hst7 := hst7.fin (L' := [_, _]) (.cons e20 <| .cons e20 <| .nil)
      try simp only [List.take_succ_cons, List.take_zero, List.drop_succ_cons, List.drop_zero, List.cons_append, List.nil_append, List.append_nil, List.length_cons, List.length_nil, Nat.zero_add, Nat.reduceAdd] at hst7
      replace hva19 := hva19.mono hle7
      replace hbd19 := hbd19.mono hle7
      have hlh7 := hlh6.trans hle7
      replace hM := hM.trans hle7
      clear hst6 hfr6 hk7
      refine hK18 _ _ ?_; clear hK18
      refine seq_any fun _ hK21 => ?_
      refine ra0 (tch := [(5, 0, (fun v => .pack bs _))]) hst7 hfr7 (.cons rfl (ob_move rfl) <| .cons rfl (ob_fieldAddrO (off := 2) rfl Try.underlying40 rfl rfl Try.sizeOf33 rfl) <| .cons rfl (ob_loadLS (j := 1) rfl rfl Try.isAgg33 Try.sizeOf33 rfl rfl) <| .cons rfl (ob_fieldAddrO (off := 1) rfl Try.underlying40 rfl rfl Try.sizeOf27 rfl) <| .cons rfl (ob_loadL (j := 1) rfl rfl Try.isAgg27 rfl) <| .consT rfl rfl (fun _ => rfl) rfl (ob_yield rfl (.cons rfl <| .cons rfl <| .nil) (hy (t.kids.length + y) (by omega)) (hmY.trans hM) hbs (fun w m hK => ⟨x19.body, _, _, _, _, rfl, hbd19.mono (KC.le hK), hva19.mono (KC.le hK), parts_arm (at_of_drop hd19)⟩)) <| .consN 35 notV rfl rfl (makes_not rfl rfl) <| .nil) ?_
      intro a8 w8 m8 hst8 hle8 hk8
      have hfr8 := hk8.fr (T' := [(26, _), (10, _), (0, _), (24, _), (25, _)]) (.old rfl rfl <| .old rfl rfl <| .old rfl rfl <| .old rfl rfl <| .old rfl rfl <| .nil)
      obtain ⟨b35, e22, _⟩ := hk8.ex 35 rfl
      replace hfr8 := hfr8.cons (hk8.made 36 rfl e22)
      replace hst8 := hst8.fin (L' := [_, _]) (.cons e22 <| .nil)
      have hlh8 := hlh7.trans hle8
      clear hst7 hfr7 hk8
      refine hK21 _ _ ?_; clear hK21
      refine cond_any hfr8 rfl rfl (fun hb36 => ?_) (fun hb36 => ?_)
      · try simp only [nq1, nq2, nq3, nq4, nq5, nq6, nq7, nq8, nq9, u8_eq] at hb36
        have hst9 := hst8.weaken (k := 0) (r' := .pack bs (Ψx)) rfl rfl (fun h => pack_mono h fun w m h => h.elim (fun h => by have h1 : Value.bool b35 = Value.bool true := h.1; injection h1 with h1; rw [h1] at hb36; exact absurd hb36 (by decide)) (fun h => h.2))
        simp only [List.set_cons_zero] at hst9
        clear hst8; have hst8 := hst9; clear hst9
        refine wp_ret ?_
        repeat (with_reducible first | refine then_ret ?_ | refine block_ret ?_)
        exact fn_ret hst8 hfr8 rfl (.nil) (pack_mono (hst8.loc.at_ (k := 0) rfl) fun w m h => .inr h)
      · try simp only [nq1, nq2, nq3, nq4, nq5, nq6, nq7, nq8, nq9, u8_eq] at hb36
        have hst9 := hst8.weaken (k := 0) (r' := .pack bs (Ψ (t.kids.length + (y + 1)))) rfl rfl (fun h => pack_mono h fun w m h => h.elim (fun h => h.2) (fun h => by have h1 : Value.bool b35 = Value.bool false := h.1; injection h1 with h1; rw [h1] at hb36; exact absurd hb36 (by decide)))
        simp only [List.set_cons_zero] at hst9
        clear hst8; have hst8 := hst9; clear hst9
        refine wp_skip ?_
        refine hK17 _ _ ?_; clear hK17
        refine rp0 hst8 hfr8 (.cons rfl (ob_add rfl rfl ⟨by omega, by omega⟩) <| .cons rfl (ob_move rfl) <| .nil) ?_
        intro a9 w9 m9 hst9 hle9 hk9
        have hfr9 := hk9.fr (T' := [(10, _), (0, _), (24, _), (25, _), (26, _)]) (.old rfl rfl <| .old rfl rfl <| .old rfl rfl <| .old rfl rfl <| .new rfl <| .nil)
        have hlh9 := hlh8.trans hle9
        clear hst8 hfr8 hk9
        have hst9 := hst9.take 1
        exact ⟨y + 1, m9, by show t.arms.length - (y + 1) < t.arms.length - y; omega, ⟨hst9, hlh9, hfr9.sub (.cons rfl <| .cons rfl <| .cons rfl <| .cons rfl <| .cons rfl <| .nil), by show y + 1 ≤ t.arms.length; omega⟩⟩
    · try simp only [nq1, nq2, nq3, nq4, nq5, nq6, nq7, nq8, nq9, u8_eq] at hb27
      have hge : y = t.arms.length := by omega
      subst hge
      refine wp_exit ?_
      repeat (with_reducible first | refine then_exit ?_ | refine block_exit ?_ | refine block_normal ?_)
      exact fn_end hst6 hfr6 rfl (.nil) (pack_mono (hst6.loc.at_ (k := 0) rfl) fun w m h => .inl h)

end Go.Proofs.Ytppmbhjacjmfkaa
