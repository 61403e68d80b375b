/-
  Package value on trees: what may be, what is first-order, what is the same. Conditions: those of each theorem.
-/
import Derived.Test.YtineijefefjpeaaDoorSlices1
namespace Go.Proofs.YtineijefefjpeaaDoor
set_option linter.all false
open Go.RowKit
mutual
def plainV : VT → Bool
  | ⟨k, _, _, ks⟩ => !decide (k = 6) && !decide (k = 5) && plainL ks
def plainL : List VT → Bool
  | [] => true
  | t :: ts => plainV t && plainL ts
end
theorem plainL_any : ∀ (l : List VT), (!l.any fun u => !plainV u) = plainL l
  | [] => rfl
  | t :: ts => by simp only [List.any_cons, plainL, Bool.not_or, Bool.not_not, plainL_any ts]
theorem plainV_eq (t : VT) : plainV t = (!decide (t.kind = 6) && !decide (t.kind = 5) && plainL t.kids) := by obtain ⟨k, n, s, ks⟩ := t; rw [plainV]; rfl
/-- What the code asks of one value, but for its kids. -/
def rightB (left : Nat) (k n : Int) (s : Str) (len : Nat) (ko : Bool) : Bool :=
  if left = 0 ∨ (k ≠ 4 ∧ (s ≠ [] ∨ 0 < len)) then false else if k = 1 then true else if k = 2 then decide (n = 0 ∨ n = 1) else if k = 3 ∨ k = 6 then decide (n = 0)
  else if k = 5 then decide (0 ≤ n) else if k = 4 then decide (s ≠ []) && decide (n = 0) && ko else false
mutual
def rightV (left : Nat) : VT → Bool
  | ⟨k, n, s, ks⟩ => rightB left k n s ks.length (rightL (left - 1) ks)
def rightL (left : Nat) : List VT → Bool
  | [] => true
  | t :: ts => rightV left t && rightL left ts
end
theorem rightL_any (left : Nat) : ∀ (l : List VT), (!l.any fun u => !rightV left u) = rightL left l
  | [] => by simp [rightL]
  | t :: ts => by simp only [List.any_cons, rightL, Bool.not_or, Bool.not_not, rightL_any left ts]
theorem rightV_eq (left : Nat) (t : VT) : rightV left t = rightB left t.kind t.n t.name t.kids.length (rightL (left - 1) t.kids) := by obtain ⟨k, n, s, ks⟩ := t; rw [rightV]; rfl
mutual
def sameV : VT → VT → Bool
  | ⟨k, n, s, ks⟩, ⟨k', n', s', ks'⟩ => decide (k = k') && decide (n = n') && decide (s = s') && sameL ks ks'
def sameL : List VT → List VT → Bool
  | [], [] => true
  | t :: ts, u :: us => sameV t u && sameL ts us
  | [], _ :: _ => false
  | _ :: _, [] => false
end
theorem sameL_all2 : ∀ (l l' : List VT), all2 sameV l l' = sameL l l'
  | [], [] => by simp [all2, sameL]
  | [], _ :: _ => by simp [all2, sameL]
  | _ :: _, [] => by simp [all2, sameL]
  | t :: ts, u :: us => by simp [all2, sameL, sameL_all2 ts us]
theorem sameV_eq (t u : VT) : sameV t u = (decide (t.kind = u.kind) && decide (t.n = u.n) && decide (t.name = u.name) && sameL t.kids u.kids) := by obtain ⟨k, n, s, ks⟩ := t; obtain ⟨k', n', s', ks'⟩ := u; rw [sameV]; rfl
theorem sameL_len {l l' : List VT} (h : l.length ≠ l'.length) : sameL l l' = false := by rw [← sameL_all2]; exact all2_len h
abbrev plain_G (t : VT) : Prop := ∀ {w : World} {m : Mem} {vs_t : List Value} (hA : Agree w m) (h_t : VR m t vs_t), FnV Tryd.prog 31 #[.agg vs_t.toArray] w m (fun _ _ v => v = .bool (plainV t))
set_option maxHeartbeats 400000 in
theorem plain1_c {w : World} {m : Mem} {t : VT} {vs_t : List Value} (hA : Agree w m) (h_t : VR m t vs_t) (hp : plain_G t) : FnV Tryd.prog 48 #[.agg vs_t.toArray] w m (fun _ _ v => v = .bool (!plainV t)) := by
  obtain ⟨o_t, c_t, rfl, hk_t, hi_t, hj_t⟩ := h_t.open_
  have hbg_t := hk_t.big; have hcp_t := hk_t.cap
  refine fn_enter (vs := [_]) Tryd.func48 rfl rfl rfl fun a0 hfr0 => ?_
  have hst0 := st_enter hA (loc_nil [] _ w m)
  have hM : MLe m m := MLe.refl m
  refine seq_any fun K1 hK1 => ?_
  refine region_plain (fun h => by cases h) hst0 hfr0 (by kernel_rfl) (by kernel_rfl) (.cons rfl (ob_box rfl rfl) <|
      .cons rfl (ob_assign rfl) <|
      .nil) ?_
  intro a1 w1 m1 hst1 hle1 hk1
  have hfr1 := hk1.fr (T' := [(0, _), (2, _)]) (.old rfl rfl <| .new rfl <| .nil)
  obtain ⟨g2, e2, hc1⟩ := hk1.ex 1 rfl
  replace hfr1 := hfr1.cons e2
  replace h_t := h_t.mono hle1
  replace hk_t := hk_t.mono hle1
  replace hM := hM.trans hle1
  clear hst0 hfr0 hk1
  refine hK1 _ _ ?_; try clear hK1 K1
  refine seq_any fun K3 hK3 => ?_
  refine region_plain (fun h => by cases h) hst1 hfr1 (by kernel_rfl) (by kernel_rfl) (.cons rfl (ob_loadS' rfl hc1 Tryd.isAgg24 Tryd.sizeOf24 rfl rfl) <|
      .cons rfl (ob_callE rfl (.cons rfl <| .nil) Tryd.call31 (fun w m hK => by have hle_ := KC.le hK; have hA := KC.agree hK; have hM := hM.trans hle_; have h_t := h_t.mono hle_; exact hp hA h_t)) <|
      .cons rfl (ob_not rfl) <|
      .cons rfl (ob_assign rfl) <|
      .nil) ?_
  intro a2 w2 m2 hst2 hle2 hk2
  have hfr2 := hk2.fr (T' := [(0, _), (1, _), (2, _)]) (.old rfl rfl <| .old rfl rfl <| .new rfl <| .nil)
  replace h_t := h_t.mono hle2
  replace hk_t := hk_t.mono hle2
  replace hc1 := hc1.mono hle2
  replace hM := hM.trans hle2
  clear hst1 hfr1 hk2
  refine hK3 _ _ ?_; try clear hK3 K3
  refine wp_ret ?_
  repeat (with_reducible first | refine then_ret ?_ | refine block_ret ?_)
  exact fn_ret hst2 hfr2 rfl (.tmp rfl <| .nil) (rfl)
set_option maxHeartbeats 400000 in
theorem plain_s {t : VT} (ih : ∀ u ∈ t.kids, plain_G u) {w : World} {m : Mem} {vs_t : List Value} (hA : Agree w m) (h_t : VR m t vs_t) : FnV Tryd.prog 31 #[.agg vs_t.toArray] w m (fun _ _ v => v = .bool (plainV t)) := by
  obtain ⟨o_t, c_t, rfl, hk_t, hi_t, hj_t⟩ := h_t.open_
  have hbg_t := hk_t.big; have hcp_t := hk_t.cap
  refine fn_enter (vs := [_]) Tryd.func31 rfl rfl rfl fun a0 hfr0 => ?_
  have hst0 := st_enter hA (loc_nil [] _ w m)
  have hM : MLe m m := MLe.refl m
  refine seq_any fun K1 hK1 => ?_
  refine region_plain (fun h => by cases h) hst0 hfr0 (by kernel_rfl) (by kernel_rfl) (.cons rfl (ob_box rfl rfl) <|
      .cons rfl (ob_assign rfl) <|
      .nil) ?_
  intro a1 w1 m1 hst1 hle1 hk1
  have hfr1 := hk1.fr (T' := [(0, _), (2, _)]) (.old rfl rfl <| .new rfl <| .nil)
  obtain ⟨g2, e2, hc1⟩ := hk1.ex 1 rfl
  replace hfr1 := hfr1.cons e2
  replace h_t := h_t.mono hle1
  replace hk_t := hk_t.mono hle1
  replace hM := hM.trans hle1
  clear hst0 hfr0 hk1
  refine hK1 _ _ ?_; try clear hK1 K1
  refine seq_any fun K3 hK3 => ?_
  refine region_plain (fun h => by cases h) hst1 hfr1 (by kernel_rfl) (by kernel_rfl) (.cons rfl (ob_fieldAddr rfl Tryd.underlying24 rfl Tryd.sizeOf3 rfl) <|
      .cons rfl (ob_load1 rfl hc1 Tryd.isAgg3 rfl) <|
      .cons rfl (ob_neq rfl rfl) <|
      .cons rfl (ob_move rfl) <|
      .cons rfl (ob_fieldAddr rfl Tryd.underlying24 rfl Tryd.sizeOf3 rfl) <|
      .cons rfl (ob_load1 rfl hc1 Tryd.isAgg3 rfl) <|
      .cons rfl (ob_neq rfl rfl) <|
      .cons rfl (ob_and rfl rfl rfl) <|
      .cons rfl (ob_move rfl) <|
      .cons rfl (ob_fieldAddr rfl Tryd.underlying24 rfl Tryd.sizeOf22 rfl) <|
      .cons rfl (ob_load1 rfl hc1 Tryd.isAgg22 rfl) <|
      .cons rfl (ob_callE rfl (.cons rfl <| .cons rfl <| .nil) Tryd.call46 (fun w m hK => by have hle_ := KC.le hK; have hA := KC.agree hK; have hM := hM.trans hle_; have hk_t := hk_t.mono hle_; exact containsf_c (φ := fun u => !plainV u) (cap := []) hA hk_t Tryd.call48 (fun w m2 u vs hm ha hv hu => plain1_c ha hv (ih u hu)))) <|
      .cons rfl (ob_not rfl) <|
      .cons rfl (ob_and rfl rfl rfl) <|
      .cons rfl (ob_assign rfl) <|
      .nil) ?_
  intro a2 w2 m2 hst2 hle2 hk2
  have hfr2 := hk2.fr (T' := [(0, _), (1, _), (2, _)]) (.old rfl rfl <| .old rfl rfl <| .new rfl <| .nil)
  replace h_t := h_t.mono hle2
  replace hk_t := hk_t.mono hle2
  replace hc1 := hc1.mono hle2
  replace hM := hM.trans hle2
  clear hst1 hfr1 hk2
  refine hK3 _ _ ?_; try clear hK3 K3
  refine wp_ret ?_
  repeat (with_reducible first | refine then_ret ?_ | refine block_ret ?_)
  exact fn_ret hst2 hfr2 rfl (.tmp rfl <| .nil) (by rw [plainV_eq, ← plainL_any]; rfl)
theorem plain_c (t : VT) : plain_G t := VT.rec_ (p := plain_G) (fun t ih => plain_s ih) t

abbrev right_G (t : VT) : Prop := ∀ {w : World} {m : Mem} {vs_t : List Value} {left : Nat} (hA : Agree w m) (h_t : VR m t vs_t) (hl : left ≤ 1000), FnV Tryd.prog 28 #[.agg vs_t.toArray, .int .i64 (left : Int)] w m (fun _ _ v => v = .bool (rightV left t))
set_option maxHeartbeats 400000 in
theorem right1_c {w : World} {m : Mem} {t : VT} {vs_t : List Value} {q_l : Addr} {left : Nat} (hA : Agree w m) (h_t : VR m t vs_t) (hq_l : CellsAt m q_l [.int .i64 (left : Int)]) (hl0 : 1 ≤ left) (hl : left ≤ 1000) (hp : right_G t) : FnV Tryd.prog 47 #[.agg vs_t.toArray, .pointer (some q_l)] w m (fun _ _ v => v = .bool (!rightV (left - 1) t)) := by
  obtain ⟨o_t, c_t, rfl, hk_t, hi_t, hj_t⟩ := h_t.open_
  have hbg_t := hk_t.big; have hcp_t := hk_t.cap
  refine fn_enter (vs := [_, _]) Tryd.func47 rfl rfl rfl fun a0 hfr0 => ?_
  have hst0 := st_enter hA (loc_nil [] _ w m)
  have hM : MLe m m := MLe.refl m
  have e1 : ((left - 1 : Nat) : Int) = (left : Int) - 1 := by omega
  refine seq_any fun K1 hK1 => ?_
  refine region_plain (fun h => by cases h) hst0 hfr0 (by kernel_rfl) (by kernel_rfl) (.cons rfl (ob_box rfl rfl) <|
      .cons rfl (ob_assign rfl) <|
      .nil) ?_
  intro a1 w1 m1 hst1 hle1 hk1
  have hfr1 := hk1.fr (T' := [(0, _), (1, _), (3, _)]) (.old rfl rfl <| .old rfl rfl <| .new rfl <| .nil)
  obtain ⟨g2, e2, hc2⟩ := hk1.ex 2 rfl
  replace hfr1 := hfr1.cons e2
  replace h_t := h_t.mono hle1
  replace hk_t := hk_t.mono hle1
  replace hq_l := hq_l.mono hle1
  replace hM := hM.trans hle1
  clear hst0 hfr0 hk1
  refine hK1 _ _ ?_; try clear hK1 K1
  refine seq_any fun K3 hK3 => ?_
  refine region_plain (fun h => by cases h) hst1 hfr1 (by kernel_rfl) (by kernel_rfl) (.cons rfl (ob_loadS' rfl hc2 Tryd.isAgg24 Tryd.sizeOf24 rfl rfl) <|
      .cons rfl (ob_load1' rfl (by assumption) Tryd.isAgg3 rfl) <|
      .cons rfl (ob_sub rfl rfl ⟨by omega, by omega⟩) <|
      .cons rfl (ob_callE rfl (.cons rfl <| .cons rfl <| .nil) Tryd.call28 (fun w m hK => by have hle_ := KC.le hK; have hA := KC.agree hK; have hM := hM.trans hle_; have h_t := h_t.mono hle_; exact (show FnV Tryd.prog 28 #[_, .int .i64 ((left : Int) - 1)] _ _ _ from by rw [← e1]; exact hp hA h_t (by omega)))) <|
      .cons rfl (ob_not rfl) <|
      .cons rfl (ob_assign rfl) <|
      .nil) ?_
  intro a2 w2 m2 hst2 hle2 hk2
  have hfr2 := hk2.fr (T' := [(0, _), (1, _), (2, _), (3, _)]) (.old rfl rfl <| .old rfl rfl <| .old rfl rfl <| .new rfl <| .nil)
  replace h_t := h_t.mono hle2
  replace hk_t := hk_t.mono hle2
  replace hq_l := hq_l.mono hle2
  replace hc2 := hc2.mono hle2
  replace hM := hM.trans hle2
  clear hst1 hfr1 hk2
  refine hK3 _ _ ?_; try clear hK3 K3
  refine wp_ret ?_
  repeat (with_reducible first | refine then_ret ?_ | refine block_ret ?_)
  exact fn_ret hst2 hfr2 rfl (.tmp rfl <| .nil) (rfl)
set_option maxHeartbeats 400000 in
theorem right_s {t : VT} (ih : ∀ u ∈ t.kids, right_G u) {w : World} {m : Mem} {vs_t : List Value} {left : Nat} (hA : Agree w m) (h_t : VR m t vs_t) (hl : left ≤ 1000) : FnV Tryd.prog 28 #[.agg vs_t.toArray, .int .i64 (left : Int)] w m (fun _ _ v => v = .bool (rightV left t)) := by
  obtain ⟨o_t, c_t, rfl, hk_t, hi_t, hj_t⟩ := h_t.open_
  have hbg_t := hk_t.big; have hcp_t := hk_t.cap
  refine fn_enter (vs := [_, _]) Tryd.func28 rfl rfl rfl fun a0 hfr0 => ?_
  have hst0 := st_enter hA (loc_nil [] _ w m)
  have hM : MLe m m := MLe.refl m
  refine seq_any fun K1 hK1 => ?_
  refine region_plain (fun h => by cases h) hst0 hfr0 (by kernel_rfl) (by kernel_rfl) (.cons rfl (ob_box rfl rfl) <|
      .cons rfl (ob_box rfl rfl) <|
      .cons rfl (ob_assign rfl) <|
      .nil) ?_
  intro a1 w1 m1 hst1 hle1 hk1
  have hfr1 := hk1.fr (T' := [(0, _), (1, _), (4, _)]) (.old rfl rfl <| .old rfl rfl <| .new rfl <| .nil)
  obtain ⟨g2, e2, hc2⟩ := hk1.ex 2 rfl
  replace hfr1 := hfr1.cons e2
  obtain ⟨g3, e3, hc3⟩ := hk1.ex 3 rfl
  replace hfr1 := hfr1.cons e3
  replace h_t := h_t.mono hle1
  replace hk_t := hk_t.mono hle1
  replace hM := hM.trans hle1
  clear hst0 hfr0 hk1
  refine hK1 _ _ ?_; try clear hK1 K1
  refine seq_any fun K4 hK4 => ?_
  refine seq_any fun K5 hK5 => ?_
  refine region_plain (fun h => by cases h) hst1 hfr1 (by kernel_rfl) (by kernel_rfl) (.cons rfl (ob_load1' rfl hc3 Tryd.isAgg3 rfl) <|
      .cons rfl (ob_eql rfl rfl) <|
      .cons rfl (ob_move rfl) <|
      .cons rfl (ob_fieldAddr rfl Tryd.underlying24 rfl Tryd.sizeOf3 rfl) <|
      .cons rfl (ob_load1 rfl hc2 Tryd.isAgg3 rfl) <|
      .cons rfl (ob_neq rfl rfl) <|
      .cons rfl (ob_move rfl) <|
      .cons rfl (ob_fieldAddr rfl Tryd.underlying24 rfl Tryd.sizeOf9 rfl) <|
      .cons rfl (ob_load1 rfl hc2 Tryd.isAgg9 rfl) <|
      .cons rfl (ob_sneq rfl rfl) <|
      .cons rfl (ob_move rfl) <|
      .cons rfl (ob_fieldAddr rfl Tryd.underlying24 rfl Tryd.sizeOf22 rfl) <|
      .cons rfl (ob_load1 rfl hc2 Tryd.isAgg22 rfl) <|
      .cons rfl (ob_len rfl Tryd.underlying22) <|
      .cons rfl (ob_gtr rfl rfl) <|
      .cons rfl (ob_or rfl rfl rfl) <|
      .cons rfl (ob_and rfl rfl rfl) <|
      .cons rfl (ob_or rfl rfl rfl) <|
      .nil) ?_
  intro a2 w2 m2 hst2 hle2 hk2
  have hfr2 := hk2.fr (T' := [(0, _), (1, _), (4, _), (2, _), (3, _), (22, _)]) (.old rfl rfl <| .old rfl rfl <| .old rfl rfl <| .old rfl rfl <| .old rfl rfl <| .new rfl <| .nil)
  replace h_t := h_t.mono hle2
  replace hk_t := hk_t.mono hle2
  replace hc2 := hc2.mono hle2
  replace hc3 := hc3.mono hle2
  replace hM := hM.trans hle2
  clear hst1 hfr1 hk2
  refine hK5 _ _ ?_; try clear hK5 K5
  refine cond_any hfr2 rfl rfl (fun hb22 => ?_) (fun hb22 => ?_)
  · try simp only [Bool.not_eq_true', Bool.not_eq_false', decide_eq_true_eq, decide_eq_false_iff_not, Bool.and_eq_true, Bool.or_eq_true, Bool.and_eq_false_iff, Bool.or_eq_false_iff, Bool.not_not, u8_eq] at hb22
    refine seq_any fun K6 hK6 => ?_
    refine region_plain (fun h => by cases h) hst2 hfr2 (by kernel_rfl) (by kernel_rfl) (.cons rfl (ob_assign rfl) <|
        .nil) ?_
    intro a3 w3 m3 hst3 hle3 hk3
    have hfr3 := hk3.fr (T' := [(0, _), (1, _), (2, _), (3, _), (4, _)]) (.old rfl rfl <| .old rfl rfl <| .old rfl rfl <| .old rfl rfl <| .new rfl <| .nil)
    replace h_t := h_t.mono hle3
    replace hk_t := hk_t.mono hle3
    replace hc2 := hc2.mono hle3
    replace hc3 := hc3.mono hle3
    replace hM := hM.trans hle3
    clear hst2 hfr2 hk3
    refine hK6 _ _ ?_; try clear hK6 K6
    refine wp_ret ?_
    repeat (with_reducible first | refine then_ret ?_ | refine block_ret ?_)
    exact fn_ret hst3 hfr3 rfl (.tmp rfl <| .nil) (by show Value.bool _ = Value.bool _; congr 1; rw [rightV_eq]; unfold rightB; simp_all; try omega)
  · try simp only [Bool.not_eq_true', Bool.not_eq_false', decide_eq_true_eq, decide_eq_false_iff_not, Bool.and_eq_true, Bool.or_eq_true, Bool.and_eq_false_iff, Bool.or_eq_false_iff, Bool.not_not, u8_eq] at hb22
    refine wp_skip ?_
    refine hK4 _ _ ?_; try clear hK4 K4
    refine seq_any fun K8 hK8 => ?_
    refine seq_any fun K9 hK9 => ?_
    refine region_plain (fun h => by cases h) hst2 hfr2 (by kernel_rfl) (by kernel_rfl) (.cons rfl (ob_fieldAddr rfl Tryd.underlying24 rfl Tryd.sizeOf3 rfl) <|
        .cons rfl (ob_load1 rfl hc2 Tryd.isAgg3 rfl) <|
        .nil) ?_
    intro a3 w3 m3 hst3 hle3 hk3
    have hfr3 := hk3.fr (T' := [(0, _), (1, _), (4, _), (2, _), (3, _), (24, _)]) (.old rfl rfl <| .old rfl rfl <| .old rfl rfl <| .old rfl rfl <| .old rfl rfl <| .new rfl <| .nil)
    replace h_t := h_t.mono hle3
    replace hk_t := hk_t.mono hle3
    replace hc2 := hc2.mono hle3
    replace hc3 := hc3.mono hle3
    replace hM := hM.trans hle3
    clear hst2 hfr2 hk3
    refine hK9 _ _ ?_; try clear hK9 K9
    refine wp_block ?_
    refine seq_any fun K10 hK10 => ?_
    refine region_plain (fun h => by cases h) hst3 hfr3 (by kernel_rfl) (by kernel_rfl) (.cons rfl (ob_eql rfl rfl) <|
        .cons rfl (ob_assign rfl) <|
        .nil) ?_
    intro a4 w4 m4 hst4 hle4 hk4
    have hfr4 := hk4.fr (T' := [(0, _), (1, _), (4, _), (2, _), (3, _), (24, _), (25, _)]) (.old rfl rfl <| .old rfl rfl <| .old rfl rfl <| .old rfl rfl <| .old rfl rfl <| .old rfl rfl <| .new rfl <| .nil)
    replace h_t := h_t.mono hle4
    replace hk_t := hk_t.mono hle4
    replace hc2 := hc2.mono hle4
    replace hc3 := hc3.mono hle4
    replace hM := hM.trans hle4
    clear hst3 hfr3 hk4
    refine hK10 _ _ ?_; try clear hK10 K10
    refine cond_any hfr4 rfl rfl (fun hb25 => ?_) (fun hb25 => ?_)
    · try simp only [Bool.not_eq_true', Bool.not_eq_false', decide_eq_true_eq, decide_eq_false_iff_not, Bool.and_eq_true, Bool.or_eq_true, Bool.and_eq_false_iff, Bool.or_eq_false_iff, Bool.not_not, u8_eq] at hb25
      refine seq_any fun K11 hK11 => ?_
      refine region_plain (fun h => by cases h) hst4 hfr4 (by kernel_rfl) (by kernel_rfl) (.cons rfl (ob_assign rfl) <|
          .nil) ?_
      intro a5 w5 m5 hst5 hle5 hk5
      have hfr5 := hk5.fr (T' := [(0, _), (1, _), (2, _), (3, _), (24, _), (4, _)]) (.old rfl rfl <| .old rfl rfl <| .old rfl rfl <| .old rfl rfl <| .old rfl rfl <| .new rfl <| .nil)
      replace h_t := h_t.mono hle5
      replace hk_t := hk_t.mono hle5
      replace hc2 := hc2.mono hle5
      replace hc3 := hc3.mono hle5
      replace hM := hM.trans hle5
      clear hst4 hfr4 hk5
      refine hK11 _ _ ?_; try clear hK11 K11
      refine wp_ret ?_
      repeat (with_reducible first | refine then_ret ?_ | refine block_ret ?_)
      exact fn_ret hst5 hfr5 rfl (.tmp rfl <| .nil) (by show Value.bool _ = Value.bool _; congr 1; rw [rightV_eq]; unfold rightB; simp_all; try omega)
    · try simp only [Bool.not_eq_true', Bool.not_eq_false', decide_eq_true_eq, decide_eq_false_iff_not, Bool.and_eq_true, Bool.or_eq_true, Bool.and_eq_false_iff, Bool.or_eq_false_iff, Bool.not_not, u8_eq] at hb25
      refine seq_any fun K13 hK13 => ?_
      refine region_plain (fun h => by cases h) hst4 hfr4 (by kernel_rfl) (by kernel_rfl) (.cons rfl (ob_eql rfl rfl) <|
          .cons rfl (ob_assign rfl) <|
          .nil) ?_
      intro a5 w5 m5 hst5 hle5 hk5
      have hfr5 := hk5.fr (T' := [(0, _), (1, _), (4, _), (2, _), (3, _), (24, _), (27, _)]) (.old rfl rfl <| .old rfl rfl <| .old rfl rfl <| .old rfl rfl <| .old rfl rfl <| .old rfl rfl <| .new rfl <| .nil)
      replace h_t := h_t.mono hle5
      replace hk_t := hk_t.mono hle5
      replace hc2 := hc2.mono hle5
      replace hc3 := hc3.mono hle5
      replace hM := hM.trans hle5
      clear hst4 hfr4 hk5
      refine hK13 _ _ ?_; try clear hK13 K13
      refine cond_any hfr5 rfl rfl (fun hb27 => ?_) (fun hb27 => ?_)
      · try simp only [Bool.not_eq_true', Bool.not_eq_false', decide_eq_true_eq, decide_eq_false_iff_not, Bool.and_eq_true, Bool.or_eq_true, Bool.and_eq_false_iff, Bool.or_eq_false_iff, Bool.not_not, u8_eq] at hb27
        refine seq_any fun K14 hK14 => ?_
        refine region_plain (fun h => by cases h) hst5 hfr5 (by kernel_rfl) (by kernel_rfl) (.cons rfl (ob_fieldAddr rfl Tryd.underlying24 rfl Tryd.sizeOf3 rfl) <|
            .cons rfl (ob_load1 rfl hc2 Tryd.isAgg3 rfl) <|
            .cons rfl (ob_eql rfl rfl) <|
            .cons rfl (ob_move rfl) <|
            .cons rfl (ob_fieldAddr rfl Tryd.underlying24 rfl Tryd.sizeOf3 rfl) <|
            .cons rfl (ob_load1 rfl hc2 Tryd.isAgg3 rfl) <|
            .cons rfl (ob_eql rfl rfl) <|
            .cons rfl (ob_or rfl rfl rfl) <|
            .cons rfl (ob_assign rfl) <|
            .nil) ?_
        intro a6 w6 m6 hst6 hle6 hk6
        have hfr6 := hk6.fr (T' := [(0, _), (1, _), (2, _), (3, _), (24, _), (4, _)]) (.old rfl rfl <| .old rfl rfl <| .old rfl rfl <| .old rfl rfl <| .old rfl rfl <| .new rfl <| .nil)
        replace h_t := h_t.mono hle6
        replace hk_t := hk_t.mono hle6
        replace hc2 := hc2.mono hle6
        replace hc3 := hc3.mono hle6
        replace hM := hM.trans hle6
        clear hst5 hfr5 hk6
        refine hK14 _ _ ?_; try clear hK14 K14
        refine wp_ret ?_
        repeat (with_reducible first | refine then_ret ?_ | refine block_ret ?_)
        exact fn_ret hst6 hfr6 rfl (.tmp rfl <| .nil) (by show Value.bool _ = Value.bool _; congr 1; rw [rightV_eq]; unfold rightB; simp_all; try omega)
      · try simp only [Bool.not_eq_true', Bool.not_eq_false', decide_eq_true_eq, decide_eq_false_iff_not, Bool.and_eq_true, Bool.or_eq_true, Bool.and_eq_false_iff, Bool.or_eq_false_iff, Bool.not_not, u8_eq] at hb27
        refine seq_any fun K16 hK16 => ?_
        refine seq_any fun K17 hK17 => ?_
        refine region_plain (fun h => by cases h) hst5 hfr5 (by kernel_rfl) (by kernel_rfl) (.cons rfl (ob_eql rfl rfl) <|
            .cons rfl (ob_assign rfl) <|
            .nil) ?_
        intro a6 w6 m6 hst6 hle6 hk6
        have hfr6 := hk6.fr (T' := [(0, _), (1, _), (4, _), (2, _), (3, _), (24, _), (37, _)]) (.old rfl rfl <| .old rfl rfl <| .old rfl rfl <| .old rfl rfl <| .old rfl rfl <| .old rfl rfl <| .new rfl <| .nil)
        replace h_t := h_t.mono hle6
        replace hk_t := hk_t.mono hle6
        replace hc2 := hc2.mono hle6
        replace hc3 := hc3.mono hle6
        replace hM := hM.trans hle6
        clear hst5 hfr5 hk6
        refine hK17 _ _ ?_; try clear hK17 K17
        refine cond_any hfr6 rfl rfl (fun hb37 => ?_) (fun hb37 => ?_)
        · try simp only [Bool.not_eq_true', Bool.not_eq_false', decide_eq_true_eq, decide_eq_false_iff_not, Bool.and_eq_true, Bool.or_eq_true, Bool.and_eq_false_iff, Bool.or_eq_false_iff, Bool.not_not, u8_eq] at hb37
          refine wp_skip ?_
          refine hK16 _ _ ?_; try clear hK16 K16
          refine cond_any hfr6 rfl rfl (fun hb37 => ?_) (fun hb37 => ?_)
          · try simp only [Bool.not_eq_true', Bool.not_eq_false', decide_eq_true_eq, decide_eq_false_iff_not, Bool.and_eq_true, Bool.or_eq_true, Bool.and_eq_false_iff, Bool.or_eq_false_iff, Bool.not_not, u8_eq] at hb37
            refine seq_any fun K18 hK18 => ?_
            refine region_plain (fun h => by cases h) hst6 hfr6 (by kernel_rfl) (by kernel_rfl) (.cons rfl (ob_fieldAddr rfl Tryd.underlying24 rfl Tryd.sizeOf3 rfl) <|
                .cons rfl (ob_load1 rfl hc2 Tryd.isAgg3 rfl) <|
                .cons rfl (ob_eql rfl rfl) <|
                .cons rfl (ob_assign rfl) <|
                .nil) ?_
            intro a7 w7 m7 hst7 hle7 hk7
            have hfr7 := hk7.fr (T' := [(0, _), (1, _), (2, _), (3, _), (24, _), (37, _), (4, _)]) (.old rfl rfl <| .old rfl rfl <| .old rfl rfl <| .old rfl rfl <| .old rfl rfl <| .old rfl rfl <| .new rfl <| .nil)
            replace h_t := h_t.mono hle7
            replace hk_t := hk_t.mono hle7
            replace hc2 := hc2.mono hle7
            replace hc3 := hc3.mono hle7
            replace hM := hM.trans hle7
            clear hst6 hfr6 hk7
            refine hK18 _ _ ?_; try clear hK18 K18
            refine wp_ret ?_
            repeat (with_reducible first | refine then_ret ?_ | refine block_ret ?_)
            exact fn_ret hst7 hfr7 rfl (.tmp rfl <| .nil) (by show Value.bool _ = Value.bool _; congr 1; rw [rightV_eq]; unfold rightB; simp_all; try omega)
          · try simp only [Bool.not_eq_true', Bool.not_eq_false', decide_eq_true_eq, decide_eq_false_iff_not, Bool.and_eq_true, Bool.or_eq_true, Bool.and_eq_false_iff, Bool.or_eq_false_iff, Bool.not_not, u8_eq] at hb37
            refine seq_any fun K20 hK20 => ?_
            refine region_plain (fun h => by cases h) hst6 hfr6 (by kernel_rfl) (by kernel_rfl) (.cons rfl (ob_eql rfl rfl) <|
                .cons rfl (ob_assign rfl) <|
                .nil) ?_
            intro a7 w7 m7 hst7 hle7 hk7
            have hfr7 := hk7.fr (T' := [(0, _), (1, _), (4, _), (2, _), (3, _), (24, _), (37, _), (43, _)]) (.old rfl rfl <| .old rfl rfl <| .old rfl rfl <| .old rfl rfl <| .old rfl rfl <| .old rfl rfl <| .old rfl rfl <| .new rfl <| .nil)
            replace h_t := h_t.mono hle7
            replace hk_t := hk_t.mono hle7
            replace hc2 := hc2.mono hle7
            replace hc3 := hc3.mono hle7
            replace hM := hM.trans hle7
            clear hst6 hfr6 hk7
            refine hK20 _ _ ?_; try clear hK20 K20
            refine cond_any hfr7 rfl rfl (fun hb43 => ?_) (fun hb43 => ?_)
            · try simp only [Bool.not_eq_true', Bool.not_eq_false', decide_eq_true_eq, decide_eq_false_iff_not, Bool.and_eq_true, Bool.or_eq_true, Bool.and_eq_false_iff, Bool.or_eq_false_iff, Bool.not_not, u8_eq] at hb43
              refine seq_any fun K21 hK21 => ?_
              refine region_plain (fun h => by cases h) hst7 hfr7 (by kernel_rfl) (by kernel_rfl) (.cons rfl (ob_fieldAddr rfl Tryd.underlying24 rfl Tryd.sizeOf3 rfl) <|
                  .cons rfl (ob_load1 rfl hc2 Tryd.isAgg3 rfl) <|
                  .cons rfl (ob_geq rfl rfl) <|
                  .cons rfl (ob_assign rfl) <|
                  .nil) ?_
              intro a8 w8 m8 hst8 hle8 hk8
              have hfr8 := hk8.fr (T' := [(0, _), (1, _), (2, _), (3, _), (24, _), (37, _), (4, _)]) (.old rfl rfl <| .old rfl rfl <| .old rfl rfl <| .old rfl rfl <| .old rfl rfl <| .old rfl rfl <| .new rfl <| .nil)
              replace h_t := h_t.mono hle8
              replace hk_t := hk_t.mono hle8
              replace hc2 := hc2.mono hle8
              replace hc3 := hc3.mono hle8
              replace hM := hM.trans hle8
              clear hst7 hfr7 hk8
              refine hK21 _ _ ?_; try clear hK21 K21
              refine wp_ret ?_
              repeat (with_reducible first | refine then_ret ?_ | refine block_ret ?_)
              exact fn_ret hst8 hfr8 rfl (.tmp rfl <| .nil) (by show Value.bool _ = Value.bool _; congr 1; rw [rightV_eq]; unfold rightB; simp_all; try omega)
            · try simp only [Bool.not_eq_true', Bool.not_eq_false', decide_eq_true_eq, decide_eq_false_iff_not, Bool.and_eq_true, Bool.or_eq_true, Bool.and_eq_false_iff, Bool.or_eq_false_iff, Bool.not_not, u8_eq] at hb43
              refine seq_any fun K23 hK23 => ?_
              refine region_plain (fun h => by cases h) hst7 hfr7 (by kernel_rfl) (by kernel_rfl) (.cons rfl (ob_eql rfl rfl) <|
                  .cons rfl (ob_assign rfl) <|
                  .nil) ?_
              intro a8 w8 m8 hst8 hle8 hk8
              have hfr8 := hk8.fr (T' := [(0, _), (1, _), (4, _), (2, _), (3, _), (24, _), (37, _), (48, _)]) (.old rfl rfl <| .old rfl rfl <| .old rfl rfl <| .old rfl rfl <| .old rfl rfl <| .old rfl rfl <| .old rfl rfl <| .new rfl <| .nil)
              replace h_t := h_t.mono hle8
              replace hk_t := hk_t.mono hle8
              replace hc2 := hc2.mono hle8
              replace hc3 := hc3.mono hle8
              replace hM := hM.trans hle8
              clear hst7 hfr7 hk8
              refine hK23 _ _ ?_; try clear hK23 K23
              refine cond_any hfr8 rfl rfl (fun hb48 => ?_) (fun hb48 => ?_)
              · try simp only [Bool.not_eq_true', Bool.not_eq_false', decide_eq_true_eq, decide_eq_false_iff_not, Bool.and_eq_true, Bool.or_eq_true, Bool.and_eq_false_iff, Bool.or_eq_false_iff, Bool.not_not, u8_eq] at hb48
                have hl0 : left ≠ 0 := by intro e; subst e; simp at hb22
                have hla := rightL_any (left - 1) t.kids
                refine seq_any fun K24 hK24 => ?_
                refine region_plain (fun h => by cases h) hst8 hfr8 (by kernel_rfl) (by kernel_rfl) (.cons rfl (ob_fieldAddr rfl Tryd.underlying24 rfl Tryd.sizeOf9 rfl) <|
                    .cons rfl (ob_load1 rfl hc2 Tryd.isAgg9 rfl) <|
                    .cons rfl (ob_sneq rfl rfl) <|
                    .cons rfl (ob_move rfl) <|
                    .cons rfl (ob_fieldAddr rfl Tryd.underlying24 rfl Tryd.sizeOf3 rfl) <|
                    .cons rfl (ob_load1 rfl hc2 Tryd.isAgg3 rfl) <|
                    .cons rfl (ob_eql rfl rfl) <|
                    .cons rfl (ob_and rfl rfl rfl) <|
                    .cons rfl (ob_move rfl) <|
                    .cons rfl (ob_fieldAddr rfl Tryd.underlying24 rfl Tryd.sizeOf22 rfl) <|
                    .cons rfl (ob_load1 rfl hc2 Tryd.isAgg22 rfl) <|
                    .cons rfl (ob_makeFunc (.cons rfl <| .nil)) <|
                    .cons rfl (ob_callE rfl (.cons rfl <| .cons rfl <| .nil) Tryd.call46 (fun w m hK => by have hle_ := KC.le hK; have hA := KC.agree hK; have hM := hM.trans hle_; have hk_t := hk_t.mono hle_; have hc3 := hc3.mono hle_; exact containsf_c (φ := fun u => !rightV (left - 1) u) (cap := [_]) hA hk_t Tryd.call47 (fun w m2 u vs hm ha hv hu => right1_c ha hv (hc3.mono hm) (by omega) hl (ih u hu)))) <|
                    .cons rfl (ob_not rfl) <|
                    .cons rfl (ob_and rfl rfl rfl) <|
                    .cons rfl (ob_assign rfl) <|
                    .nil) ?_
                intro a9 w9 m9 hst9 hle9 hk9
                have hfr9 := hk9.fr (T' := [(0, _), (1, _), (2, _), (3, _), (24, _), (37, _), (4, _)]) (.old rfl rfl <| .old rfl rfl <| .old rfl rfl <| .old rfl rfl <| .old rfl rfl <| .old rfl rfl <| .new rfl <| .nil)
                replace h_t := h_t.mono hle9
                replace hk_t := hk_t.mono hle9
                replace hc2 := hc2.mono hle9
                replace hc3 := hc3.mono hle9
                replace hM := hM.trans hle9
                clear hst8 hfr8 hk9
                refine hK24 _ _ ?_; try clear hK24 K24
                refine wp_ret ?_
                repeat (with_reducible first | refine then_ret ?_ | refine block_ret ?_)
                exact fn_ret hst9 hfr9 rfl (.tmp rfl <| .nil) (by show Value.bool _ = Value.bool _; congr 1; rw [rightV_eq]; unfold rightB; simp_all; try omega)
              · try simp only [Bool.not_eq_true', Bool.not_eq_false', decide_eq_true_eq, decide_eq_false_iff_not, Bool.and_eq_true, Bool.or_eq_true, Bool.and_eq_false_iff, Bool.or_eq_false_iff, Bool.not_not, u8_eq] at hb48
                refine wp_skip ?_
                refine hK8 _ _ ?_; try clear hK8 K8
                refine seq_any fun K26 hK26 => ?_
                refine region_plain (fun h => by cases h) hst8 hfr8 (by kernel_rfl) (by kernel_rfl) (.cons rfl (ob_assign rfl) <|
                    .nil) ?_
                intro a9 w9 m9 hst9 hle9 hk9
                have hfr9 := hk9.fr (T' := [(0, _), (1, _), (2, _), (3, _), (24, _), (37, _), (4, _)]) (.old rfl rfl <| .old rfl rfl <| .old rfl rfl <| .old rfl rfl <| .old rfl rfl <| .old rfl rfl <| .new rfl <| .nil)
                replace h_t := h_t.mono hle9
                replace hk_t := hk_t.mono hle9
                replace hc2 := hc2.mono hle9
                replace hc3 := hc3.mono hle9
                replace hM := hM.trans hle9
                clear hst8 hfr8 hk9
                refine hK26 _ _ ?_; try clear hK26 K26
                refine wp_ret ?_
                repeat (with_reducible first | refine then_ret ?_ | refine block_ret ?_)
                exact fn_ret hst9 hfr9 rfl (.tmp rfl <| .nil) (by show Value.bool _ = Value.bool _; congr 1; rw [rightV_eq]; unfold rightB; simp_all; try omega)
        · try simp only [Bool.not_eq_true', Bool.not_eq_false', decide_eq_true_eq, decide_eq_false_iff_not, Bool.and_eq_true, Bool.or_eq_true, Bool.and_eq_false_iff, Bool.or_eq_false_iff, Bool.not_not, u8_eq] at hb37
          refine region_plain (fun h => by cases h) hst6 hfr6 (by kernel_rfl) (by kernel_rfl) (.cons rfl (ob_eql rfl rfl) <|
              .cons rfl (ob_assign rfl) <|
              .nil) ?_
          intro a7 w7 m7 hst7 hle7 hk7
          have hfr7 := hk7.fr (T' := [(0, _), (1, _), (4, _), (2, _), (3, _), (24, _), (37, _)]) (.old rfl rfl <| .old rfl rfl <| .old rfl rfl <| .old rfl rfl <| .old rfl rfl <| .old rfl rfl <| .new rfl <| .nil)
          replace h_t := h_t.mono hle7
          replace hk_t := hk_t.mono hle7
          replace hc2 := hc2.mono hle7
          replace hc3 := hc3.mono hle7
          replace hM := hM.trans hle7
          clear hst6 hfr6 hk7
          refine hK16 _ _ ?_; try clear hK16 K16
          refine cond_any hfr7 rfl rfl (fun hb37 => ?_) (fun hb37 => ?_)
          · try simp only [Bool.not_eq_true', Bool.not_eq_false', decide_eq_true_eq, decide_eq_false_iff_not, Bool.and_eq_true, Bool.or_eq_true, Bool.and_eq_false_iff, Bool.or_eq_false_iff, Bool.not_not, u8_eq] at hb37
            refine seq_any fun K28 hK28 => ?_
            refine region_plain (fun h => by cases h) hst7 hfr7 (by kernel_rfl) (by kernel_rfl) (.cons rfl (ob_fieldAddr rfl Tryd.underlying24 rfl Tryd.sizeOf3 rfl) <|
                .cons rfl (ob_load1 rfl hc2 Tryd.isAgg3 rfl) <|
                .cons rfl (ob_eql rfl rfl) <|
                .cons rfl (ob_assign rfl) <|
                .nil) ?_
            intro a8 w8 m8 hst8 hle8 hk8
            have hfr8 := hk8.fr (T' := [(0, _), (1, _), (2, _), (3, _), (24, _), (37, _), (4, _)]) (.old rfl rfl <| .old rfl rfl <| .old rfl rfl <| .old rfl rfl <| .old rfl rfl <| .old rfl rfl <| .new rfl <| .nil)
            replace h_t := h_t.mono hle8
            replace hk_t := hk_t.mono hle8
            replace hc2 := hc2.mono hle8
            replace hc3 := hc3.mono hle8
            replace hM := hM.trans hle8
            clear hst7 hfr7 hk8
            refine hK28 _ _ ?_; try clear hK28 K28
            refine wp_ret ?_
            repeat (with_reducible first | refine then_ret ?_ | refine block_ret ?_)
            exact fn_ret hst8 hfr8 rfl (.tmp rfl <| .nil) (by show Value.bool _ = Value.bool _; congr 1; rw [rightV_eq]; unfold rightB; simp_all; try omega)
          · try simp only [Bool.not_eq_true', Bool.not_eq_false', decide_eq_true_eq, decide_eq_false_iff_not, Bool.and_eq_true, Bool.or_eq_true, Bool.and_eq_false_iff, Bool.or_eq_false_iff, Bool.not_not, u8_eq] at hb37
            refine seq_any fun K30 hK30 => ?_
            refine region_plain (fun h => by cases h) hst7 hfr7 (by kernel_rfl) (by kernel_rfl) (.cons rfl (ob_eql rfl rfl) <|
                .cons rfl (ob_assign rfl) <|
                .nil) ?_
            intro a8 w8 m8 hst8 hle8 hk8
            have hfr8 := hk8.fr (T' := [(0, _), (1, _), (4, _), (2, _), (3, _), (24, _), (37, _), (43, _)]) (.old rfl rfl <| .old rfl rfl <| .old rfl rfl <| .old rfl rfl <| .old rfl rfl <| .old rfl rfl <| .old rfl rfl <| .new rfl <| .nil)
            replace h_t := h_t.mono hle8
            replace hk_t := hk_t.mono hle8
            replace hc2 := hc2.mono hle8
            replace hc3 := hc3.mono hle8
            replace hM := hM.trans hle8
            clear hst7 hfr7 hk8
            refine hK30 _ _ ?_; try clear hK30 K30
            refine cond_any hfr8 rfl rfl (fun hb43 => ?_) (fun hb43 => ?_)
            · try simp only [Bool.not_eq_true', Bool.not_eq_false', decide_eq_true_eq, decide_eq_false_iff_not, Bool.and_eq_true, Bool.or_eq_true, Bool.and_eq_false_iff, Bool.or_eq_false_iff, Bool.not_not, u8_eq] at hb43
              refine seq_any fun K31 hK31 => ?_
              refine region_plain (fun h => by cases h) hst8 hfr8 (by kernel_rfl) (by kernel_rfl) (.cons rfl (ob_fieldAddr rfl Tryd.underlying24 rfl Tryd.sizeOf3 rfl) <|
                  .cons rfl (ob_load1 rfl hc2 Tryd.isAgg3 rfl) <|
                  .cons rfl (ob_geq rfl rfl) <|
                  .cons rfl (ob_assign rfl) <|
                  .nil) ?_
              intro a9 w9 m9 hst9 hle9 hk9
              have hfr9 := hk9.fr (T' := [(0, _), (1, _), (2, _), (3, _), (24, _), (37, _), (4, _)]) (.old rfl rfl <| .old rfl rfl <| .old rfl rfl <| .old rfl rfl <| .old rfl rfl <| .old rfl rfl <| .new rfl <| .nil)
              replace h_t := h_t.mono hle9
              replace hk_t := hk_t.mono hle9
              replace hc2 := hc2.mono hle9
              replace hc3 := hc3.mono hle9
              replace hM := hM.trans hle9
              clear hst8 hfr8 hk9
              refine hK31 _ _ ?_; try clear hK31 K31
              refine wp_ret ?_
              repeat (with_reducible first | refine then_ret ?_ | refine block_ret ?_)
              exact fn_ret hst9 hfr9 rfl (.tmp rfl <| .nil) (by show Value.bool _ = Value.bool _; congr 1; rw [rightV_eq]; unfold rightB; simp_all; try omega)
            · try simp only [Bool.not_eq_true', Bool.not_eq_false', decide_eq_true_eq, decide_eq_false_iff_not, Bool.and_eq_true, Bool.or_eq_true, Bool.and_eq_false_iff, Bool.or_eq_false_iff, Bool.not_not, u8_eq] at hb43
              refine seq_any fun K33 hK33 => ?_
              refine region_plain (fun h => by cases h) hst8 hfr8 (by kernel_rfl) (by kernel_rfl) (.cons rfl (ob_eql rfl rfl) <|
                  .cons rfl (ob_assign rfl) <|
                  .nil) ?_
              intro a9 w9 m9 hst9 hle9 hk9
              have hfr9 := hk9.fr (T' := [(0, _), (1, _), (4, _), (2, _), (3, _), (24, _), (37, _), (48, _)]) (.old rfl rfl <| .old rfl rfl <| .old rfl rfl <| .old rfl rfl <| .old rfl rfl <| .old rfl rfl <| .old rfl rfl <| .new rfl <| .nil)
              replace h_t := h_t.mono hle9
              replace hk_t := hk_t.mono hle9
              replace hc2 := hc2.mono hle9
              replace hc3 := hc3.mono hle9
              replace hM := hM.trans hle9
              clear hst8 hfr8 hk9
              refine hK33 _ _ ?_; try clear hK33 K33
              refine cond_any hfr9 rfl rfl (fun hb48 => ?_) (fun hb48 => ?_)
              · try simp only [Bool.not_eq_true', Bool.not_eq_false', decide_eq_true_eq, decide_eq_false_iff_not, Bool.and_eq_true, Bool.or_eq_true, Bool.and_eq_false_iff, Bool.or_eq_false_iff, Bool.not_not, u8_eq] at hb48
                have hl0 : left ≠ 0 := by intro e; subst e; simp at hb22
                have hla := rightL_any (left - 1) t.kids
                refine seq_any fun K34 hK34 => ?_
                refine region_plain (fun h => by cases h) hst9 hfr9 (by kernel_rfl) (by kernel_rfl) (.cons rfl (ob_fieldAddr rfl Tryd.underlying24 rfl Tryd.sizeOf9 rfl) <|
                    .cons rfl (ob_load1 rfl hc2 Tryd.isAgg9 rfl) <|
                    .cons rfl (ob_sneq rfl rfl) <|
                    .cons rfl (ob_move rfl) <|
                    .cons rfl (ob_fieldAddr rfl Tryd.underlying24 rfl Tryd.sizeOf3 rfl) <|
                    .cons rfl (ob_load1 rfl hc2 Tryd.isAgg3 rfl) <|
                    .cons rfl (ob_eql rfl rfl) <|
                    .cons rfl (ob_and rfl rfl rfl) <|
                    .cons rfl (ob_move rfl) <|
                    .cons rfl (ob_fieldAddr rfl Tryd.underlying24 rfl Tryd.sizeOf22 rfl) <|
                    .cons rfl (ob_load1 rfl hc2 Tryd.isAgg22 rfl) <|
                    .cons rfl (ob_makeFunc (.cons rfl <| .nil)) <|
                    .cons rfl (ob_callE rfl (.cons rfl <| .cons rfl <| .nil) Tryd.call46 (fun w m hK => by have hle_ := KC.le hK; have hA := KC.agree hK; have hM := hM.trans hle_; have hk_t := hk_t.mono hle_; have hc3 := hc3.mono hle_; exact containsf_c (φ := fun u => !rightV (left - 1) u) (cap := [_]) hA hk_t Tryd.call47 (fun w m2 u vs hm ha hv hu => right1_c ha hv (hc3.mono hm) (by omega) hl (ih u hu)))) <|
                    .cons rfl (ob_not rfl) <|
                    .cons rfl (ob_and rfl rfl rfl) <|
                    .cons rfl (ob_assign rfl) <|
                    .nil) ?_
                intro a10 w10 m10 hst10 hle10 hk10
                have hfr10 := hk10.fr (T' := [(0, _), (1, _), (2, _), (3, _), (24, _), (37, _), (4, _)]) (.old rfl rfl <| .old rfl rfl <| .old rfl rfl <| .old rfl rfl <| .old rfl rfl <| .old rfl rfl <| .new rfl <| .nil)
                replace h_t := h_t.mono hle10
                replace hk_t := hk_t.mono hle10
                replace hc2 := hc2.mono hle10
                replace hc3 := hc3.mono hle10
                replace hM := hM.trans hle10
                clear hst9 hfr9 hk10
                refine hK34 _ _ ?_; try clear hK34 K34
                refine wp_ret ?_
                repeat (with_reducible first | refine then_ret ?_ | refine block_ret ?_)
                exact fn_ret hst10 hfr10 rfl (.tmp rfl <| .nil) (by show Value.bool _ = Value.bool _; congr 1; rw [rightV_eq]; unfold rightB; simp_all; try omega)
              · try simp only [Bool.not_eq_true', Bool.not_eq_false', decide_eq_true_eq, decide_eq_false_iff_not, Bool.and_eq_true, Bool.or_eq_true, Bool.and_eq_false_iff, Bool.or_eq_false_iff, Bool.not_not, u8_eq] at hb48
                refine wp_skip ?_
                refine hK8 _ _ ?_; try clear hK8 K8
                refine seq_any fun K36 hK36 => ?_
                refine region_plain (fun h => by cases h) hst9 hfr9 (by kernel_rfl) (by kernel_rfl) (.cons rfl (ob_assign rfl) <|
                    .nil) ?_
                intro a10 w10 m10 hst10 hle10 hk10
                have hfr10 := hk10.fr (T' := [(0, _), (1, _), (2, _), (3, _), (24, _), (37, _), (4, _)]) (.old rfl rfl <| .old rfl rfl <| .old rfl rfl <| .old rfl rfl <| .old rfl rfl <| .old rfl rfl <| .new rfl <| .nil)
                replace h_t := h_t.mono hle10
                replace hk_t := hk_t.mono hle10
                replace hc2 := hc2.mono hle10
                replace hc3 := hc3.mono hle10
                replace hM := hM.trans hle10
                clear hst9 hfr9 hk10
                refine hK36 _ _ ?_; try clear hK36 K36
                refine wp_ret ?_
                repeat (with_reducible first | refine then_ret ?_ | refine block_ret ?_)
                exact fn_ret hst10 hfr10 rfl (.tmp rfl <| .nil) (by show Value.bool _ = Value.bool _; congr 1; rw [rightV_eq]; unfold rightB; simp_all; try omega)
theorem right_c (t : VT) : right_G t := VT.rec_ (p := right_G) (fun t ih => right_s ih) t

end Go.Proofs.YtineijefefjpeaaDoor
