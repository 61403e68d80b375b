/-
  'brocadelaw04': the walk of the law. Conditions: those of each theorem.
-/
import Derived.Test.YtembdjghbphcdaaDoorShown1
import Derived.Test.YtembdjghbphcdaaDoorRows4
import Derived.Test.YtembdjghbphcdaaDoorTyapp
namespace Go.Proofs.YtembdjghbphcdaaDoor
set_option linter.all false
set_option maxRecDepth 4000
open Go.RowKit
open Go.Lib (itoa decDigits)
set_option maxHeartbeats 400000 in
theorem samerowR_c {w : World} {m : Mem} {a : Rw} {vs_a : List Value} {b : Rw} {vs_b : List Value} (hA : Agree w m) (h_a : RwR m a vs_a) (h_b : RwR m b vs_b) : FnV Tryd.prog 30 #[.agg vs_a.toArray, .agg vs_b.toArray] w m (fun _ _ v => v = .bool (decide (a.var = b.var) && decide (a.labels = b.labels))) := by
  obtain ⟨o_a, c_a, rfl, hs_a, hr_a⟩ := h_a.open_
  have hbs_a := hs_a.big; have hcs_a := hs_a.cap
  obtain ⟨o_b, c_b, rfl, hs_b, hr_b⟩ := h_b.open_
  have hbs_b := hs_b.big; have hcs_b := hs_b.cap
  refine fn_enter (vs := [_, _]) Tryd.func30 rfl rfl rfl fun a0 hfr0 => ?_
  have hst0 := st_enter hA (loc_nil [] _ w m)
  have hM : MLe m m := MLe.refl m
  have hae := all2_eq a.labels b.labels
  refine seq_any fun K1 hK1 => ?_
  refine region_plain (fun h => by cases h) hst0 hfr0 (by kernel_rfl) (by kernel_rfl) (.cons rfl (ob_box rfl rfl) <|
      .cons rfl (ob_box rfl rfl) <|
      .cons rfl (ob_assign rfl) <|
      .nil) ?_
  intro a1 w1 m1 hst1 hle1 hk1
  have hfr1 := hk1.fr (T' := [(0, _), (1, _), (4, _)]) (.old rfl rfl <| .old rfl rfl <| .new rfl <| .nil)
  obtain ⟨g2, e2, hc2⟩ := hk1.ex 2 rfl
  replace hfr1 := hfr1.cons e2
  obtain ⟨g3, e3, hc3⟩ := hk1.ex 3 rfl
  replace hfr1 := hfr1.cons e3
  replace h_a := h_a.mono hle1
  replace hs_a := hs_a.mono hle1
  replace h_b := h_b.mono hle1
  replace hs_b := hs_b.mono hle1
  replace hM := hM.trans hle1
  clear hst0 hfr0 hk1
  refine hK1 _ _ ?_; try clear hK1 K1
  refine seq_any fun K4 hK4 => ?_
  refine seq_any fun K5 hK5 => ?_
  refine region_plain (fun h => by cases h) hst1 hfr1 (by kernel_rfl) (by kernel_rfl) (.cons rfl (ob_fieldAddr rfl Tryd.underlying25 rfl Tryd.sizeOf3 rfl) <|
      .cons rfl (ob_load1 rfl hc2 Tryd.isAgg3 rfl) <|
      .cons rfl (ob_fieldAddr rfl Tryd.underlying25 rfl Tryd.sizeOf3 rfl) <|
      .cons rfl (ob_load1 rfl hc3 Tryd.isAgg3 rfl) <|
      .cons rfl (ob_neq rfl rfl) <|
      .cons rfl (ob_move rfl) <|
      .cons rfl (ob_fieldAddr rfl Tryd.underlying25 rfl Tryd.sizeOf23 rfl) <|
      .cons rfl (ob_load1 rfl hc2 Tryd.isAgg23 rfl) <|
      .cons rfl (ob_len rfl Tryd.underlying23) <|
      .cons rfl (ob_fieldAddr rfl Tryd.underlying25 rfl Tryd.sizeOf23 rfl) <|
      .cons rfl (ob_load1 rfl hc3 Tryd.isAgg23 rfl) <|
      .cons rfl (ob_len rfl Tryd.underlying23) <|
      .cons rfl (ob_neq rfl rfl) <|
      .cons rfl (ob_or rfl rfl rfl) <|
      .nil) ?_
  intro a2 w2 m2 hst2 hle2 hk2
  have hfr2 := hk2.fr (T' := [(0, _), (1, _), (4, _), (2, _), (3, _), (19, _)]) (.old rfl rfl <| .old rfl rfl <| .old rfl rfl <| .old rfl rfl <| .old rfl rfl <| .new rfl <| .nil)
  replace h_a := h_a.mono hle2
  replace hs_a := hs_a.mono hle2
  replace h_b := h_b.mono hle2
  replace hs_b := hs_b.mono hle2
  replace hc2 := hc2.mono hle2
  replace hc3 := hc3.mono hle2
  replace hM := hM.trans hle2
  clear hst1 hfr1 hk2
  refine hK5 _ _ ?_; try clear hK5 K5
  refine cond_any hfr2 rfl rfl (fun hb19 => ?_) (fun hb19 => ?_)
  · try simp only [Bool.not_eq_true', Bool.not_eq_false', decide_eq_true_eq, decide_eq_false_iff_not, Bool.and_eq_true, Bool.or_eq_true, Bool.and_eq_false_iff, Bool.or_eq_false_iff, Bool.not_not, u8_eq] at hb19
    have hr : (decide (a.var = b.var) && decide (a.labels = b.labels)) = false := by rcases hb19 with h | h; (simp [h]); (have : a.labels ≠ b.labels := fun e => h (by rw [e]); simp [this])
    refine seq_any fun K6 hK6 => ?_
    refine region_plain (fun h => by cases h) hst2 hfr2 (by kernel_rfl) (by kernel_rfl) (.cons rfl (ob_assign rfl) <|
        .nil) ?_
    intro a3 w3 m3 hst3 hle3 hk3
    have hfr3 := hk3.fr (T' := [(0, _), (1, _), (2, _), (3, _), (4, _)]) (.old rfl rfl <| .old rfl rfl <| .old rfl rfl <| .old rfl rfl <| .new rfl <| .nil)
    replace h_a := h_a.mono hle3
    replace hs_a := hs_a.mono hle3
    replace h_b := h_b.mono hle3
    replace hs_b := hs_b.mono hle3
    replace hc2 := hc2.mono hle3
    replace hc3 := hc3.mono hle3
    replace hM := hM.trans hle3
    clear hst2 hfr2 hk3
    refine hK6 _ _ ?_; try clear hK6 K6
    refine wp_ret ?_
    repeat (with_reducible first | refine then_ret ?_ | refine block_ret ?_)
    exact fn_ret hst3 hfr3 rfl (.tmp rfl <| .nil) (by rw [hr]; rfl)
  · try simp only [Bool.not_eq_true', Bool.not_eq_false', decide_eq_true_eq, decide_eq_false_iff_not, Bool.and_eq_true, Bool.or_eq_true, Bool.and_eq_false_iff, Bool.or_eq_false_iff, Bool.not_not, u8_eq] at hb19
    have hln : a.labels.length = b.labels.length := by omega
    have hvv : a.var = b.var := by omega
    refine wp_skip ?_
    refine hK4 _ _ ?_; try clear hK4 K4
    refine seq_any fun K8 hK8 => ?_
    refine seq_any fun K9 hK9 => ?_
    refine region_plain (fun h => by cases h) hst2 hfr2 (by kernel_rfl) (by kernel_rfl) (.cons rfl (ob_assign rfl) <|
        .nil) ?_
    intro a3 w3 m3 hst3 hle3 hk3
    have hfr3 := hk3.fr (T' := [(0, _), (1, _), (4, _), (2, _), (3, _), (5, _)]) (.old rfl rfl <| .old rfl rfl <| .old rfl rfl <| .old rfl rfl <| .old rfl rfl <| .new rfl <| .nil)
    replace h_a := h_a.mono hle3
    replace hs_a := hs_a.mono hle3
    replace h_b := h_b.mono hle3
    replace hs_b := hs_b.mono hle3
    replace hc2 := hc2.mono hle3
    replace hc3 := hc3.mono hle3
    replace hM := hM.trans hle3
    clear hst2 hfr2 hk3
    refine hK9 _ _ ?_; try clear hK9 K9
    refine wp_block ?_
    refine loop_any (T := [(0, _), (1, _), (4, _), (2, _), (3, _)]) (fun (y : Nat) => ([(5, .int .i64 (y : Int))] : List (Nat × Value))) (fun _ => _) (fun (y : Nat) m => (y ≤ a.labels.length) ∧ (all2 (fun a b => decide (a = b)) a.labels b.labels = all2 (fun a b => decide (a = b)) (a.labels.drop y) (b.labels.drop y))) (fun y => a.labels.length - y) (0) ⟨hst3, MLe.refl _, hfr3.sub (.cons rfl <| .cons rfl <| .cons rfl <| .cons rfl <| .cons rfl <| .cons rfl <| .nil), ⟨Nat.zero_le _, rfl⟩⟩ fun y a4 w4 m4 hh4 => ?_
    have hst4 := hh4.st; have hle4 := hh4.le; have hfr4 := hh4.fr; have hrel := hh4.rel; clear hh4
    replace h_a := h_a.mono hle4
    replace hs_a := hs_a.mono hle4
    replace h_b := h_b.mono hle4
    replace hs_b := hs_b.mono hle4
    replace hc2 := hc2.mono hle4
    replace hc3 := hc3.mono hle4
    clear hst3 hfr3
    replace hM := hM.trans hle4
    obtain ⟨hyn, hrem⟩ := hrel
    have hlh4 := hle4
    refine seq_any fun K11 hK11 => ?_
    refine seq_any fun K12 hK12 => ?_
    refine region_plain (fun h => by cases h) hst4 hfr4 (by kernel_rfl) (by kernel_rfl) (.cons rfl (ob_move rfl) <|
        .cons rfl (ob_fieldAddr rfl Tryd.underlying25 rfl Tryd.sizeOf23 rfl) <|
        .cons rfl (ob_load1 rfl hc2 Tryd.isAgg23 rfl) <|
        .cons rfl (ob_len rfl Tryd.underlying23) <|
        .cons rfl (ob_lss rfl rfl) <|
        .nil) ?_
    intro a5 w5 m5 hst5 hle5 hk5
    have hfr5 := hk5.fr (T' := [(5, _), (0, _), (1, _), (4, _), (2, _), (3, _), (24, _)]) (.old rfl rfl <| .old rfl rfl <| .old rfl rfl <| .old rfl rfl <| .old rfl rfl <| .old rfl rfl <| .new rfl <| .nil)
    replace h_a := h_a.mono hle5
    replace hs_a := hs_a.mono hle5
    replace h_b := h_b.mono hle5
    replace hs_b := hs_b.mono hle5
    replace hc2 := hc2.mono hle5
    replace hc3 := hc3.mono hle5
    have hlh5 := hlh4.trans hle5
    replace hM := hM.trans hle5
    clear hst4 hfr4 hk5
    refine hK12 _ _ ?_; try clear hK12 K12
    refine cond_any hfr5 rfl rfl (fun hb24 => ?_) (fun hb24 => ?_)
    · try simp only [Bool.not_eq_true', Bool.not_eq_false', decide_eq_true_eq, decide_eq_false_iff_not, Bool.and_eq_true, Bool.or_eq_true, Bool.and_eq_false_iff, Bool.or_eq_false_iff, Bool.not_not, u8_eq] at hb24
      refine wp_skip ?_
      refine hK11 _ _ ?_; try clear hK11 K11
      refine seq_any fun K13 hK13 => ?_
      refine wp_block ?_
      refine seq_any fun K14 hK14 => ?_
      obtain ⟨p15, vs15, x15, ho15, hd15, hm_x15, ht15, hcv15, hl15, hv15⟩ := hs_a.nth (k := y) (by omega)
      cases ho15
      subst hv15
      try rw [hd15] at hrem
      try simp only [all2] at hrem
      obtain ⟨p16, vs16, x16, ho16, hd16, hm_x16, ht16, hcv16, hl16, hv16⟩ := hs_b.nth (k := y) (by omega)
      cases ho16
      subst hv16
      try rw [hd16] at hrem
      try simp only [all2] at hrem
      refine region_plain (fun _ => mixed) hst5 hfr5 (by kernel_rfl) (by kernel_rfl) (.cons rfl (ob_fieldAddr rfl Tryd.underlying25 rfl Tryd.sizeOf23 rfl) <|
          .cons rfl (ob_load1 rfl hc2 Tryd.isAgg23 rfl) <|
          .cons rfl (ob_move rfl) <|
          .cons rfl (ob_indexAddr (k := y) rfl rfl Tryd.underlying23 Tryd.sizeOf9 rfl (by omega)) <|
          .cons rfl (ob_load1' rfl hcv15 Tryd.isAgg9 rfl) <|
          .cons rfl (ob_fieldAddr rfl Tryd.underlying25 rfl Tryd.sizeOf23 rfl) <|
          .cons rfl (ob_load1 rfl hc3 Tryd.isAgg23 rfl) <|
          .cons rfl (ob_move rfl) <|
          .cons rfl (ob_indexAddr (k := y) rfl rfl Tryd.underlying23 Tryd.sizeOf9 rfl (by omega)) <|
          .cons rfl (ob_load1' rfl hcv16 Tryd.isAgg9 rfl) <|
          .cons rfl (ob_sneq rfl rfl) <|
          .nil) ?_
      intro a6 w6 m6 hst6 hle6 hk6
      have hfr6 := hk6.fr (T' := [(5, _), (0, _), (1, _), (4, _), (2, _), (3, _), (37, _)]) (.old rfl rfl <| .old rfl rfl <| .old rfl rfl <| .old rfl rfl <| .old rfl rfl <| .old rfl rfl <| .new rfl <| .nil)
      replace h_a := h_a.mono hle6
      replace hs_a := hs_a.mono hle6
      replace h_b := h_b.mono hle6
      replace hs_b := hs_b.mono hle6
      replace hc2 := hc2.mono hle6
      replace hc3 := hc3.mono hle6
      replace hcv15 := hcv15.mono hle6
      replace hcv16 := hcv16.mono hle6
      have hlh6 := hlh5.trans hle6
      replace hM := hM.trans hle6
      clear hst5 hfr5 hk6
      refine hK14 _ _ ?_; try clear hK14 K14
      refine cond_any hfr6 rfl rfl (fun hb37 => ?_) (fun hb37 => ?_)
      · try simp only [Bool.not_eq_true', Bool.not_eq_false', decide_eq_true_eq, decide_eq_false_iff_not, Bool.and_eq_true, Bool.or_eq_true, Bool.and_eq_false_iff, Bool.or_eq_false_iff, Bool.not_not, u8_eq] at hb37
        refine seq_any fun K17 hK17 => ?_
        refine region_plain (fun h => by cases h) hst6 hfr6 (by kernel_rfl) (by kernel_rfl) (.cons rfl (ob_assign rfl) <|
            .nil) ?_
        intro a7 w7 m7 hst7 hle7 hk7
        have hfr7 := hk7.fr (T' := [(5, _), (0, _), (1, _), (2, _), (3, _), (4, _)]) (.old rfl rfl <| .old rfl rfl <| .old rfl rfl <| .old rfl rfl <| .old rfl rfl <| .new rfl <| .nil)
        replace h_a := h_a.mono hle7
        replace hs_a := hs_a.mono hle7
        replace h_b := h_b.mono hle7
        replace hs_b := hs_b.mono hle7
        replace hc2 := hc2.mono hle7
        replace hc3 := hc3.mono hle7
        replace hcv15 := hcv15.mono hle7
        replace hcv16 := hcv16.mono hle7
        have hlh7 := hlh6.trans hle7
        replace hM := hM.trans hle7
        clear hst6 hfr6 hk7
        refine hK17 _ _ ?_; try clear hK17 K17
        refine wp_ret ?_
        repeat (with_reducible first | refine then_ret ?_ | refine block_ret ?_)
        exact fn_ret hst7 hfr7 rfl (.tmp rfl <| .nil) (by refine congrArg Value.bool ?_; rw [← hae, hrem]; simp_all)
      · try simp only [Bool.not_eq_true', Bool.not_eq_false', decide_eq_true_eq, decide_eq_false_iff_not, Bool.and_eq_true, Bool.or_eq_true, Bool.and_eq_false_iff, Bool.or_eq_false_iff, Bool.not_not, u8_eq] at hb37
        refine wp_skip ?_
        refine hK13 _ _ ?_; try clear hK13 K13
        refine region_plain (fun h => by cases h) hst6 hfr6 (by kernel_rfl) (by kernel_rfl) (.cons rfl (ob_move rfl) <|
            .cons rfl (ob_add rfl rfl ⟨by omega, by omega⟩) <|
            .cons rfl (ob_assign rfl) <|
            .nil) ?_
        intro a7 w7 m7 hst7 hle7 hk7
        have hfr7 := hk7.fr (T' := [(0, _), (1, _), (4, _), (2, _), (3, _), (5, _)]) (.old rfl rfl <| .old rfl rfl <| .old rfl rfl <| .old rfl rfl <| .old rfl rfl <| .new rfl <| .nil)
        replace h_a := h_a.mono hle7
        replace hs_a := hs_a.mono hle7
        replace h_b := h_b.mono hle7
        replace hs_b := hs_b.mono hle7
        replace hc2 := hc2.mono hle7
        replace hc3 := hc3.mono hle7
        replace hcv15 := hcv15.mono hle7
        replace hcv16 := hcv16.mono hle7
        have hlh7 := hlh6.trans hle7
        replace hM := hM.trans hle7
        clear hst6 hfr6 hk7
        exact ⟨y + 1, m7, by show a.labels.length - (y + 1) < a.labels.length - y; omega, ⟨hst7, hlh7, hfr7.sub (.cons rfl <| .cons rfl <| .cons rfl <| .cons rfl <| .cons rfl <| .cons rfl <| .nil), ⟨by show y + 1 ≤ a.labels.length; omega, by simp_all⟩⟩⟩
    · try simp only [Bool.not_eq_true', Bool.not_eq_false', decide_eq_true_eq, decide_eq_false_iff_not, Bool.and_eq_true, Bool.or_eq_true, Bool.and_eq_false_iff, Bool.or_eq_false_iff, Bool.not_not, u8_eq] at hb24
      have hge : y = a.labels.length := by omega
      rw [List.drop_of_length_le (by omega), List.drop_of_length_le (by omega)] at hrem
      simp only [all2] at hrem
      refine wp_exit ?_
      refine hK8 _ _ ?_; try clear hK8 K8
      refine seq_any fun K19 hK19 => ?_
      refine region_plain (fun h => by cases h) hst5 hfr5 (by kernel_rfl) (by kernel_rfl) (.cons rfl (ob_assign rfl) <|
          .nil) ?_
      intro a6 w6 m6 hst6 hle6 hk6
      have hfr6 := hk6.fr (T' := [(5, _), (0, _), (1, _), (2, _), (3, _), (4, _)]) (.old rfl rfl <| .old rfl rfl <| .old rfl rfl <| .old rfl rfl <| .old rfl rfl <| .new rfl <| .nil)
      replace h_a := h_a.mono hle6
      replace hs_a := hs_a.mono hle6
      replace h_b := h_b.mono hle6
      replace hs_b := hs_b.mono hle6
      replace hc2 := hc2.mono hle6
      replace hc3 := hc3.mono hle6
      have hlh6 := hlh5.trans hle6
      replace hM := hM.trans hle6
      clear hst5 hfr5 hk6
      refine hK19 _ _ ?_; try clear hK19 K19
      refine wp_ret ?_
      repeat (with_reducible first | refine then_ret ?_ | refine block_ret ?_)
      exact fn_ret hst6 hfr6 rfl (.tmp rfl <| .nil) (by refine congrArg Value.bool ?_; rw [← hae, hrem]; simp_all)

theorem both_comm (l : List Str) (a b : Str) : (decide (a ∈ l) && decide (b ∈ l.erase a)) = (decide (b ∈ l) && decide (a ∈ l.erase b)) := by
  by_cases h : a = b
  · subst h; rfl
  · have h1 : b ∈ l.erase a ↔ b ∈ l := List.mem_erase_of_ne (Ne.symm h)
    have h2 : a ∈ l.erase b ↔ a ∈ l := List.mem_erase_of_ne h
    rw [decide_eq_decide.2 h1, decide_eq_decide.2 h2, Bool.and_comm]
theorem put_back {l : List Str} (hs : isSortedS l = true) {a b : Str} (ha : a ∈ l) (hb : b ∈ l.erase a) : sortS (sortS ((l.erase a).erase b ++ [a]) ++ [b]) = l := by
  refine perm_sorted ((sortS_perm _).trans ?_) (sortS_sorted _) hs
  have h1 := (List.perm_cons_erase ha)
  have h2 := (List.perm_cons_erase hb)
  refine ((sortS_perm _).append_right [b]).trans ?_
  have h3 : (((l.erase a).erase b ++ [a]) ++ [b]).Perm (b :: (a :: (l.erase a).erase b)) := by
    refine List.perm_append_comm.trans ?_
    exact List.Perm.cons b (List.perm_append_comm (l₁ := (l.erase a).erase b) (l₂ := [a]))
  exact h3.trans ((List.Perm.swap a b _).trans ((h2.symm.cons a).trans h1.symm))
theorem add_comm2 (l : List Str) (a b : Str) : sortS (sortS (l ++ [a]) ++ [b]) = sortS (sortS (l ++ [b]) ++ [a]) := by
  refine sortS_of_perm (((sortS_perm _).append_right [b]).trans ?_)
  refine List.Perm.trans ?_ ((sortS_perm _).append_right [a]).symm
  rw [List.append_assoc, List.append_assoc]
  exact List.Perm.append_left l (List.Perm.swap b a [])

set_option maxHeartbeats 400000 in
theorem typesCommon_c {w : World} {m : Mem} {r : Rw} {vs_r : List Value} {a : Str} {b : Str} (hA : Agree w m) (h_r : RwR m r vs_r) (hT : Tab w) : FnV Tryd.prog 10 #[.agg vs_r.toArray, S a, S b] w m (fun _ _ v => v = .bool true) := by
  obtain ⟨o_r, c_r, rfl, hs_r, hr_r⟩ := h_r.open_
  have hbs_r := hs_r.big; have hcs_r := hs_r.cap
  refine fn_enter (vs := [_, _, _]) Tryd.func10 rfl rfl rfl fun a0 hfr0 => ?_
  have hst0 := st_enter hA (loc_nil [] _ w m)
  have hM : MLe m m := MLe.refl m
  have hea : (r.labels.erase a).length ≤ r.labels.length := List.erase_sublist.length_le
  have heb : (r.labels.erase b).length ≤ r.labels.length := List.erase_sublist.length_le
  have heab : ((r.labels.erase a).erase b).length ≤ r.labels.length := Nat.le_trans List.erase_sublist.length_le hea
  have heba : ((r.labels.erase b).erase a).length ≤ r.labels.length := Nat.le_trans List.erase_sublist.length_le heb
  refine seq_any fun K1 hK1 => ?_
  refine region_plain (fun h => by cases h) hst0 hfr0 (by kernel_rfl) (by kernel_rfl) (.cons rfl (ob_box rfl rfl) <|
      .cons rfl (ob_assign rfl) <|
      .nil) ?_
  intro a1 w1 m1 hst1 hle1 hk1
  have hfr1 := hk1.fr (T' := [(0, _), (1, _), (2, _), (6, _)]) (.old rfl rfl <| .old rfl rfl <| .old rfl rfl <| .new rfl <| .nil)
  obtain ⟨g2, e2, hc3⟩ := hk1.ex 3 rfl
  replace hfr1 := hfr1.cons e2
  replace h_r := h_r.mono hle1
  replace hs_r := hs_r.mono hle1
  replace hM := hM.trans hle1
  clear hst0 hfr0 hk1
  refine hK1 _ _ ?_; try clear hK1 K1
  refine seq_any fun K3 hK3 => ?_
  refine region_plain (fun h => by cases h) hst1 hfr1 (by kernel_rfl) (by kernel_rfl) (.cons rfl (ob_callE rfl (.nil) Tryd.call11 (fun w m hK => by have hle_ := KC.le hK; have hA := KC.agree hK; have hM := hM.trans hle_; have hT := tab_keep hT hK.st.ext; have h_r := h_r.mono hle_; have hs_r := hs_r.mono hle_; have hc3 := hc3.mono hle_; exact shown_c hA (by first | assumption | omega | simp_all))) <|
      .cons rfl (ob_assign rfl) <|
      .nil) ?_
  intro a2 w2 m2 hst2 hle2 hk2
  have hfr2 := hk2.fr (T' := [(0, _), (1, _), (2, _), (6, _), (3, _), (7, _)]) (.old rfl rfl <| .old rfl rfl <| .old rfl rfl <| .old rfl rfl <| .old rfl rfl <| .new rfl <| .nil)
  replace h_r := h_r.mono hle2
  replace hs_r := hs_r.mono hle2
  replace hc3 := hc3.mono hle2
  replace hM := hM.trans hle2
  clear hst1 hfr1 hk2
  refine hK3 _ _ ?_; try clear hK3 K3
  refine seq_any fun K4 hK4 => ?_
  refine seq_any fun K5 hK5 => ?_
  refine region_plain (fun h => by cases h) hst2 hfr2 (by kernel_rfl) (by kernel_rfl) (.cons rfl (ob_fieldAddr rfl Tryd.underlying25 rfl Tryd.sizeOf23 rfl) <|
      .cons rfl (ob_load1 rfl hc3 Tryd.isAgg23 rfl) <|
      .cons rfl (ob_len rfl Tryd.underlying23) <|
      .cons rfl (ob_gtr rfl rfl) <|
      .cons rfl (ob_move rfl) <|
      .cons rfl (ob_loadS' rfl hc3 Tryd.isAgg25 Tryd.sizeOf25 rfl rfl) <|
      .cons rfl (ob_callE rfl (.cons rfl <| .nil) Tryd.call19 (fun w m hK => by have hle_ := KC.le hK; have hA := KC.agree hK; have hM := hM.trans hle_; have hT := tab_keep hT hK.st.ext; have h_r := h_r.mono hle_; have hs_r := hs_r.mono hle_; have hc3 := hc3.mono hle_; exact rightrow_c hA (by first | assumption | omega | simp_all))) <|
      .cons rfl (ob_not rfl) <|
      .cons rfl (ob_or rfl rfl rfl) <|
      .cons rfl (ob_move rfl) <|
      .cons rfl (ob_move rfl) <|
      .cons rfl (ob_seql rfl rfl) <|
      .cons rfl (ob_or rfl rfl rfl) <|
      .cons rfl (ob_move rfl) <|
      .cons rfl (ob_move rfl) <|
      .cons rfl (ob_seql rfl rfl) <|
      .cons rfl (ob_or rfl rfl rfl) <|
      .nil) ?_
  intro a3 w3 m3 hst3 hle3 hk3
  have hfr3 := hk3.fr (T' := [(0, _), (1, _), (2, _), (6, _), (3, _), (7, _), (31, _)]) (.old rfl rfl <| .old rfl rfl <| .old rfl rfl <| .old rfl rfl <| .old rfl rfl <| .old rfl rfl <| .new rfl <| .nil)
  replace h_r := h_r.mono hle3
  replace hs_r := hs_r.mono hle3
  replace hc3 := hc3.mono hle3
  replace hM := hM.trans hle3
  clear hst2 hfr2 hk3
  refine hK5 _ _ ?_; try clear hK5 K5
  refine cond_any hfr3 rfl rfl (fun hb31 => ?_) (fun hb31 => ?_)
  · try simp only [Bool.not_eq_true', Bool.not_eq_false', decide_eq_true_eq, decide_eq_false_iff_not, Bool.and_eq_true, Bool.or_eq_true, Bool.and_eq_false_iff, Bool.or_eq_false_iff, Bool.not_not, u8_eq] at hb31
    refine seq_any fun K6 hK6 => ?_
    refine region_plain (fun h => by cases h) hst3 hfr3 (by kernel_rfl) (by kernel_rfl) (.cons rfl (ob_move rfl) <|
        .cons rfl (ob_assign rfl) <|
        .nil) ?_
    intro a4 w4 m4 hst4 hle4 hk4
    have hfr4 := hk4.fr (T' := [(0, _), (1, _), (2, _), (3, _), (7, _), (6, _)]) (.old rfl rfl <| .old rfl rfl <| .old rfl rfl <| .old rfl rfl <| .old rfl rfl <| .new rfl <| .nil)
    replace h_r := h_r.mono hle4
    replace hs_r := hs_r.mono hle4
    replace hc3 := hc3.mono hle4
    replace hM := hM.trans hle4
    clear hst3 hfr3 hk4
    refine hK6 _ _ ?_; try clear hK6 K6
    refine wp_ret ?_
    repeat (with_reducible first | refine then_ret ?_ | refine block_ret ?_)
    exact fn_ret hst4 hfr4 rfl (.tmp rfl <| .nil) (rfl)
  · try simp only [Bool.not_eq_true', Bool.not_eq_false', decide_eq_true_eq, decide_eq_false_iff_not, Bool.and_eq_true, Bool.or_eq_true, Bool.and_eq_false_iff, Bool.or_eq_false_iff, Bool.not_not, u8_eq] at hb31
    have hq : rowOk r.labels r.var = true := by simp_all
    have hql : r.labels.length ≤ 20 := by omega
    have hsr : isSortedS r.labels = true := by unfold rowOk at hq; simp only [Bool.and_eq_true] at hq; exact hq.1.2
    have hbc := both_comm r.labels a b
    refine wp_skip ?_
    refine hK4 _ _ ?_; try clear hK4 K4
    refine seq_any fun K8 hK8 => ?_
    replace hst3 := hst3.more (r := .free) trivial List.nodup_nil (by simp [Res.blocks])
    refine region_any (tch := [(6, 0, (fun v => .blk v _)), (7, 0, (fun v => .blkx v _ _))]) (fun h => by cases h) hst3 hfr3 (by kernel_rfl) (by kernel_rfl) (by kernel_rfl) (.cons rfl (ob_loadS' rfl hc3 Tryd.isAgg25 Tryd.sizeOf25 rfl rfl) <|
        .cons rfl (ob_move rfl) <|
        .cons rfl (ob_call (φ := MP.rwb ⟨r.labels.erase a, r.var⟩ (decide (a ∈ r.labels))) rfl (.cons rfl <| .cons rfl <| .nil) Tryd.call28 (fun w m hK => by have hle_ := KC.le hK; have hA := KC.agree hK; have hM := hM.trans hle_; have hT := tab_keep hT hK.st.ext; have h_r := h_r.mono hle_; exact FnG.mono (less_c (r := ⟨r.labels, r.var⟩) (s := a) hA h_r (by simp only [sortS_len, List.length_append, List.length_cons, List.length_nil]; omega)) fun _ _ _ _ h => h)) <|
        .cons rfl (ob_imgV 36 rfl rfl rfl fun y36 => ob_move rfl) <|
        .cons rfl (ob_imgV 33 rfl rfl rfl fun y33 => ob_extract rfl rfl) <|
        .cons rfl (ob_imgE 33 rfl rfl rfl fun y33 => ob_extract rfl rfl) <|
        .consT rfl rfl (fun _ => rfl) rfl (ob_allocL Tryd.zeroValue25 rfl) <|
        .consT rfl rfl (fun _ => rfl) rfl (ob_imgT 8 rfl rfl rfl fun y8 => ob_imgTX 37 rfl rfl rfl fun y37 => ob_storeF rfl rfl rfl rfl rfl Tryd.sizeOf25 rfl rfl rfl) <|
        .cons rfl (ob_assign rfl) <|
        .nil) ?_
    intro a4 w4 m4 hst4 hle4 hk4
    have hfr4 := hk4.fr (T' := [(0, _), (1, _), (2, _), (6, _), (3, _), (7, _), (9, _)]) (.old rfl rfl <| .old rfl rfl <| .old rfl rfl <| .old rfl rfl <| .old rfl rfl <| .old rfl rfl <| .new rfl <| .nil)
    obtain ⟨g9, e9, _⟩ := hk4.ex 8 rfl
    replace hfr4 := hfr4.cons e9
    replace hst4 := hst4.fin (L' := [_]) (.cons e9 <| .cons e9 <| .nil)
    obtain ⟨⟨o1, c1⟩, hx1, hst4⟩ := hst4.unx (k := 0) rfl (fun _ => rfl)
    replace h_r := h_r.mono hle4
    replace hs_r := hs_r.mono hle4
    replace hc3 := hc3.mono hle4
    replace hM := hM.trans hle4
    clear hst3 hfr3 hk4
    refine hK8 _ _ ?_; try clear hK8 K8
    refine seq_any fun K11 hK11 => ?_
    refine region_any (tch := [(6, 0, (fun _ => .blkx _ _ _))]) (fun h => by cases h) hst4 hfr4 (by kernel_rfl) (by kernel_rfl) (by kernel_rfl) (.cons rfl (ob_loadLS' (j := 0) rfl rfl Tryd.isAgg25 Tryd.sizeOf25 rfl rfl) <|
        .cons rfl (ob_move rfl) <|
        .cons rfl (ob_call (φ := MP.rwb ⟨(r.labels.erase a).erase b, r.var⟩ (decide (b ∈ (r.labels.erase a)))) rfl (.cons rfl <| .cons rfl <| .nil) Tryd.call28 (fun w m hK => by have hle_ := KC.le hK; have hA := KC.agree hK; have hM := hM.trans hle_; have hT := tab_keep hT hK.st.ext; have hx1 := hx1.mono hle_; exact FnG.mono (less_c (r := ⟨(r.labels.erase a), r.var⟩) (s := b) hA hx1 (by simp only [sortS_len, List.length_append, List.length_cons, List.length_nil]; omega)) fun _ _ _ _ h => h)) <|
        .cons rfl (ob_imgV 42 rfl rfl rfl fun y42 => ob_move rfl) <|
        .cons rfl (ob_imgV 39 rfl rfl rfl fun y39 => ob_extract rfl rfl) <|
        .cons rfl (ob_imgE 39 rfl rfl rfl fun y39 => ob_extract rfl rfl) <|
        .consT rfl rfl (fun _ => rfl) rfl (ob_imgTX 43 rfl rfl rfl fun y43 => ob_store' rfl rfl rfl Tryd.sizeOf25 rfl rfl rfl) <|
        .cons rfl (ob_assign rfl) <|
        .nil) ?_
    intro a5 w5 m5 hst5 hle5 hk5
    have hfr5 := hk5.fr (T' := [(0, _), (1, _), (2, _), (6, _), (3, _), (7, _), (9, _), (8, _), (10, _)]) (.old rfl rfl <| .old rfl rfl <| .old rfl rfl <| .old rfl rfl <| .old rfl rfl <| .old rfl rfl <| .old rfl rfl <| .old rfl rfl <| .new rfl <| .nil)
    replace hst5 := hst5.fin (L' := [_]) (.cons rfl <| .nil)
    obtain ⟨⟨o2, c2⟩, hx2, hst5⟩ := hst5.unx (k := 0) rfl (fun _ => rfl)
    replace h_r := h_r.mono hle5
    replace hs_r := hs_r.mono hle5
    replace hc3 := hc3.mono hle5
    replace hx1 := hx1.mono hle5
    replace hM := hM.trans hle5
    clear hst4 hfr4 hk5
    refine hK11 _ _ ?_; try clear hK11 K11
    refine seq_any fun K13 hK13 => ?_
    replace hst5 := hst5.more (r := .free) trivial List.nodup_nil (by simp [Res.blocks])
    refine region_any (tch := [(6, 1, (fun v => .blk v _)), (7, 1, (fun v => .blkx v _ _))]) (fun h => by cases h) hst5 hfr5 (by kernel_rfl) (by kernel_rfl) (by kernel_rfl) (.cons rfl (ob_loadS' rfl hc3 Tryd.isAgg25 Tryd.sizeOf25 rfl rfl) <|
        .cons rfl (ob_move rfl) <|
        .cons rfl (ob_call (φ := MP.rwb ⟨r.labels.erase b, r.var⟩ (decide (b ∈ r.labels))) rfl (.cons rfl <| .cons rfl <| .nil) Tryd.call28 (fun w m hK => by have hle_ := KC.le hK; have hA := KC.agree hK; have hM := hM.trans hle_; have hT := tab_keep hT hK.st.ext; have h_r := h_r.mono hle_; exact FnG.mono (less_c (r := ⟨r.labels, r.var⟩) (s := b) hA h_r (by simp only [sortS_len, List.length_append, List.length_cons, List.length_nil]; omega)) fun _ _ _ _ h => h)) <|
        .cons rfl (ob_imgV 48 rfl rfl rfl fun y48 => ob_move rfl) <|
        .cons rfl (ob_imgV 45 rfl rfl rfl fun y45 => ob_extract rfl rfl) <|
        .cons rfl (ob_imgE 45 rfl rfl rfl fun y45 => ob_extract rfl rfl) <|
        .consT rfl rfl (fun _ => rfl) rfl (ob_allocL Tryd.zeroValue25 rfl) <|
        .consT rfl rfl (fun _ => rfl) rfl (ob_imgT 11 rfl rfl rfl fun y11 => ob_imgTX 49 rfl rfl rfl fun y49 => ob_storeF rfl rfl rfl rfl rfl Tryd.sizeOf25 rfl rfl rfl) <|
        .cons rfl (ob_assign rfl) <|
        .nil) ?_
    intro a6 w6 m6 hst6 hle6 hk6
    have hfr6 := hk6.fr (T' := [(0, _), (1, _), (2, _), (6, _), (3, _), (7, _), (9, _), (8, _), (10, _), (12, _)]) (.old rfl rfl <| .old rfl rfl <| .old rfl rfl <| .old rfl rfl <| .old rfl rfl <| .old rfl rfl <| .old rfl rfl <| .old rfl rfl <| .old rfl rfl <| .new rfl <| .nil)
    obtain ⟨g14, e14, _⟩ := hk6.ex 11 rfl
    replace hfr6 := hfr6.cons e14
    replace hst6 := hst6.fin (L' := [_, _]) (.cons e14 <| .cons e14 <| .nil)
    obtain ⟨⟨o3, c3⟩, hx3, hst6⟩ := hst6.unx (k := 1) rfl (fun _ => rfl)
    replace h_r := h_r.mono hle6
    replace hs_r := hs_r.mono hle6
    replace hc3 := hc3.mono hle6
    replace hx1 := hx1.mono hle6
    replace hx2 := hx2.mono hle6
    replace hM := hM.trans hle6
    clear hst5 hfr5 hk6
    refine hK13 _ _ ?_; try clear hK13 K13
    refine seq_any fun K16 hK16 => ?_
    refine region_any (tch := [(6, 1, (fun _ => .blkx _ _ _))]) (fun h => by cases h) hst6 hfr6 (by kernel_rfl) (by kernel_rfl) (by kernel_rfl) (.cons rfl (ob_loadLS' (j := 1) rfl rfl Tryd.isAgg25 Tryd.sizeOf25 rfl rfl) <|
        .cons rfl (ob_move rfl) <|
        .cons rfl (ob_call (φ := MP.rwb ⟨(r.labels.erase b).erase a, r.var⟩ (decide (a ∈ (r.labels.erase b)))) rfl (.cons rfl <| .cons rfl <| .nil) Tryd.call28 (fun w m hK => by have hle_ := KC.le hK; have hA := KC.agree hK; have hM := hM.trans hle_; have hT := tab_keep hT hK.st.ext; have hx3 := hx3.mono hle_; exact FnG.mono (less_c (r := ⟨(r.labels.erase b), r.var⟩) (s := a) hA hx3 (by simp only [sortS_len, List.length_append, List.length_cons, List.length_nil]; omega)) fun _ _ _ _ h => h)) <|
        .cons rfl (ob_imgV 54 rfl rfl rfl fun y54 => ob_move rfl) <|
        .cons rfl (ob_imgV 51 rfl rfl rfl fun y51 => ob_extract rfl rfl) <|
        .cons rfl (ob_imgE 51 rfl rfl rfl fun y51 => ob_extract rfl rfl) <|
        .consT rfl rfl (fun _ => rfl) rfl (ob_imgTX 55 rfl rfl rfl fun y55 => ob_store' rfl rfl rfl Tryd.sizeOf25 rfl rfl rfl) <|
        .cons rfl (ob_assign rfl) <|
        .nil) ?_
    intro a7 w7 m7 hst7 hle7 hk7
    have hfr7 := hk7.fr (T' := [(0, _), (1, _), (2, _), (6, _), (3, _), (7, _), (9, _), (8, _), (10, _), (12, _), (11, _), (13, _)]) (.old rfl rfl <| .old rfl rfl <| .old rfl rfl <| .old rfl rfl <| .old rfl rfl <| .old rfl rfl <| .old rfl rfl <| .old rfl rfl <| .old rfl rfl <| .old rfl rfl <| .old rfl rfl <| .new rfl <| .nil)
    replace hst7 := hst7.fin (L' := [_, _]) (.cons rfl <| .nil)
    obtain ⟨⟨o4, c4⟩, hx4, hst7⟩ := hst7.unx (k := 1) rfl (fun _ => rfl)
    replace h_r := h_r.mono hle7
    replace hs_r := hs_r.mono hle7
    replace hc3 := hc3.mono hle7
    replace hx1 := hx1.mono hle7
    replace hx2 := hx2.mono hle7
    replace hx3 := hx3.mono hle7
    replace hM := hM.trans hle7
    clear hst6 hfr6 hk7
    refine hK16 _ _ ?_; try clear hK16 K16
    refine seq_any fun K18 hK18 => ?_
    refine seq_any fun K19 hK19 => ?_
    refine region_plain (fun h => by cases h) hst7 hfr7 (by kernel_rfl) (by kernel_rfl) (.cons rfl (ob_move rfl) <|
        .cons rfl (ob_move rfl) <|
        .cons rfl (ob_move rfl) <|
        .cons rfl (ob_and rfl rfl rfl) <|
        .cons rfl (ob_move rfl) <|
        .cons rfl (ob_move rfl) <|
        .cons rfl (ob_move rfl) <|
        .cons rfl (ob_and rfl rfl rfl) <|
        .cons rfl (ob_bneq rfl rfl Tryd.underlying4) <|
        .nil) ?_
    intro a8 w8 m8 hst8 hle8 hk8
    have hfr8 := hk8.fr (T' := [(0, _), (1, _), (2, _), (6, _), (3, _), (7, _), (9, _), (8, _), (10, _), (12, _), (11, _), (13, _), (65, _)]) (.old rfl rfl <| .old rfl rfl <| .old rfl rfl <| .old rfl rfl <| .old rfl rfl <| .old rfl rfl <| .old rfl rfl <| .old rfl rfl <| .old rfl rfl <| .old rfl rfl <| .old rfl rfl <| .old rfl rfl <| .new rfl <| .nil)
    replace h_r := h_r.mono hle8
    replace hs_r := hs_r.mono hle8
    replace hc3 := hc3.mono hle8
    replace hx1 := hx1.mono hle8
    replace hx2 := hx2.mono hle8
    replace hx3 := hx3.mono hle8
    replace hx4 := hx4.mono hle8
    replace hM := hM.trans hle8
    clear hst7 hfr7 hk8
    refine hK19 _ _ ?_; try clear hK19 K19
    refine cond_any hfr8 rfl rfl (fun hb65 => ?_) (fun hb65 => ?_)
    · exfalso; simp_all
    · try simp only [Bool.not_eq_true', Bool.not_eq_false', decide_eq_true_eq, decide_eq_false_iff_not, Bool.and_eq_true, Bool.or_eq_true, Bool.and_eq_false_iff, Bool.or_eq_false_iff, Bool.not_not, u8_eq] at hb65
      refine wp_skip ?_
      refine hK18 _ _ ?_; try clear hK18 K18
      refine seq_any fun K20 hK20 => ?_
      refine seq_any fun K21 hK21 => ?_
      refine region_plain (fun h => by cases h) hst8 hfr8 (by kernel_rfl) (by kernel_rfl) (.cons rfl (ob_move rfl) <|
          .cons rfl (ob_move rfl) <|
          .cons rfl (ob_move rfl) <|
          .cons rfl (ob_and rfl rfl rfl) <|
          .nil) ?_
      intro a9 w9 m9 hst9 hle9 hk9
      have hfr9 := hk9.fr (T' := [(0, _), (1, _), (2, _), (6, _), (3, _), (7, _), (9, _), (8, _), (10, _), (12, _), (11, _), (13, _), (69, _)]) (.old rfl rfl <| .old rfl rfl <| .old rfl rfl <| .old rfl rfl <| .old rfl rfl <| .old rfl rfl <| .old rfl rfl <| .old rfl rfl <| .old rfl rfl <| .old rfl rfl <| .old rfl rfl <| .old rfl rfl <| .new rfl <| .nil)
      replace h_r := h_r.mono hle9
      replace hs_r := hs_r.mono hle9
      replace hc3 := hc3.mono hle9
      replace hx1 := hx1.mono hle9
      replace hx2 := hx2.mono hle9
      replace hx3 := hx3.mono hle9
      replace hx4 := hx4.mono hle9
      replace hM := hM.trans hle9
      clear hst8 hfr8 hk9
      refine hK21 _ _ ?_; try clear hK21 K21
      refine cond_any hfr9 rfl rfl (fun hb69 => ?_) (fun hb69 => ?_)
      · try simp only [Bool.not_eq_true', Bool.not_eq_false', decide_eq_true_eq, decide_eq_false_iff_not, Bool.and_eq_true, Bool.or_eq_true, Bool.and_eq_false_iff, Bool.or_eq_false_iff, Bool.not_not, u8_eq] at hb69
        have hm : a ∈ r.labels ∧ b ∈ (r.labels.erase a) := by simpa using hb69
        have hpb := put_back hsr hm.1 hm.2
        have hcc : ((r.labels.erase a).erase b) = ((r.labels.erase b).erase a) := List.erase_comm _ _
        refine seq_any fun K22 hK22 => ?_
        refine region_plain (fun _ => mixed) hst9 hfr9 (by kernel_rfl) (by kernel_rfl) (.cons rfl (ob_move rfl) <|
            .cons rfl (ob_move rfl) <|
            .cons rfl (ob_loadLS' (j := 0) rfl rfl Tryd.isAgg25 Tryd.sizeOf25 rfl rfl) <|
            .cons rfl (ob_loadLS' (j := 1) rfl rfl Tryd.isAgg25 Tryd.sizeOf25 rfl rfl) <|
            .cons rfl (ob_callE rfl (.cons rfl <| .cons rfl <| .nil) Tryd.call26 (fun w m hK => by have hle_ := KC.le hK; have hA := KC.agree hK; have hM := hM.trans hle_; have hT := tab_keep hT hK.st.ext; have hx2 := hx2.mono hle_; have hx4 := hx4.mono hle_; exact samerow_c (a := ⟨((r.labels.erase a).erase b), r.var⟩) (b := ⟨((r.labels.erase b).erase a), r.var⟩) hA hx2 hx4)) <|
            .cons rfl (ob_and rfl rfl rfl) <|
            .cons rfl (ob_move rfl) <|
            .cons rfl (ob_loadLS' (j := 0) rfl rfl Tryd.isAgg25 Tryd.sizeOf25 rfl rfl) <|
            .cons rfl (ob_move rfl) <|
            .cons rfl (ob_call (φ := MP.rw ⟨sortS (((r.labels.erase a).erase b) ++ [a]), r.var⟩) rfl (.cons rfl <| .cons rfl <| .nil) Tryd.call27 (fun w m hK => by have hle_ := KC.le hK; have hA := KC.agree hK; have hM := hM.trans hle_; have hT := tab_keep hT hK.st.ext; have hx2 := hx2.mono hle_; exact FnG.mono (add_c (r := ⟨((r.labels.erase a).erase b), r.var⟩) (s := a) hA hx2 (by simp only [sortS_len, List.length_append, List.length_cons, List.length_nil]; omega)) fun _ _ _ _ h => h)) <|
            .cons rfl (ob_move rfl) <|
            .cons rfl (ob_imgE 79 rfl rfl rfl fun y79 => ob_call (φ := MP.rw ⟨sortS ((sortS (((r.labels.erase a).erase b) ++ [a])) ++ [b]), r.var⟩) rfl (.cons rfl <| .cons rfl <| .nil) Tryd.call27 (fun w m hK => by have hle_ := KC.le hK; have hA := KC.agree hK; have hM := hM.trans hle_; have hT := tab_keep hT hK.1.st.ext; have hr0_ := hK.2; exact FnG.mono (add_c (r := ⟨(sortS (((r.labels.erase a).erase b) ++ [a])), r.var⟩) (s := b) hA hr0_ (by simp only [sortS_len, List.length_append, List.length_cons, List.length_nil]; omega)) fun _ _ _ _ h => h)) <|
            .cons rfl (ob_loadS' rfl hc3 Tryd.isAgg25 Tryd.sizeOf25 rfl rfl) <|
            .cons rfl (ob_imgE 81 rfl rfl rfl fun y81 => ob_callE rfl (.cons rfl <| .cons rfl <| .nil) Tryd.call26 (fun w m hK => by have hle_ := KC.le hK; have hA := KC.agree hK; have hM := hM.trans hle_; have hT := tab_keep hT hK.1.st.ext; have hr0_ := hK.2; have h_r := h_r.mono hle_; exact samerow_c (a := ⟨sortS (sortS (((r.labels.erase a).erase b) ++ [a]) ++ [b]), r.var⟩) (b := ⟨r.labels, r.var⟩) hA hr0_ h_r)) <|
            .cons rfl (ob_and rfl rfl rfl) <|
            .cons rfl (ob_assign rfl) <|
            .nil) ?_
        intro a10 w10 m10 hst10 hle10 hk10
        have hfr10 := hk10.fr (T' := [(0, _), (1, _), (2, _), (3, _), (7, _), (9, _), (8, _), (10, _), (12, _), (11, _), (13, _), (6, _)]) (.old rfl rfl <| .old rfl rfl <| .old rfl rfl <| .old rfl rfl <| .old rfl rfl <| .old rfl rfl <| .old rfl rfl <| .old rfl rfl <| .old rfl rfl <| .old rfl rfl <| .old rfl rfl <| .new rfl <| .nil)
        replace h_r := h_r.mono hle10
        replace hs_r := hs_r.mono hle10
        replace hc3 := hc3.mono hle10
        replace hx1 := hx1.mono hle10
        replace hx2 := hx2.mono hle10
        replace hx3 := hx3.mono hle10
        replace hx4 := hx4.mono hle10
        replace hM := hM.trans hle10
        clear hst9 hfr9 hk10
        refine hK22 _ _ ?_; try clear hK22 K22
        refine wp_ret ?_
        repeat (with_reducible first | refine then_ret ?_ | refine block_ret ?_)
        exact fn_ret hst10 hfr10 rfl (.tmp rfl <| .nil) (by refine congrArg Value.bool ?_; rw [hpb, hcc]; simp)
      · try simp only [Bool.not_eq_true', Bool.not_eq_false', decide_eq_true_eq, decide_eq_false_iff_not, Bool.and_eq_true, Bool.or_eq_true, Bool.and_eq_false_iff, Bool.or_eq_false_iff, Bool.not_not, u8_eq] at hb69
        refine wp_skip ?_
        refine hK20 _ _ ?_; try clear hK20 K20
        refine seq_any fun K24 hK24 => ?_
        refine region_plain (fun _ => mixed) hst9 hfr9 (by kernel_rfl) (by kernel_rfl) (.cons rfl (ob_move rfl) <|
            .cons rfl (ob_move rfl) <|
            .cons rfl (ob_loadS' rfl hc3 Tryd.isAgg25 Tryd.sizeOf25 rfl rfl) <|
            .cons rfl (ob_move rfl) <|
            .cons rfl (ob_call (φ := MP.rw ⟨sortS (r.labels ++ [a]), r.var⟩) rfl (.cons rfl <| .cons rfl <| .nil) Tryd.call27 (fun w m hK => by have hle_ := KC.le hK; have hA := KC.agree hK; have hM := hM.trans hle_; have hT := tab_keep hT hK.st.ext; have h_r := h_r.mono hle_; exact FnG.mono (add_c (r := ⟨r.labels, r.var⟩) (s := a) hA h_r (by simp only [sortS_len, List.length_append, List.length_cons, List.length_nil]; omega)) fun _ _ _ _ h => h)) <|
            .cons rfl (ob_move rfl) <|
            .cons rfl (ob_imgE 89 rfl rfl rfl fun y89 => ob_call (φ := MP.rw ⟨sortS ((sortS (r.labels ++ [a])) ++ [b]), r.var⟩) rfl (.cons rfl <| .cons rfl <| .nil) Tryd.call27 (fun w m hK => by have hle_ := KC.le hK; have hA := KC.agree hK; have hM := hM.trans hle_; have hT := tab_keep hT hK.1.st.ext; have hr0_ := hK.2; exact FnG.mono (add_c (r := ⟨(sortS (r.labels ++ [a])), r.var⟩) (s := b) hA hr0_ (by simp only [sortS_len, List.length_append, List.length_cons, List.length_nil]; omega)) fun _ _ _ _ h => h)) <|
            .cons rfl (ob_loadS' rfl hc3 Tryd.isAgg25 Tryd.sizeOf25 rfl rfl) <|
            .cons rfl (ob_move rfl) <|
            .cons rfl (ob_call (φ := MP.rw ⟨sortS (r.labels ++ [b]), r.var⟩) rfl (.cons rfl <| .cons rfl <| .nil) Tryd.call27 (fun w m hK => by have hle_ := KC.le hK; have hA := KC.agree hK; have hM := hM.trans hle_; have hT := tab_keep hT hK.st.ext; have h_r := h_r.mono hle_; exact FnG.mono (add_c (r := ⟨r.labels, r.var⟩) (s := b) hA h_r (by simp only [sortS_len, List.length_append, List.length_cons, List.length_nil]; omega)) fun _ _ _ _ h => h)) <|
            .cons rfl (ob_move rfl) <|
            .cons rfl (ob_imgE 94 rfl rfl rfl fun y94 => ob_call (φ := MP.rw ⟨sortS ((sortS (r.labels ++ [b])) ++ [a]), r.var⟩) rfl (.cons rfl <| .cons rfl <| .nil) Tryd.call27 (fun w m hK => by have hle_ := KC.le hK; have hA := KC.agree hK; have hM := hM.trans hle_; have hT := tab_keep hT hK.1.st.ext; have hr0_ := hK.2; exact FnG.mono (add_c (r := ⟨(sortS (r.labels ++ [b])), r.var⟩) (s := a) hA hr0_ (by simp only [sortS_len, List.length_append, List.length_cons, List.length_nil]; omega)) fun _ _ _ _ h => h)) <|
            .cons rfl (ob_imgE 91 rfl rfl rfl fun y91 => ob_imgE 96 rfl rfl rfl fun y96 => ob_callE rfl (.cons rfl <| .cons rfl <| .nil) Tryd.call30 (fun w m hK => by have hle_ := KC.le hK; have hA := KC.agree hK; have hM := hM.trans hle_; have hT := tab_keep hT hK.1.1.st.ext; have hr0_ := hK.2; have hr1_ := hK.1.2; exact samerowR_c (a := ⟨sortS (sortS (r.labels ++ [a]) ++ [b]), r.var⟩) (b := ⟨sortS (sortS (r.labels ++ [b]) ++ [a]), r.var⟩) hA hr1_ hr0_)) <|
            .cons rfl (ob_and rfl rfl rfl) <|
            .cons rfl (ob_assign rfl) <|
            .nil) ?_
        intro a10 w10 m10 hst10 hle10 hk10
        have hfr10 := hk10.fr (T' := [(0, _), (1, _), (2, _), (3, _), (7, _), (9, _), (8, _), (10, _), (12, _), (11, _), (13, _), (6, _)]) (.old rfl rfl <| .old rfl rfl <| .old rfl rfl <| .old rfl rfl <| .old rfl rfl <| .old rfl rfl <| .old rfl rfl <| .old rfl rfl <| .old rfl rfl <| .old rfl rfl <| .old rfl rfl <| .new rfl <| .nil)
        replace h_r := h_r.mono hle10
        replace hs_r := hs_r.mono hle10
        replace hc3 := hc3.mono hle10
        replace hx1 := hx1.mono hle10
        replace hx2 := hx2.mono hle10
        replace hx3 := hx3.mono hle10
        replace hx4 := hx4.mono hle10
        replace hM := hM.trans hle10
        clear hst9 hfr9 hk10
        refine hK24 _ _ ?_; try clear hK24 K24
        refine wp_ret ?_
        repeat (with_reducible first | refine then_ret ?_ | refine block_ret ?_)
        exact fn_ret hst10 hfr10 rfl (.tmp rfl <| .nil) (by refine congrArg Value.bool ?_; rw [add_comm2]; simp)

end Go.Proofs.YtembdjghbphcdaaDoor
