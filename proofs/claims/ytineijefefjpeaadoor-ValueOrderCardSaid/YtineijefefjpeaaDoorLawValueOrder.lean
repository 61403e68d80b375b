/-
  'brocadelaw11': the walk of the law. Conditions: those of each theorem.
-/
import Derived.Test.YtineijefefjpeaaDoorShown1
namespace Go.Proofs.YtineijefefjpeaaDoor
set_option linter.all false
open Go.RowKit
open Go.Lib (itoa formatBool decDigits)
theorem opN_add (a b : Int) : opN [43] a b = IntKind.i64.wrap (a + b) := rfl
theorem opN_sub (a b : Int) : opN [45] a b = IntKind.i64.wrap (a - b) := rfl
theorem opN_mul (a b : Int) : opN [42] a b = IntKind.i64.wrap (a * b) := rfl
theorem opN_div {a b : Int} (h : b ≠ 0) : opN [47] a b = IntKind.i64.wrap (a.tdiv b) := by simp [opN, opRes, h, intOf]
theorem opN_lt (a b : Int) : opN [60] a b = if a < b then 1 else 0 := by simp [opN, opRes, intOf]
theorem opN_eq (a b : Int) : opN [61] a b = if a = b then 1 else 0 := by simp [opN, opRes, intOf]
theorem wrap_k (x : Int) : ∃ k, IntKind.i64.wrap x = x + 18446744073709551616 * k := ⟨(IntKind.i64.wrap x - x) / 18446744073709551616, by rw [IntKind.wrap_i64]; omega⟩
theorem wrap_ka (x k : Int) : IntKind.i64.wrap (x + 18446744073709551616 * k) = IntKind.i64.wrap x := by simp only [IntKind.wrap_i64]; omega
theorem laws1 {a b : Int} (c : Int) (ha : InI64 a) : opN [43] b a = opN [43] a b ∧ opN [42] a b = opN [42] b a ∧ opN [45] (opN [43] a b) b = a ∧ opN [42] a (opN [43] b c) = opN [43] (opN [42] a b) (opN [42] a c) := by
  obtain ⟨h1, h2⟩ := ha
  simp only [opN_add, opN_sub, opN_mul]
  refine ⟨by rw [Int.add_comm], by rw [Int.mul_comm], ?_, ?_⟩
  · simp only [IntKind.wrap_i64]; omega
  · obtain ⟨k1, e1⟩ := wrap_k (b + c)
    obtain ⟨k2, e2⟩ := wrap_k (a * b)
    obtain ⟨k3, e3⟩ := wrap_k (a * c)
    rw [e1, e2, e3, Int.mul_add, Int.mul_add, Int.mul_left_comm, wrap_ka]
    rw [show a * b + 18446744073709551616 * k2 + (a * c + 18446744073709551616 * k3) = (a * b + a * c) + 18446744073709551616 * (k2 + k3) by omega, wrap_ka]
theorem laws2 (a b : Int) : opN [60] a b + opN [60] b a + opN [61] a b = 1 := by
  simp only [opN_lt, opN_eq]
  split <;> split <;> split <;> omega
theorem tmod_facts (a : Int) {b : Int} (h : b ≠ 0) : (a.tmod b).natAbs < b.natAbs ∧ (0 ≤ a → 0 ≤ a.tmod b) ∧ (a ≤ 0 → a.tmod b ≤ 0) := by
  refine ⟨?_, fun h => Int.tmod_nonneg b h, fun h0 => ?_⟩
  · rw [Int.natAbs_tmod]; exact Nat.mod_lt _ (by omega)
  · have := Int.tmod_nonneg b (a := -a) (by omega)
    rw [Int.neg_tmod] at this; omega
theorem laws3 {a b : Int} (ha : InI64 a) (hb : InI64 b) (h : b ≠ 0) (hn : ¬ (a = -9223372036854775808 ∧ b = -1)) :
    opN [45] a (opN [42] (opN [47] a b) b) = a.tmod b := by
  obtain ⟨h1, h2⟩ := ha
  have hq : InI64 (a.tdiv b) := by
    have e : (a.tdiv b).natAbs = a.natAbs / b.natAbs := Int.natAbs_tdiv a b
    have h3 : a.natAbs / b.natAbs ≤ a.natAbs := Nat.div_le_self _ _
    by_cases hb1 : b = -1
    · subst hb1
      rw [show a.tdiv (-1) = -a by rw [Int.tdiv_neg, Int.tdiv_one]]
      exact ⟨by omega, by omega⟩
    · by_cases hb2 : b = 1
      · subst hb2; rw [Int.tdiv_one]; exact ⟨h1, h2⟩
      · have h4 : 2 ≤ b.natAbs := by omega
        have h5 : a.natAbs / b.natAbs ≤ a.natAbs / 2 := Nat.div_le_div_left h4 (by omega)
        exact ⟨by omega, by omega⟩
  have hm : a.tdiv b * b = a - a.tmod b := by have := Int.tdiv_mul_add_tmod a b; omega
  obtain ⟨f1, f2, f3⟩ := tmod_facts a h
  obtain ⟨hb1, hb2⟩ := hb
  rw [opN_div h, wrap_in hq, opN_mul, hm]
  obtain ⟨k, e⟩ := wrap_k (a - a.tmod b)
  rw [opN_sub, e, show a - (a - a.tmod b + 18446744073709551616 * k) = a.tmod b + 18446744073709551616 * (-k) by omega, wrap_ka]
  exact wrap_in ⟨by omega, by omega⟩
theorem magI_eq {n : Int} (h : InI64 n) : magI n = (n.natAbs : Int) := by
  obtain ⟨h1, h2⟩ := h
  unfold magI; split <;> simp only [IntKind.wrap_u64] <;> omega

set_option maxHeartbeats 400000 in
theorem valueOrder_c {w : World} {m : Mem} {a : Int} {b : Int} {c : Int} (hA : Agree w m) (hT : Tab w) (ha : InI64 a) : FnV Tryd.prog 10 #[.int .i64 a, .int .i64 b, .int .i64 c] w m (fun _ _ v => v = .bool true) := by
  refine fn_enter (vs := [_, _, _]) Tryd.func10 rfl rfl rfl fun a0 hfr0 => ?_
  have hst0 := st_enter hA (loc_nil [] _ w m)
  have hM : MLe m m := MLe.refl m
  obtain ⟨ha1, ha2⟩ := ha
  refine seq_any fun K1 hK1 => ?_
  refine region_plain (fun h => by cases h) hst0 hfr0 (by kernel_rfl) (by kernel_rfl) (.cons rfl (ob_assign rfl) <|
      .nil) ?_
  intro a1 w1 m1 hst1 hle1 hk1
  have hfr1 := hk1.fr (T' := [(0, _), (1, _), (2, _), (6, _)]) (.old rfl rfl <| .old rfl rfl <| .old rfl rfl <| .new rfl <| .nil)
  replace hM := hM.trans hle1
  clear hst0 hfr0 hk1
  refine hK1 _ _ ?_; try clear hK1 K1
  refine seq_any fun K2 hK2 => ?_
  refine region_plain (fun h => by cases h) hst1 hfr1 (by kernel_rfl) (by kernel_rfl) (.cons rfl (ob_callE rfl (.nil) Tryd.call11 (fun w m hK => by have hle_ := KC.le hK; have hA := KC.agree hK; have hM := hM.trans hle_; have hT := tab_keep hT hK.st.ext; exact shown_c hA (by first | assumption | omega | simp_all))) <|
      .cons rfl (ob_assign rfl) <|
      .nil) ?_
  intro a2 w2 m2 hst2 hle2 hk2
  have hfr2 := hk2.fr (T' := [(0, _), (1, _), (2, _), (6, _), (7, _)]) (.old rfl rfl <| .old rfl rfl <| .old rfl rfl <| .old rfl rfl <| .new rfl <| .nil)
  replace hM := hM.trans hle2
  clear hst1 hfr1 hk2
  refine hK2 _ _ ?_; try clear hK2 K2
  refine seq_any fun K3 hK3 => ?_
  refine seq_any fun K4 hK4 => ?_
  refine region_plain (fun h => by cases h) hst2 hfr2 (by kernel_rfl) (by kernel_rfl) (.cons rfl (ob_move rfl) <|
      .cons rfl (ob_move rfl) <|
      .cons rfl (ob_callE rfl (.cons rfl <| .cons rfl <| .cons rfl <| .nil) Tryd.call22 (fun w m hK => by have hle_ := KC.le hK; have hA := KC.agree hK; have hM := hM.trans hle_; have hT := tab_keep hT hK.st.ext; exact numb_c hA)) <|
      .cons rfl (ob_eql rfl rfl) <|
      .cons rfl (ob_move rfl) <|
      .cons rfl (ob_move rfl) <|
      .cons rfl (ob_move rfl) <|
      .cons rfl (ob_callE rfl (.cons rfl <| .cons rfl <| .cons rfl <| .nil) Tryd.call22 (fun w m hK => by have hle_ := KC.le hK; have hA := KC.agree hK; have hM := hM.trans hle_; have hT := tab_keep hT hK.st.ext; exact numb_c hA)) <|
      .cons rfl (ob_eql rfl rfl) <|
      .cons rfl (ob_and rfl rfl rfl) <|
      .cons rfl (ob_move rfl) <|
      .cons rfl (ob_move rfl) <|
      .cons rfl (ob_move rfl) <|
      .cons rfl (ob_callE rfl (.cons rfl <| .cons rfl <| .cons rfl <| .nil) Tryd.call22 (fun w m hK => by have hle_ := KC.le hK; have hA := KC.agree hK; have hM := hM.trans hle_; have hT := tab_keep hT hK.st.ext; exact numb_c hA)) <|
      .cons rfl (ob_neq rfl rfl) <|
      .cons rfl (ob_and rfl rfl rfl) <|
      .cons rfl (ob_move rfl) <|
      .cons rfl (ob_move rfl) <|
      .cons rfl (ob_move rfl) <|
      .cons rfl (ob_callE rfl (.cons rfl <| .cons rfl <| .cons rfl <| .nil) Tryd.call22 (fun w m hK => by have hle_ := KC.le hK; have hA := KC.agree hK; have hM := hM.trans hle_; have hT := tab_keep hT hK.st.ext; exact numb_c hA)) <|
      .cons rfl (ob_neq rfl rfl) <|
      .cons rfl (ob_or rfl rfl rfl) <|
      .cons rfl (ob_move rfl) <|
      .cons rfl (ob_move rfl) <|
      .cons rfl (ob_move rfl) <|
      .cons rfl (ob_callE rfl (.cons rfl <| .cons rfl <| .cons rfl <| .nil) Tryd.call22 (fun w m hK => by have hle_ := KC.le hK; have hA := KC.agree hK; have hM := hM.trans hle_; have hT := tab_keep hT hK.st.ext; exact numb_c hA)) <|
      .cons rfl (ob_neq rfl rfl) <|
      .cons rfl (ob_or rfl rfl rfl) <|
      .nil) ?_
  intro a3 w3 m3 hst3 hle3 hk3
  have hfr3 := hk3.fr (T' := [(0, _), (1, _), (2, _), (6, _), (7, _), (37, _)]) (.old rfl rfl <| .old rfl rfl <| .old rfl rfl <| .old rfl rfl <| .old rfl rfl <| .new rfl <| .nil)
  replace hM := hM.trans hle3
  clear hst2 hfr2 hk3
  refine hK4 _ _ ?_; try clear hK4 K4
  refine cond_any hfr3 rfl rfl (fun hb37 => ?_) (fun hb37 => ?_)
  · exfalso; simp only [opN_lt, opN_eq] at hb37; revert hb37; repeat split
    all_goals simp; try omega
  · try simp only [Bool.not_eq_true', Bool.not_eq_false', decide_eq_true_eq, decide_eq_false_iff_not, Bool.and_eq_true, Bool.or_eq_true, Bool.and_eq_false_iff, Bool.or_eq_false_iff, Bool.not_not, u8_eq] at hb37
    refine wp_skip ?_
    refine hK3 _ _ ?_; try clear hK3 K3
    refine seq_any fun K5 hK5 => ?_
    refine region_plain (fun h => by cases h) hst3 hfr3 (by kernel_rfl) (by kernel_rfl) (.cons rfl (ob_move rfl) <|
        .cons rfl (ob_callE rfl (.cons rfl <| .cons rfl <| .cons rfl <| .nil) Tryd.call22 (fun w m hK => by have hle_ := KC.le hK; have hA := KC.agree hK; have hM := hM.trans hle_; have hT := tab_keep hT hK.st.ext; exact numb_c hA)) <|
        .cons rfl (ob_assign rfl) <|
        .nil) ?_
    intro a4 w4 m4 hst4 hle4 hk4
    have hfr4 := hk4.fr (T' := [(0, _), (1, _), (2, _), (6, _), (7, _), (8, _)]) (.old rfl rfl <| .old rfl rfl <| .old rfl rfl <| .old rfl rfl <| .old rfl rfl <| .new rfl <| .nil)
    replace hM := hM.trans hle4
    clear hst3 hfr3 hk4
    refine hK5 _ _ ?_; try clear hK5 K5
    refine seq_any fun K6 hK6 => ?_
    refine seq_any fun K7 hK7 => ?_
    refine region_plain (fun h => by cases h) hst4 hfr4 (by kernel_rfl) (by kernel_rfl) (.cons rfl (ob_move rfl) <|
        .cons rfl (ob_eql rfl rfl) <|
        .nil) ?_
    intro a5 w5 m5 hst5 hle5 hk5
    have hfr5 := hk5.fr (T' := [(0, _), (1, _), (2, _), (6, _), (7, _), (8, _), (41, _)]) (.old rfl rfl <| .old rfl rfl <| .old rfl rfl <| .old rfl rfl <| .old rfl rfl <| .old rfl rfl <| .new rfl <| .nil)
    replace hM := hM.trans hle5
    clear hst4 hfr4 hk5
    refine hK7 _ _ ?_; try clear hK7 K7
    refine cond_any hfr5 rfl rfl (fun hb41 => ?_) (fun hb41 => ?_)
    · try simp only [Bool.not_eq_true', Bool.not_eq_false', decide_eq_true_eq, decide_eq_false_iff_not, Bool.and_eq_true, Bool.or_eq_true, Bool.and_eq_false_iff, Bool.or_eq_false_iff, Bool.not_not, u8_eq] at hb41
      refine seq_any fun K8 hK8 => ?_
      refine region_plain (fun h => by cases h) hst5 hfr5 (by kernel_rfl) (by kernel_rfl) (.cons rfl (ob_move rfl) <|
          .cons rfl (ob_move rfl) <|
          .cons rfl (ob_move rfl) <|
          .cons rfl (ob_eql rfl rfl) <|
          .cons rfl (ob_and rfl rfl rfl) <|
          .cons rfl (ob_move rfl) <|
          .cons rfl (ob_move rfl) <|
          .cons rfl (ob_move rfl) <|
          .cons rfl (ob_callE rfl (.cons rfl <| .cons rfl <| .cons rfl <| .nil) Tryd.call22 (fun w m hK => by have hle_ := KC.le hK; have hA := KC.agree hK; have hM := hM.trans hle_; have hT := tab_keep hT hK.st.ext; exact numb_c hA)) <|
          .cons rfl (ob_eql rfl rfl) <|
          .cons rfl (ob_and rfl rfl rfl) <|
          .cons rfl (ob_assign rfl) <|
          .nil) ?_
      intro a6 w6 m6 hst6 hle6 hk6
      have hfr6 := hk6.fr (T' := [(0, _), (1, _), (2, _), (7, _), (8, _), (6, _)]) (.old rfl rfl <| .old rfl rfl <| .old rfl rfl <| .old rfl rfl <| .old rfl rfl <| .new rfl <| .nil)
      replace hM := hM.trans hle6
      clear hst5 hfr5 hk6
      refine hK8 _ _ ?_; try clear hK8 K8
      refine wp_ret ?_
      repeat (with_reducible first | refine then_ret ?_ | refine block_ret ?_)
      exact fn_ret hst6 hfr6 rfl (.tmp rfl <| .nil) (by subst hb41; refine congrArg Value.bool ?_; decide)
    · try simp only [Bool.not_eq_true', Bool.not_eq_false', decide_eq_true_eq, decide_eq_false_iff_not, Bool.and_eq_true, Bool.or_eq_true, Bool.and_eq_false_iff, Bool.or_eq_false_iff, Bool.not_not, u8_eq] at hb41
      refine wp_skip ?_
      refine hK6 _ _ ?_; try clear hK6 K6
      refine seq_any fun K10 hK10 => ?_
      refine region_plain (fun h => by cases h) hst5 hfr5 (by kernel_rfl) (by kernel_rfl) (.cons rfl (ob_move rfl) <|
          .cons rfl (ob_move rfl) <|
          .cons rfl (ob_move rfl) <|
          .cons rfl (ob_move rfl) <|
          .cons rfl (ob_callE rfl (.cons rfl <| .cons rfl <| .cons rfl <| .nil) Tryd.call22 (fun w m hK => by have hle_ := KC.le hK; have hA := KC.agree hK; have hM := hM.trans hle_; have hT := tab_keep hT hK.st.ext; exact numb_c hA)) <|
          .cons rfl (ob_eql rfl rfl) <|
          .cons rfl (ob_and rfl rfl rfl) <|
          .cons rfl (ob_move rfl) <|
          .cons rfl (ob_move rfl) <|
          .cons rfl (ob_move rfl) <|
          .cons rfl (ob_callE rfl (.cons rfl <| .cons rfl <| .cons rfl <| .nil) Tryd.call22 (fun w m hK => by have hle_ := KC.le hK; have hA := KC.agree hK; have hM := hM.trans hle_; have hT := tab_keep hT hK.st.ext; exact numb_c hA)) <|
          .cons rfl (ob_eql rfl rfl) <|
          .cons rfl (ob_and rfl rfl rfl) <|
          .cons rfl (ob_assign rfl) <|
          .nil) ?_
      intro a6 w6 m6 hst6 hle6 hk6
      have hfr6 := hk6.fr (T' := [(0, _), (1, _), (2, _), (7, _), (8, _), (6, _)]) (.old rfl rfl <| .old rfl rfl <| .old rfl rfl <| .old rfl rfl <| .old rfl rfl <| .new rfl <| .nil)
      replace hM := hM.trans hle6
      clear hst5 hfr5 hk6
      refine hK10 _ _ ?_; try clear hK10 K10
      refine wp_ret ?_
      repeat (with_reducible first | refine then_ret ?_ | refine block_ret ?_)
      exact fn_ret hst6 hfr6 rfl (.tmp rfl <| .nil) (by have hn : opN [43] a 1 = a + 1 := wrap_in ⟨by omega, by omega⟩; refine congrArg Value.bool ?_; rw [hn, opN_lt, opN_eq, if_pos (by omega), if_neg (by omega)]; rfl)

end Go.Proofs.YtineijefefjpeaaDoor
