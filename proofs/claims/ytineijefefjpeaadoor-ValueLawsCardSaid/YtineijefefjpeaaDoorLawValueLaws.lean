/-
  'brocadelaw11': the walk of the law. Conditions: those of each theorem.
-/
import Derived.Test.YtineijefefjpeaaDoorShown1
namespace Go.Proofs.YtineijefefjpeaaDoor
set_option linter.all false
open Go.RowKit
open Go.Lib (itoa formatBool decDigits)
theorem opN_add (a b : Int) : opN [43] a b = IntKind.i64.wrap (a + b) := rfl
theorem opN_sub (a b : Int) : opN [45] a b = IntKind.i64.wrap (a - b) := rfl
theorem opN_mul (a b : Int) : opN [42] a b = IntKind.i64.wrap (a * b) := rfl
theorem opN_div {a b : Int} (h : b ≠ 0) : opN [47] a b = IntKind.i64.wrap (a.tdiv b) := by simp [opN, opRes, h, intOf]
theorem opN_lt (a b : Int) : opN [60] a b = if a < b then 1 else 0 := by simp [opN, opRes, intOf]
theorem opN_eq (a b : Int) : opN [61] a b = if a = b then 1 else 0 := by simp [opN, opRes, intOf]
theorem wrap_k (x : Int) : ∃ k, IntKind.i64.wrap x = x + 18446744073709551616 * k := ⟨(IntKind.i64.wrap x - x) / 18446744073709551616, by rw [IntKind.wrap_i64]; omega⟩
theorem wrap_ka (x k : Int) : IntKind.i64.wrap (x + 18446744073709551616 * k) = IntKind.i64.wrap x := by simp only [IntKind.wrap_i64]; omega
theorem laws1 {a b : Int} (c : Int) (ha : InI64 a) : opN [43] b a = opN [43] a b ∧ opN [42] a b = opN [42] b a ∧ opN [45] (opN [43] a b) b = a ∧ opN [42] a (opN [43] b c) = opN [43] (opN [42] a b) (opN [42] a c) := by
  obtain ⟨h1, h2⟩ := ha
  simp only [opN_add, opN_sub, opN_mul]
  refine ⟨by rw [Int.add_comm], by rw [Int.mul_comm], ?_, ?_⟩
  · simp only [IntKind.wrap_i64]; omega
  · obtain ⟨k1, e1⟩ := wrap_k (b + c)
    obtain ⟨k2, e2⟩ := wrap_k (a * b)
    obtain ⟨k3, e3⟩ := wrap_k (a * c)
    rw [e1, e2, e3, Int.mul_add, Int.mul_add, Int.mul_left_comm, wrap_ka]
    rw [show a * b + 18446744073709551616 * k2 + (a * c + 18446744073709551616 * k3) = (a * b + a * c) + 18446744073709551616 * (k2 + k3) by omega, wrap_ka]
theorem laws2 (a b : Int) : opN [60] a b + opN [60] b a + opN [61] a b = 1 := by
  simp only [opN_lt, opN_eq]
  split <;> split <;> split <;> omega
theorem tmod_facts (a : Int) {b : Int} (h : b ≠ 0) : (a.tmod b).natAbs < b.natAbs ∧ (0 ≤ a → 0 ≤ a.tmod b) ∧ (a ≤ 0 → a.tmod b ≤ 0) := by
  refine ⟨?_, fun h => Int.tmod_nonneg b h, fun h0 => ?_⟩
  · rw [Int.natAbs_tmod]; exact Nat.mod_lt _ (by omega)
  · have := Int.tmod_nonneg b (a := -a) (by omega)
    rw [Int.neg_tmod] at this; omega
theorem laws3 {a b : Int} (ha : InI64 a) (hb : InI64 b) (h : b ≠ 0) (hn : ¬ (a = -9223372036854775808 ∧ b = -1)) :
    opN [45] a (opN [42] (opN [47] a b) b) = a.tmod b := by
  obtain ⟨h1, h2⟩ := ha
  have hq : InI64 (a.tdiv b) := by
    have e : (a.tdiv b).natAbs = a.natAbs / b.natAbs := Int.natAbs_tdiv a b
    have h3 : a.natAbs / b.natAbs ≤ a.natAbs := Nat.div_le_self _ _
    by_cases hb1 : b = -1
    · subst hb1
      rw [show a.tdiv (-1) = -a by rw [Int.tdiv_neg, Int.tdiv_one]]
      exact ⟨by omega, by omega⟩
    · by_cases hb2 : b = 1
      · subst hb2; rw [Int.tdiv_one]; exact ⟨h1, h2⟩
      · have h4 : 2 ≤ b.natAbs := by omega
        have h5 : a.natAbs / b.natAbs ≤ a.natAbs / 2 := Nat.div_le_div_left h4 (by omega)
        exact ⟨by omega, by omega⟩
  have hm : a.tdiv b * b = a - a.tmod b := by have := Int.tdiv_mul_add_tmod a b; omega
  obtain ⟨f1, f2, f3⟩ := tmod_facts a h
  obtain ⟨hb1, hb2⟩ := hb
  rw [opN_div h, wrap_in hq, opN_mul, hm]
  obtain ⟨k, e⟩ := wrap_k (a - a.tmod b)
  rw [opN_sub, e, show a - (a - a.tmod b + 18446744073709551616 * k) = a.tmod b + 18446744073709551616 * (-k) by omega, wrap_ka]
  exact wrap_in ⟨by omega, by omega⟩
theorem magI_eq {n : Int} (h : InI64 n) : magI n = (n.natAbs : Int) := by
  obtain ⟨h1, h2⟩ := h
  unfold magI; split <;> simp only [IntKind.wrap_u64] <;> omega

set_option maxHeartbeats 400000 in
theorem valueLaws_c {w : World} {m : Mem} {a : Int} {b : Int} {c : Int} (hA : Agree w m) (hT : Tab w) (ha : InI64 a) (hb : InI64 b) : FnV Tryd.prog 5 #[.int .i64 a, .int .i64 b, .int .i64 c] w m (fun _ _ v => v = .bool true) := by
  refine fn_enter (vs := [_, _, _]) Tryd.func5 rfl rfl rfl fun a0 hfr0 => ?_
  have hst0 := st_enter hA (loc_nil [] _ w m)
  have hM : MLe m m := MLe.refl m
  obtain ⟨l1, l2, l3, l4⟩ := laws1 (b := b) c ha
  have l5 := laws2 a b
  obtain ⟨kk, nn, ek⟩ := opRes_shape [47] a b
  have h60 := opN_lt a b
  have h60b := opN_lt b a
  have h61 := opN_eq a b
  have h01 : ∀ x y : Int, 0 ≤ opN [60] x y ∧ opN [60] x y ≤ 1 := fun x y => by rw [opN_lt]; split <;> omega
  have h1a := h01 a b
  have h1b := h01 b a
  have h61b : 0 ≤ opN [61] a b ∧ opN [61] a b ≤ 1 := by rw [opN_eq]; split <;> omega
  refine seq_any fun K1 hK1 => ?_
  refine region_plain (fun h => by cases h) hst0 hfr0 (by kernel_rfl) (by kernel_rfl) (.cons rfl (ob_assign rfl) <|
      .nil) ?_
  intro a1 w1 m1 hst1 hle1 hk1
  have hfr1 := hk1.fr (T' := [(0, _), (1, _), (2, _), (6, _)]) (.old rfl rfl <| .old rfl rfl <| .old rfl rfl <| .new rfl <| .nil)
  replace hM := hM.trans hle1
  clear hst0 hfr0 hk1
  refine hK1 _ _ ?_; try clear hK1 K1
  refine seq_any fun K2 hK2 => ?_
  refine region_plain (fun h => by cases h) hst1 hfr1 (by kernel_rfl) (by kernel_rfl) (.cons rfl (ob_callE rfl (.nil) Tryd.call11 (fun w m hK => by have hle_ := KC.le hK; have hA := KC.agree hK; have hM := hM.trans hle_; have hT := tab_keep hT hK.st.ext; exact shown_c hA (by first | assumption | omega | simp_all))) <|
      .cons rfl (ob_assign rfl) <|
      .nil) ?_
  intro a2 w2 m2 hst2 hle2 hk2
  have hfr2 := hk2.fr (T' := [(0, _), (1, _), (2, _), (6, _), (7, _)]) (.old rfl rfl <| .old rfl rfl <| .old rfl rfl <| .old rfl rfl <| .new rfl <| .nil)
  replace hM := hM.trans hle2
  clear hst1 hfr1 hk2
  refine hK2 _ _ ?_; try clear hK2 K2
  refine seq_any fun K3 hK3 => ?_
  refine region_plain (fun h => by cases h) hst2 hfr2 (by kernel_rfl) (by kernel_rfl) (.cons rfl (ob_move rfl) <|
      .cons rfl (ob_move rfl) <|
      .cons rfl (ob_callE rfl (.cons rfl <| .cons rfl <| .cons rfl <| .nil) Tryd.call22 (fun w m hK => by have hle_ := KC.le hK; have hA := KC.agree hK; have hM := hM.trans hle_; have hT := tab_keep hT hK.st.ext; exact numb_c hA)) <|
      .cons rfl (ob_assign rfl) <|
      .nil) ?_
  intro a3 w3 m3 hst3 hle3 hk3
  have hfr3 := hk3.fr (T' := [(0, _), (1, _), (2, _), (6, _), (7, _), (8, _)]) (.old rfl rfl <| .old rfl rfl <| .old rfl rfl <| .old rfl rfl <| .old rfl rfl <| .new rfl <| .nil)
  replace hM := hM.trans hle3
  clear hst2 hfr2 hk3
  refine hK3 _ _ ?_; try clear hK3 K3
  refine seq_any fun K4 hK4 => ?_
  refine region_plain (fun h => by cases h) hst3 hfr3 (by kernel_rfl) (by kernel_rfl) (.cons rfl (ob_move rfl) <|
      .cons rfl (ob_move rfl) <|
      .cons rfl (ob_callE rfl (.cons rfl <| .cons rfl <| .cons rfl <| .nil) Tryd.call22 (fun w m hK => by have hle_ := KC.le hK; have hA := KC.agree hK; have hM := hM.trans hle_; have hT := tab_keep hT hK.st.ext; exact numb_c hA)) <|
      .cons rfl (ob_move rfl) <|
      .cons rfl (ob_eql rfl rfl) <|
      .cons rfl (ob_move rfl) <|
      .cons rfl (ob_move rfl) <|
      .cons rfl (ob_move rfl) <|
      .cons rfl (ob_callE rfl (.cons rfl <| .cons rfl <| .cons rfl <| .nil) Tryd.call22 (fun w m hK => by have hle_ := KC.le hK; have hA := KC.agree hK; have hM := hM.trans hle_; have hT := tab_keep hT hK.st.ext; exact numb_c hA)) <|
      .cons rfl (ob_move rfl) <|
      .cons rfl (ob_move rfl) <|
      .cons rfl (ob_callE rfl (.cons rfl <| .cons rfl <| .cons rfl <| .nil) Tryd.call22 (fun w m hK => by have hle_ := KC.le hK; have hA := KC.agree hK; have hM := hM.trans hle_; have hT := tab_keep hT hK.st.ext; exact numb_c hA)) <|
      .cons rfl (ob_eql rfl rfl) <|
      .cons rfl (ob_and rfl rfl rfl) <|
      .cons rfl (ob_move rfl) <|
      .cons rfl (ob_move rfl) <|
      .cons rfl (ob_move rfl) <|
      .cons rfl (ob_callE rfl (.cons rfl <| .cons rfl <| .cons rfl <| .nil) Tryd.call22 (fun w m hK => by have hle_ := KC.le hK; have hA := KC.agree hK; have hM := hM.trans hle_; have hT := tab_keep hT hK.st.ext; exact numb_c hA)) <|
      .cons rfl (ob_move rfl) <|
      .cons rfl (ob_eql rfl rfl) <|
      .cons rfl (ob_and rfl rfl rfl) <|
      .cons rfl (ob_move rfl) <|
      .cons rfl (ob_move rfl) <|
      .cons rfl (ob_move rfl) <|
      .cons rfl (ob_move rfl) <|
      .cons rfl (ob_callE rfl (.cons rfl <| .cons rfl <| .cons rfl <| .nil) Tryd.call22 (fun w m hK => by have hle_ := KC.le hK; have hA := KC.agree hK; have hM := hM.trans hle_; have hT := tab_keep hT hK.st.ext; exact numb_c hA)) <|
      .cons rfl (ob_callE rfl (.cons rfl <| .cons rfl <| .cons rfl <| .nil) Tryd.call22 (fun w m hK => by have hle_ := KC.le hK; have hA := KC.agree hK; have hM := hM.trans hle_; have hT := tab_keep hT hK.st.ext; exact numb_c hA)) <|
      .cons rfl (ob_move rfl) <|
      .cons rfl (ob_move rfl) <|
      .cons rfl (ob_callE rfl (.cons rfl <| .cons rfl <| .cons rfl <| .nil) Tryd.call22 (fun w m hK => by have hle_ := KC.le hK; have hA := KC.agree hK; have hM := hM.trans hle_; have hT := tab_keep hT hK.st.ext; exact numb_c hA)) <|
      .cons rfl (ob_move rfl) <|
      .cons rfl (ob_move rfl) <|
      .cons rfl (ob_callE rfl (.cons rfl <| .cons rfl <| .cons rfl <| .nil) Tryd.call22 (fun w m hK => by have hle_ := KC.le hK; have hA := KC.agree hK; have hM := hM.trans hle_; have hT := tab_keep hT hK.st.ext; exact numb_c hA)) <|
      .cons rfl (ob_callE rfl (.cons rfl <| .cons rfl <| .cons rfl <| .nil) Tryd.call22 (fun w m hK => by have hle_ := KC.le hK; have hA := KC.agree hK; have hM := hM.trans hle_; have hT := tab_keep hT hK.st.ext; exact numb_c hA)) <|
      .cons rfl (ob_eql rfl rfl) <|
      .cons rfl (ob_and rfl rfl rfl) <|
      .cons rfl (ob_assign rfl) <|
      .nil) ?_
  intro a4 w4 m4 hst4 hle4 hk4
  have hfr4 := hk4.fr (T' := [(0, _), (1, _), (2, _), (6, _), (7, _), (8, _), (9, _)]) (.old rfl rfl <| .old rfl rfl <| .old rfl rfl <| .old rfl rfl <| .old rfl rfl <| .old rfl rfl <| .new rfl <| .nil)
  replace hM := hM.trans hle4
  clear hst3 hfr3 hk4
  refine hK4 _ _ ?_; try clear hK4 K4
  refine seq_any fun K5 hK5 => ?_
  refine region_plain (fun h => by cases h) hst4 hfr4 (by kernel_rfl) (by kernel_rfl) (.cons rfl (ob_move rfl) <|
      .cons rfl (ob_move rfl) <|
      .cons rfl (ob_callE rfl (.cons rfl <| .cons rfl <| .cons rfl <| .nil) Tryd.call22 (fun w m hK => by have hle_ := KC.le hK; have hA := KC.agree hK; have hM := hM.trans hle_; have hT := tab_keep hT hK.st.ext; exact numb_c hA)) <|
      .cons rfl (ob_assign rfl) <|
      .nil) ?_
  intro a5 w5 m5 hst5 hle5 hk5
  have hfr5 := hk5.fr (T' := [(0, _), (1, _), (2, _), (6, _), (7, _), (8, _), (9, _), (10, _)]) (.old rfl rfl <| .old rfl rfl <| .old rfl rfl <| .old rfl rfl <| .old rfl rfl <| .old rfl rfl <| .old rfl rfl <| .new rfl <| .nil)
  replace hM := hM.trans hle5
  clear hst4 hfr4 hk5
  refine hK5 _ _ ?_; try clear hK5 K5
  refine seq_any fun K6 hK6 => ?_
  refine region_plain (fun h => by cases h) hst5 hfr5 (by kernel_rfl) (by kernel_rfl) (.cons rfl (ob_move rfl) <|
      .cons rfl (ob_move rfl) <|
      .cons rfl (ob_callE rfl (.cons rfl <| .cons rfl <| .cons rfl <| .nil) Tryd.call22 (fun w m hK => by have hle_ := KC.le hK; have hA := KC.agree hK; have hM := hM.trans hle_; have hT := tab_keep hT hK.st.ext; exact numb_c hA)) <|
      .cons rfl (ob_assign rfl) <|
      .nil) ?_
  intro a6 w6 m6 hst6 hle6 hk6
  have hfr6 := hk6.fr (T' := [(0, _), (1, _), (2, _), (6, _), (7, _), (8, _), (9, _), (10, _), (11, _)]) (.old rfl rfl <| .old rfl rfl <| .old rfl rfl <| .old rfl rfl <| .old rfl rfl <| .old rfl rfl <| .old rfl rfl <| .old rfl rfl <| .new rfl <| .nil)
  replace hM := hM.trans hle6
  clear hst5 hfr5 hk6
  refine hK6 _ _ ?_; try clear hK6 K6
  refine seq_any fun K7 hK7 => ?_
  refine region_plain (fun h => by cases h) hst6 hfr6 (by kernel_rfl) (by kernel_rfl) (.cons rfl (ob_move rfl) <|
      .cons rfl (ob_move rfl) <|
      .cons rfl (ob_callE rfl (.cons rfl <| .cons rfl <| .cons rfl <| .nil) Tryd.call22 (fun w m hK => by have hle_ := KC.le hK; have hA := KC.agree hK; have hM := hM.trans hle_; have hT := tab_keep hT hK.st.ext; exact numb_c hA)) <|
      .cons rfl (ob_assign rfl) <|
      .nil) ?_
  intro a7 w7 m7 hst7 hle7 hk7
  have hfr7 := hk7.fr (T' := [(0, _), (1, _), (2, _), (6, _), (7, _), (8, _), (9, _), (10, _), (11, _), (12, _)]) (.old rfl rfl <| .old rfl rfl <| .old rfl rfl <| .old rfl rfl <| .old rfl rfl <| .old rfl rfl <| .old rfl rfl <| .old rfl rfl <| .old rfl rfl <| .new rfl <| .nil)
  replace hM := hM.trans hle7
  clear hst6 hfr6 hk7
  refine hK7 _ _ ?_; try clear hK7 K7
  refine seq_any fun K8 hK8 => ?_
  refine seq_any fun K9 hK9 => ?_
  refine region_plain (fun h => by cases h) hst7 hfr7 (by kernel_rfl) (by kernel_rfl) (.cons rfl (ob_move rfl) <|
      .cons rfl (ob_move rfl) <|
      .cons rfl (ob_add rfl rfl ⟨by omega, by omega⟩) <|
      .cons rfl (ob_move rfl) <|
      .cons rfl (ob_add rfl rfl ⟨by omega, by omega⟩) <|
      .cons rfl (ob_neq rfl rfl) <|
      .cons rfl (ob_move rfl) <|
      .cons rfl (ob_move rfl) <|
      .cons rfl (ob_not rfl) <|
      .cons rfl (ob_or rfl rfl rfl) <|
      .nil) ?_
  intro a8 w8 m8 hst8 hle8 hk8
  have hfr8 := hk8.fr (T' := [(0, _), (1, _), (2, _), (6, _), (7, _), (8, _), (9, _), (10, _), (11, _), (12, _), (76, _)]) (.old rfl rfl <| .old rfl rfl <| .old rfl rfl <| .old rfl rfl <| .old rfl rfl <| .old rfl rfl <| .old rfl rfl <| .old rfl rfl <| .old rfl rfl <| .old rfl rfl <| .new rfl <| .nil)
  replace hM := hM.trans hle8
  clear hst7 hfr7 hk8
  refine hK9 _ _ ?_; try clear hK9 K9
  refine cond_any hfr8 rfl rfl (fun hb76 => ?_) (fun hb76 => ?_)
  · exfalso; simp only [Bool.or_eq_true, Bool.not_eq_true', decide_eq_false_iff_not] at hb76
    rcases hb76 with h | h
    · exact h l5
    · rw [decide_eq_true l1, decide_eq_true l2, decide_eq_true l3, decide_eq_true l4] at h; simp at h
  · try simp only [Bool.not_eq_true', Bool.not_eq_false', decide_eq_true_eq, decide_eq_false_iff_not, Bool.and_eq_true, Bool.or_eq_true, Bool.and_eq_false_iff, Bool.or_eq_false_iff, Bool.not_not, u8_eq] at hb76
    refine wp_skip ?_
    refine hK8 _ _ ?_; try clear hK8 K8
    refine seq_any fun K10 hK10 => ?_
    replace hst8 := hst8.more (r := .free) trivial List.nodup_nil (by simp [Res.blocks])
    refine region_any (tch := [(6, 0, (fun v => .blk v _)), (7, 0, (fun v => .blk v _))]) (fun h => by cases h) hst8 hfr8 (by kernel_rfl) (by kernel_rfl) (by kernel_rfl) (.cons rfl (ob_move rfl) <|
        .cons rfl (ob_move rfl) <|
        .cons rfl (ob_callE rfl (.cons rfl <| .cons rfl <| .cons rfl <| .nil) Tryd.call20 (fun w m hK => by have hle_ := KC.le hK; have hA := KC.agree hK; have hM := hM.trans hle_; have hT := tab_keep hT hK.st.ext; exact (show FnV Tryd.prog _ _ _ _ (fun _ _ v => v = .tuple #[Vl kk nn [] nilK, .bool (opRes [47] a b).2]) from by rw [← ek]; exact op_c hA))) <|
        .cons rfl (ob_move rfl) <|
        .cons rfl (ob_extract rfl rfl) <|
        .cons rfl (ob_extract rfl rfl) <|
        .consT rfl rfl (fun _ => rfl) rfl (ob_allocL Tryd.zeroValue24 rfl) <|
        .consT rfl rfl (fun _ => rfl) rfl (ob_imgT 13 rfl rfl rfl fun y13 => ob_storeF rfl rfl rfl rfl Tryd.sizeOf24 rfl rfl rfl) <|
        .cons rfl (ob_assign rfl) <|
        .nil) ?_
    intro a9 w9 m9 hst9 hle9 hk9
    have hfr9 := hk9.fr (T' := [(0, _), (1, _), (2, _), (6, _), (7, _), (8, _), (9, _), (10, _), (11, _), (12, _), (14, _)]) (.old rfl rfl <| .old rfl rfl <| .old rfl rfl <| .old rfl rfl <| .old rfl rfl <| .old rfl rfl <| .old rfl rfl <| .old rfl rfl <| .old rfl rfl <| .old rfl rfl <| .new rfl <| .nil)
    obtain ⟨g11, e11, _⟩ := hk9.ex 13 rfl
    replace hfr9 := hfr9.cons e11
    replace hst9 := hst9.fin (L' := [_]) (.cons e11 <| .cons e11 <| .nil)
    replace hM := hM.trans hle9
    clear hst8 hfr8 hk9
    refine hK10 _ _ ?_; try clear hK10 K10
    refine seq_any fun K12 hK12 => ?_
    refine seq_any fun K13 hK13 => ?_
    refine region_plain (fun h => by cases h) hst9 hfr9 (by kernel_rfl) (by kernel_rfl) (.cons rfl (ob_move rfl) <|
        .cons rfl (ob_eql rfl rfl) <|
        .nil) ?_
    intro a10 w10 m10 hst10 hle10 hk10
    have hfr10 := hk10.fr (T' := [(0, _), (1, _), (2, _), (6, _), (7, _), (8, _), (9, _), (10, _), (11, _), (12, _), (14, _), (84, _)]) (.old rfl rfl <| .old rfl rfl <| .old rfl rfl <| .old rfl rfl <| .old rfl rfl <| .old rfl rfl <| .old rfl rfl <| .old rfl rfl <| .old rfl rfl <| .old rfl rfl <| .old rfl rfl <| .new rfl <| .nil)
    replace hM := hM.trans hle10
    clear hst9 hfr9 hk10
    refine hK13 _ _ ?_; try clear hK13 K13
    refine cond_any hfr10 rfl rfl (fun hb84 => ?_) (fun hb84 => ?_)
    · try simp only [Bool.not_eq_true', Bool.not_eq_false', decide_eq_true_eq, decide_eq_false_iff_not, Bool.and_eq_true, Bool.or_eq_true, Bool.and_eq_false_iff, Bool.or_eq_false_iff, Bool.not_not, u8_eq] at hb84
      refine seq_any fun K14 hK14 => ?_
      refine region_plain (fun h => by cases h) hst10 hfr10 (by kernel_rfl) (by kernel_rfl) (.cons rfl (ob_move rfl) <|
          .cons rfl (ob_move rfl) <|
          .cons rfl (ob_move rfl) <|
          .cons rfl (ob_not rfl) <|
          .cons rfl (ob_and rfl rfl rfl) <|
          .cons rfl (ob_assign rfl) <|
          .nil) ?_
      intro a11 w11 m11 hst11 hle11 hk11
      have hfr11 := hk11.fr (T' := [(0, _), (1, _), (2, _), (7, _), (8, _), (9, _), (10, _), (11, _), (12, _), (14, _), (6, _)]) (.old rfl rfl <| .old rfl rfl <| .old rfl rfl <| .old rfl rfl <| .old rfl rfl <| .old rfl rfl <| .old rfl rfl <| .old rfl rfl <| .old rfl rfl <| .old rfl rfl <| .new rfl <| .nil)
      replace hM := hM.trans hle11
      clear hst10 hfr10 hk11
      refine hK14 _ _ ?_; try clear hK14 K14
      refine wp_ret ?_
      repeat (with_reducible first | refine then_ret ?_ | refine block_ret ?_)
      exact fn_ret hst11 hfr11 rfl (.tmp rfl <| .nil) (by subst hb84; rfl)
    · try simp only [Bool.not_eq_true', Bool.not_eq_false', decide_eq_true_eq, decide_eq_false_iff_not, Bool.and_eq_true, Bool.or_eq_true, Bool.and_eq_false_iff, Bool.or_eq_false_iff, Bool.not_not, u8_eq] at hb84
      refine wp_skip ?_
      refine hK12 _ _ ?_; try clear hK12 K12
      refine seq_any fun K16 hK16 => ?_
      refine region_plain (fun h => by cases h) hst10 hfr10 (by kernel_rfl) (by kernel_rfl) (.cons rfl (ob_move rfl) <|
          .cons rfl (ob_move rfl) <|
          .cons rfl (ob_callE rfl (.cons rfl <| .cons rfl <| .cons rfl <| .nil) Tryd.call22 (fun w m hK => by have hle_ := KC.le hK; have hA := KC.agree hK; have hM := hM.trans hle_; have hT := tab_keep hT hK.st.ext; exact numb_c hA)) <|
          .cons rfl (ob_assign rfl) <|
          .nil) ?_
      intro a11 w11 m11 hst11 hle11 hk11
      have hfr11 := hk11.fr (T' := [(0, _), (1, _), (2, _), (6, _), (7, _), (8, _), (9, _), (10, _), (11, _), (12, _), (14, _), (15, _)]) (.old rfl rfl <| .old rfl rfl <| .old rfl rfl <| .old rfl rfl <| .old rfl rfl <| .old rfl rfl <| .old rfl rfl <| .old rfl rfl <| .old rfl rfl <| .old rfl rfl <| .old rfl rfl <| .new rfl <| .nil)
      replace hM := hM.trans hle11
      clear hst10 hfr10 hk11
      refine hK16 _ _ ?_; try clear hK16 K16
      refine seq_any fun K17 hK17 => ?_
      refine region_plain (fun h => by cases h) hst11 hfr11 (by kernel_rfl) (by kernel_rfl) (.cons rfl (ob_move rfl) <|
          .cons rfl (ob_move rfl) <|
          .cons rfl (ob_move rfl) <|
          .cons rfl (ob_callE rfl (.cons rfl <| .cons rfl <| .cons rfl <| .nil) Tryd.call22 (fun w m hK => by have hle_ := KC.le hK; have hA := KC.agree hK; have hM := hM.trans hle_; have hT := tab_keep hT hK.st.ext; exact numb_c hA)) <|
          .cons rfl (ob_callE rfl (.cons rfl <| .cons rfl <| .cons rfl <| .nil) Tryd.call22 (fun w m hK => by have hle_ := KC.le hK; have hA := KC.agree hK; have hM := hM.trans hle_; have hT := tab_keep hT hK.st.ext; exact numb_c hA)) <|
          .cons rfl (ob_assign rfl) <|
          .nil) ?_
      intro a12 w12 m12 hst12 hle12 hk12
      have hfr12 := hk12.fr (T' := [(0, _), (1, _), (2, _), (6, _), (7, _), (8, _), (9, _), (10, _), (11, _), (12, _), (14, _), (15, _), (16, _)]) (.old rfl rfl <| .old rfl rfl <| .old rfl rfl <| .old rfl rfl <| .old rfl rfl <| .old rfl rfl <| .old rfl rfl <| .old rfl rfl <| .old rfl rfl <| .old rfl rfl <| .old rfl rfl <| .old rfl rfl <| .new rfl <| .nil)
      replace hM := hM.trans hle12
      clear hst11 hfr11 hk12
      refine hK17 _ _ ?_; try clear hK17 K17
      refine seq_any fun K18 hK18 => ?_
      refine seq_any fun K19 hK19 => ?_
      refine region_plain (fun h => by cases h) hst12 hfr12 (by kernel_rfl) (by kernel_rfl) (.cons rfl (ob_move rfl) <|
          .cons rfl (ob_eql rfl rfl) <|
          .cons rfl (ob_move rfl) <|
          .cons rfl (ob_move rfl) <|
          .cons rfl (ob_eql rfl rfl) <|
          .cons rfl (ob_and rfl rfl rfl) <|
          .nil) ?_
      intro a13 w13 m13 hst13 hle13 hk13
      have hfr13 := hk13.fr (T' := [(0, _), (1, _), (2, _), (6, _), (7, _), (8, _), (9, _), (10, _), (11, _), (12, _), (14, _), (15, _), (16, _), (103, _)]) (.old rfl rfl <| .old rfl rfl <| .old rfl rfl <| .old rfl rfl <| .old rfl rfl <| .old rfl rfl <| .old rfl rfl <| .old rfl rfl <| .old rfl rfl <| .old rfl rfl <| .old rfl rfl <| .old rfl rfl <| .old rfl rfl <| .new rfl <| .nil)
      replace hM := hM.trans hle13
      clear hst12 hfr12 hk13
      refine hK19 _ _ ?_; try clear hK19 K19
      refine cond_any hfr13 rfl rfl (fun hb103 => ?_) (fun hb103 => ?_)
      · try simp only [Bool.not_eq_true', Bool.not_eq_false', decide_eq_true_eq, decide_eq_false_iff_not, Bool.and_eq_true, Bool.or_eq_true, Bool.and_eq_false_iff, Bool.or_eq_false_iff, Bool.not_not, u8_eq] at hb103
        refine seq_any fun K20 hK20 => ?_
        refine region_plain (fun h => by cases h) hst13 hfr13 (by kernel_rfl) (by kernel_rfl) (.cons rfl (ob_move rfl) <|
            .cons rfl (ob_move rfl) <|
            .cons rfl (ob_move rfl) <|
            .cons rfl (ob_and rfl rfl rfl) <|
            .cons rfl (ob_move rfl) <|
            .cons rfl (ob_move rfl) <|
            .cons rfl (ob_move rfl) <|
            .cons rfl (ob_eql rfl rfl) <|
            .cons rfl (ob_and rfl rfl rfl) <|
            .cons rfl (ob_move rfl) <|
            .cons rfl (ob_move rfl) <|
            .cons rfl (ob_eql rfl rfl) <|
            .cons rfl (ob_and rfl rfl rfl) <|
            .cons rfl (ob_assign rfl) <|
            .nil) ?_
        intro a14 w14 m14 hst14 hle14 hk14
        have hfr14 := hk14.fr (T' := [(0, _), (1, _), (2, _), (7, _), (8, _), (9, _), (10, _), (11, _), (12, _), (14, _), (15, _), (16, _), (6, _)]) (.old rfl rfl <| .old rfl rfl <| .old rfl rfl <| .old rfl rfl <| .old rfl rfl <| .old rfl rfl <| .old rfl rfl <| .old rfl rfl <| .old rfl rfl <| .old rfl rfl <| .old rfl rfl <| .old rfl rfl <| .new rfl <| .nil)
        replace hM := hM.trans hle14
        clear hst13 hfr13 hk14
        refine hK20 _ _ ?_; try clear hK20 K20
        refine wp_ret ?_
        repeat (with_reducible first | refine then_ret ?_ | refine block_ret ?_)
        exact fn_ret hst14 hfr14 rfl (.tmp rfl <| .nil) (by obtain ⟨rfl, rfl⟩ := hb103; refine congrArg Value.bool ?_; decide)
      · try simp only [Bool.not_eq_true', Bool.not_eq_false', decide_eq_true_eq, decide_eq_false_iff_not, Bool.and_eq_true, Bool.or_eq_true, Bool.and_eq_false_iff, Bool.or_eq_false_iff, Bool.not_not, u8_eq] at hb103
        refine wp_skip ?_
        refine hK18 _ _ ?_; try clear hK18 K18
        refine seq_any fun K22 hK22 => ?_
        refine region_plain (fun h => by cases h) hst13 hfr13 (by kernel_rfl) (by kernel_rfl) (.cons rfl (ob_move rfl) <|
            .cons rfl (ob_eql rfl rfl) <|
            .cons rfl (ob_move rfl) <|
            .cons rfl (ob_move rfl) <|
            .cons rfl (ob_lss rfl rfl) <|
            .cons rfl (ob_move rfl) <|
            .cons rfl (ob_lss rfl rfl) <|
            .cons rfl (ob_beql rfl rfl Tryd.underlying4) <|
            .cons rfl (ob_or rfl rfl rfl) <|
            .cons rfl (ob_assign rfl) <|
            .nil) ?_
        intro a14 w14 m14 hst14 hle14 hk14
        have hfr14 := hk14.fr (T' := [(0, _), (1, _), (2, _), (6, _), (7, _), (8, _), (9, _), (10, _), (11, _), (12, _), (14, _), (15, _), (16, _), (17, _)]) (.old rfl rfl <| .old rfl rfl <| .old rfl rfl <| .old rfl rfl <| .old rfl rfl <| .old rfl rfl <| .old rfl rfl <| .old rfl rfl <| .old rfl rfl <| .old rfl rfl <| .old rfl rfl <| .old rfl rfl <| .old rfl rfl <| .new rfl <| .nil)
        replace hM := hM.trans hle14
        clear hst13 hfr13 hk14
        refine hK22 _ _ ?_; try clear hK22 K22
        refine seq_any fun K23 hK23 => ?_
        refine region_plain (fun h => by cases h) hst14 hfr14 (by kernel_rfl) (by kernel_rfl) (.cons rfl (ob_move rfl) <|
            .cons rfl (ob_move rfl) <|
            .cons rfl (ob_move rfl) <|
            .cons rfl (ob_and rfl rfl rfl) <|
            .cons rfl (ob_move rfl) <|
            .cons rfl (ob_move rfl) <|
            .cons rfl (ob_and rfl rfl rfl) <|
            .cons rfl (ob_move rfl) <|
            .cons rfl (ob_move rfl) <|
            .cons rfl (ob_eql rfl rfl) <|
            .cons rfl (ob_move rfl) <|
            .cons rfl (ob_move rfl) <|
            .cons rfl (ob_callE rfl (.cons rfl <| .nil) Tryd.call23 (fun w m hK => by have hle_ := KC.le hK; have hA := KC.agree hK; have hM := hM.trans hle_; have hT := tab_keep hT hK.st.ext; exact mag_c hA)) <|
            .cons rfl (ob_move rfl) <|
            .cons rfl (ob_callE rfl (.cons rfl <| .nil) Tryd.call23 (fun w m hK => by have hle_ := KC.le hK; have hA := KC.agree hK; have hM := hM.trans hle_; have hT := tab_keep hT hK.st.ext; exact mag_c hA)) <|
            .cons rfl (ob_lss rfl rfl) <|
            .cons rfl (ob_or rfl rfl rfl) <|
            .cons rfl (ob_and rfl rfl rfl) <|
            .cons rfl (ob_assign rfl) <|
            .nil) ?_
        intro a15 w15 m15 hst15 hle15 hk15
        have hfr15 := hk15.fr (T' := [(0, _), (1, _), (2, _), (7, _), (8, _), (9, _), (10, _), (11, _), (12, _), (14, _), (15, _), (16, _), (17, _), (6, _)]) (.old rfl rfl <| .old rfl rfl <| .old rfl rfl <| .old rfl rfl <| .old rfl rfl <| .old rfl rfl <| .old rfl rfl <| .old rfl rfl <| .old rfl rfl <| .old rfl rfl <| .old rfl rfl <| .old rfl rfl <| .old rfl rfl <| .new rfl <| .nil)
        replace hM := hM.trans hle15
        clear hst14 hfr14 hk15
        refine hK23 _ _ ?_; try clear hK23 K23
        refine wp_ret ?_
        repeat (with_reducible first | refine then_ret ?_ | refine block_ret ?_)
        exact fn_ret hst15 hfr15 rfl (.tmp rfl <| .nil) (by have hn : ¬ (a = -9223372036854775808 ∧ b = -1) := (fun h => by simp_all); have l6 := laws3 ha hb hb84 hn; obtain ⟨f1, f2, f3⟩ := tmod_facts a hb84; have hr : InI64 (a.tmod b) := (by obtain ⟨q1, q2⟩ := hb; exact ⟨by omega, by omega⟩); refine congrArg Value.bool ?_; rw [l6, magI_eq hr, magI_eq hb, show (opRes [47] a b).2 = true from by simp [opRes, hb84]]; by_cases h0 : a.tmod b = 0; (simp [h0]); (have e1 : decide (a.tmod b < 0) = decide (a < 0) := (by rw [decide_eq_decide]; omega); have e2 : ((a.tmod b).natAbs : Int) < (b.natAbs : Int) := (by omega); rw [e1, decide_eq_true e2]; simp))

end Go.Proofs.YtineijefefjpeaaDoor
