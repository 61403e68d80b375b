/-
  The document's texts of values, names, operators; what is shown in any case. Conditions: those of each theorem.
-/
import Derived.Test.YtineijefefjpeaaDoorRefs
import Derived.Laws.Bits64
namespace Go.Proofs.YtineijefefjpeaaDoor
set_option linter.all false
open Go.RowKit
open Go.Lib (itoa formatBool decDigits)
theorem fb_t : formatBool true = [116, 114, 117, 101] := by decide
theorem fb_f : formatBool false = [102, 97, 108, 115, 101] := by decide
theorem wr_add (a b : Int) : IntKind.i64.wrap (IntKind.u64.wrap (IntKind.u64.wrap a + IntKind.u64.wrap b)) = IntKind.i64.wrap (a + b) := by
  simp only [IntKind.wrap_i64, IntKind.wrap_u64]; omega
theorem wr_sub (a b : Int) : IntKind.i64.wrap (IntKind.u64.wrap (IntKind.u64.wrap a - IntKind.u64.wrap b)) = IntKind.i64.wrap (a - b) := by
  simp only [IntKind.wrap_i64, IntKind.wrap_u64]; omega
theorem wr_u (z : Int) : IntKind.i64.wrap (IntKind.u64.wrap z) = IntKind.i64.wrap z := by
  simp only [IntKind.wrap_i64, IntKind.wrap_u64]; omega
theorem wr_mul (a b : Int) : IntKind.i64.wrap (IntKind.u64.wrap (IntKind.u64.wrap a * IntKind.u64.wrap b)) = IntKind.i64.wrap (a * b) := by
  have e : IntKind.u64.wrap (IntKind.u64.wrap a * IntKind.u64.wrap b) = IntKind.u64.wrap (a * b) := by
    simp only [IntKind.wrap_u64]; exact (Int.mul_emod a b _).symm
  rw [e, wr_u]
theorem wr_neg (a : Int) : IntKind.i64.wrap (IntKind.u64.wrap (0 - IntKind.u64.wrap a)) = IntKind.i64.wrap (a.tdiv (-1)) := by
  have e : a.tdiv (-1) = -a := by rw [Int.tdiv_neg, Int.tdiv_one]
  rw [e]; simp only [IntKind.wrap_i64, IntKind.wrap_u64]; omega
theorem wr_eq {a b : Int} (ha : InI64 a) (hb : InI64 b) : decide (IntKind.u64.wrap a = IntKind.u64.wrap b) = decide (a = b) := by
  obtain ⟨h1, h2⟩ := ha; obtain ⟨h3, h4⟩ := hb
  rw [decide_eq_decide]; simp only [IntKind.wrap_u64]; omega
theorem nameS_pos {s : Str} {c : UInt8} (h : s[0]? = some c) : nameS s = (!digs.contains c && s.all okB) := by
  cases s with
  | nil => simp at h
  | cons b r => simp at h; subst h; rfl
theorem largeS_pos {s : Str} {c : UInt8} (h : s[0]? = some c) : largeS s = (nameS s && bigs.contains c && decide (s.length ≤ 60)) := by
  cases s with
  | nil => simp at h
  | cons b r => simp at h; subst h; rfl
def one0 : VT := ⟨1, 1, [], []⟩
def nil0 : VT := ⟨4, 0, [78, 105, 108], []⟩
def con0 : VT := ⟨4, 0, [67, 111, 110, 115], [one0, nil0]⟩
theorem con0_text : textV con0 = [67, 111, 110, 115, 40, 49, 44, 32, 78, 105, 108, 41] := by
  simp [con0, one0, nil0, textV, textL, textB, itoa, dec_eq, Go.Lib.join, List.intercalate]
set_option maxHeartbeats 400000 in
theorem in_c {w : World} {m : Mem} {c : UInt8} {s : Str} (hA : Agree w m) (hs : s.length ≤ 9223372036854775807) : FnV Tryd.prog 50 #[.int .u8 (c.toNat : Int), S s] w m (fun _ _ v => v = .bool (s.contains c)) := by
  refine fn_enter (vs := [_, _]) Tryd.func50 rfl rfl rfl fun a0 hfr0 => ?_
  have hst0 := st_enter hA (loc_nil [] _ w m)
  have hM : MLe m m := MLe.refl m
  refine seq_any fun K1 hK1 => ?_
  refine region_plain (fun h => by cases h) hst0 hfr0 (by kernel_rfl) (by kernel_rfl) (.cons rfl (ob_assign rfl) <|
      .nil) ?_
  intro a1 w1 m1 hst1 hle1 hk1
  have hfr1 := hk1.fr (T' := [(0, _), (1, _), (4, _)]) (.old rfl rfl <| .old rfl rfl <| .new rfl <| .nil)
  replace hM := hM.trans hle1
  clear hst0 hfr0 hk1
  refine hK1 _ _ ?_; try clear hK1 K1
  refine seq_any fun K2 hK2 => ?_
  refine seq_any fun K3 hK3 => ?_
  refine region_plain (fun h => by cases h) hst1 hfr1 (by kernel_rfl) (by kernel_rfl) (.cons rfl (ob_assign rfl) <|
      .nil) ?_
  intro a2 w2 m2 hst2 hle2 hk2
  have hfr2 := hk2.fr (T' := [(0, _), (1, _), (4, _), (5, _)]) (.old rfl rfl <| .old rfl rfl <| .old rfl rfl <| .new rfl <| .nil)
  replace hM := hM.trans hle2
  clear hst1 hfr1 hk2
  refine hK3 _ _ ?_; try clear hK3 K3
  refine wp_block ?_
  refine loop_any (T := [(0, _), (1, _), (4, _)]) (fun (y : Nat) => ([(5, .int .i64 (y : Int))] : List (Nat × Value))) (fun _ => _) (fun (y : Nat) m => (y ≤ s.length) ∧ (s.contains c = (s.drop y).contains c)) (fun y => s.length - y) (0) ⟨hst2, MLe.refl _, hfr2.sub (.cons rfl <| .cons rfl <| .cons rfl <| .cons rfl <| .nil), ⟨Nat.zero_le _, rfl⟩⟩ fun y a3 w3 m3 hh3 => ?_
  have hst3 := hh3.st; have hle3 := hh3.le; have hfr3 := hh3.fr; have hrel := hh3.rel; clear hh3
  clear hst2 hfr2
  replace hM := hM.trans hle3
  obtain ⟨hyn, hrem⟩ := hrel
  have hlh3 := hle3
  refine seq_any fun K5 hK5 => ?_
  refine seq_any fun K6 hK6 => ?_
  refine region_plain (fun h => by cases h) hst3 hfr3 (by kernel_rfl) (by kernel_rfl) (.cons rfl (ob_move rfl) <|
      .cons rfl (ob_move rfl) <|
      .cons rfl (ob_slen rfl Tryd.underlying9) <|
      .cons rfl (ob_lss rfl rfl) <|
      .nil) ?_
  intro a4 w4 m4 hst4 hle4 hk4
  have hfr4 := hk4.fr (T' := [(5, _), (0, _), (1, _), (4, _), (9, _)]) (.old rfl rfl <| .old rfl rfl <| .old rfl rfl <| .old rfl rfl <| .new rfl <| .nil)
  have hlh4 := hlh3.trans hle4
  replace hM := hM.trans hle4
  clear hst3 hfr3 hk4
  refine hK6 _ _ ?_; try clear hK6 K6
  refine cond_any hfr4 rfl rfl (fun hb9 => ?_) (fun hb9 => ?_)
  · try simp only [Bool.not_eq_true', Bool.not_eq_false', decide_eq_true_eq, decide_eq_false_iff_not, Bool.and_eq_true, Bool.or_eq_true, Bool.and_eq_false_iff, Bool.or_eq_false_iff, Bool.not_not, u8_eq] at hb9
    refine wp_skip ?_
    refine hK5 _ _ ?_; try clear hK5 K5
    refine seq_any fun K7 hK7 => ?_
    refine wp_block ?_
    refine seq_any fun K8 hK8 => ?_
    obtain ⟨b9, hb_9, hd9⟩ := nth_str (s := s) (k := y) (by omega)
    try rw [hd9] at hrem
    try simp only [List.contains_cons, List.contains_nil] at hrem
    refine region_plain (fun h => by cases h) hst4 hfr4 (by kernel_rfl) (by kernel_rfl) (.cons rfl (ob_move rfl) <|
        .cons rfl (ob_move rfl) <|
        .cons rfl (ob_sindex (k := y) (b := _) rfl rfl Tryd.underlying9 rfl hb_9) <|
        .cons rfl (ob_move rfl) <|
        .cons rfl (ob_eql rfl rfl) <|
        .nil) ?_
    intro a5 w5 m5 hst5 hle5 hk5
    have hfr5 := hk5.fr (T' := [(5, _), (0, _), (1, _), (4, _), (16, _)]) (.old rfl rfl <| .old rfl rfl <| .old rfl rfl <| .old rfl rfl <| .new rfl <| .nil)
    have hlh5 := hlh4.trans hle5
    replace hM := hM.trans hle5
    clear hst4 hfr4 hk5
    refine hK8 _ _ ?_; try clear hK8 K8
    refine cond_any hfr5 rfl rfl (fun hb16 => ?_) (fun hb16 => ?_)
    · try simp only [Bool.not_eq_true', Bool.not_eq_false', decide_eq_true_eq, decide_eq_false_iff_not, Bool.and_eq_true, Bool.or_eq_true, Bool.and_eq_false_iff, Bool.or_eq_false_iff, Bool.not_not, u8_eq] at hb16
      refine seq_any fun K10 hK10 => ?_
      refine region_plain (fun h => by cases h) hst5 hfr5 (by kernel_rfl) (by kernel_rfl) (.cons rfl (ob_assign rfl) <|
          .nil) ?_
      intro a6 w6 m6 hst6 hle6 hk6
      have hfr6 := hk6.fr (T' := [(5, _), (0, _), (1, _), (4, _)]) (.old rfl rfl <| .old rfl rfl <| .old rfl rfl <| .new rfl <| .nil)
      have hlh6 := hlh5.trans hle6
      replace hM := hM.trans hle6
      clear hst5 hfr5 hk6
      refine hK10 _ _ ?_; try clear hK10 K10
      refine wp_ret ?_
      repeat (with_reducible first | refine then_ret ?_ | refine block_ret ?_)
      exact fn_ret hst6 hfr6 rfl (.tmp rfl <| .nil) (by refine congrArg Value.bool ?_; simp_all)
    · try simp only [Bool.not_eq_true', Bool.not_eq_false', decide_eq_true_eq, decide_eq_false_iff_not, Bool.and_eq_true, Bool.or_eq_true, Bool.and_eq_false_iff, Bool.or_eq_false_iff, Bool.not_not, u8_eq] at hb16
      refine wp_skip ?_
      refine hK7 _ _ ?_; try clear hK7 K7
      refine region_plain (fun h => by cases h) hst5 hfr5 (by kernel_rfl) (by kernel_rfl) (.cons rfl (ob_move rfl) <|
          .cons rfl (ob_add rfl rfl ⟨by omega, by omega⟩) <|
          .cons rfl (ob_assign rfl) <|
          .nil) ?_
      intro a6 w6 m6 hst6 hle6 hk6
      have hfr6 := hk6.fr (T' := [(0, _), (1, _), (4, _), (5, _)]) (.old rfl rfl <| .old rfl rfl <| .old rfl rfl <| .new rfl <| .nil)
      have hlh6 := hlh5.trans hle6
      replace hM := hM.trans hle6
      clear hst5 hfr5 hk6
      exact ⟨y + 1, m6, by show s.length - (y + 1) < s.length - y; omega, ⟨hst6, hlh6, hfr6.sub (.cons rfl <| .cons rfl <| .cons rfl <| .cons rfl <| .nil), ⟨by show y + 1 ≤ s.length; omega, by rw [hrem, beq_false_of_ne (Ne.symm hb16), Bool.false_or]⟩⟩⟩
  · try simp only [Bool.not_eq_true', Bool.not_eq_false', decide_eq_true_eq, decide_eq_false_iff_not, Bool.and_eq_true, Bool.or_eq_true, Bool.and_eq_false_iff, Bool.or_eq_false_iff, Bool.not_not, u8_eq] at hb9
    have hge : y = s.length := by omega
    rw [List.drop_of_length_le (by omega)] at hrem
    simp only [List.contains_cons, List.contains_nil] at hrem
    refine wp_exit ?_
    refine hK2 _ _ ?_; try clear hK2 K2
    refine seq_any fun K12 hK12 => ?_
    refine region_plain (fun h => by cases h) hst4 hfr4 (by kernel_rfl) (by kernel_rfl) (.cons rfl (ob_assign rfl) <|
        .nil) ?_
    intro a5 w5 m5 hst5 hle5 hk5
    have hfr5 := hk5.fr (T' := [(5, _), (0, _), (1, _), (4, _)]) (.old rfl rfl <| .old rfl rfl <| .old rfl rfl <| .new rfl <| .nil)
    have hlh5 := hlh4.trans hle5
    replace hM := hM.trans hle5
    clear hst4 hfr4 hk5
    refine hK12 _ _ ?_; try clear hK12 K12
    refine wp_ret ?_
    repeat (with_reducible first | refine then_ret ?_ | refine block_ret ?_)
    exact fn_ret hst5 hfr5 rfl (.tmp rfl <| .nil) (by refine congrArg Value.bool ?_; simp_all)

set_option maxHeartbeats 400000 in
theorem name_c {w : World} {m : Mem} {s : Str} (hA : Agree w m) (hs : s.length ≤ 9223372036854775807) : FnV Tryd.prog 49 #[S s] w m (fun _ _ v => v = .bool (nameS s)) := by
  refine fn_enter (vs := [_]) Tryd.func49 rfl rfl rfl fun a0 hfr0 => ?_
  have hst0 := st_enter hA (loc_nil [] _ w m)
  have hM : MLe m m := MLe.refl m
  refine seq_any fun K1 hK1 => ?_
  refine region_plain (fun h => by cases h) hst0 hfr0 (by kernel_rfl) (by kernel_rfl) (.cons rfl (ob_assign rfl) <|
      .nil) ?_
  intro a1 w1 m1 hst1 hle1 hk1
  have hfr1 := hk1.fr (T' := [(0, _), (2, _)]) (.old rfl rfl <| .new rfl <| .nil)
  replace hM := hM.trans hle1
  clear hst0 hfr0 hk1
  refine hK1 _ _ ?_; try clear hK1 K1
  refine seq_any fun K2 hK2 => ?_
  refine seq_any fun K3 hK3 => ?_
  rcases Nat.eq_zero_or_pos s.length with hz | hz
  · skip
    obtain rfl := List.eq_nil_of_length_eq_zero hz
    refine region_plain (fun h => by cases h) hst1 hfr1 (by kernel_rfl) (by kernel_rfl) (.cons rfl (ob_move rfl) <|
        .cons rfl (ob_seql rfl rfl) <|
        .cons rfl (ob_move rfl) <|
        .cons rfl (ob_move rfl) <|
        .cons rfl (ob_guard (κ := .eq (.bool false)) (b := false) 6 rfl rfl (fun h => by simp at h)) <|
        .cons rfl (ob_guard (κ := .eq (.bool false)) (b := false) 6 rfl rfl (fun h => by simp at h)) <|
        .cons rfl (ob_or rfl rfl rfl) <|
        .nil) ?_
    intro a2 w2 m2 hst2 hle2 hk2
    have hfr2 := hk2.fr (T' := [(0, _), (2, _), (10, _)]) (.old rfl rfl <| .old rfl rfl <| .new rfl <| .nil)
    replace hM := hM.trans hle2
    clear hst1 hfr1 hk2
    refine hK3 _ _ ?_; try clear hK3 K3
    refine cond_any hfr2 rfl rfl (fun hb10 => ?_) (fun hb10 => ?_)
    · try simp only [Bool.not_eq_true', Bool.not_eq_false', decide_eq_true_eq, decide_eq_false_iff_not, Bool.and_eq_true, Bool.or_eq_true, Bool.and_eq_false_iff, Bool.or_eq_false_iff, Bool.not_not, u8_eq] at hb10
      refine seq_any fun K4 hK4 => ?_
      refine region_plain (fun h => by cases h) hst2 hfr2 (by kernel_rfl) (by kernel_rfl) (.cons rfl (ob_assign rfl) <|
          .nil) ?_
      intro a3 w3 m3 hst3 hle3 hk3
      have hfr3 := hk3.fr (T' := [(0, _), (2, _)]) (.old rfl rfl <| .new rfl <| .nil)
      replace hM := hM.trans hle3
      clear hst2 hfr2 hk3
      refine hK4 _ _ ?_; try clear hK4 K4
      refine wp_ret ?_
      repeat (with_reducible first | refine then_ret ?_ | refine block_ret ?_)
      exact fn_ret hst3 hfr3 rfl (.tmp rfl <| .nil) (by refine congrArg Value.bool ?_; simp_all [okB, nameS]; try (intros; simp_all))
    · simp at hb10
  · skip
    obtain ⟨b6, hb_6, hd6⟩ := nth_str (s := s) (k := 0) (by omega)
    clear hd6
    refine region_plain (fun h => by cases h) hst1 hfr1 (by kernel_rfl) (by kernel_rfl) (.cons rfl (ob_move rfl) <|
        .cons rfl (ob_seql rfl rfl) <|
        .cons rfl (ob_move rfl) <|
        .cons rfl (ob_move rfl) <|
        .cons rfl (ob_sindex (k := 0) (b := _) rfl rfl Tryd.underlying9 rfl hb_6) <|
        .cons rfl (ob_callE rfl (.cons rfl <| .cons rfl <| .nil) Tryd.call50 (fun w m hK => by have hle_ := KC.le hK; have hA := KC.agree hK; have hM := hM.trans hle_; exact in_c (s := digs) hA (by decide))) <|
        .cons rfl (ob_or rfl rfl rfl) <|
        .nil) ?_
    intro a2 w2 m2 hst2 hle2 hk2
    have hfr2 := hk2.fr (T' := [(0, _), (2, _), (10, _)]) (.old rfl rfl <| .old rfl rfl <| .new rfl <| .nil)
    replace hM := hM.trans hle2
    clear hst1 hfr1 hk2
    have hns := nameS_pos hb_6
    refine hK3 _ _ ?_; try clear hK3 K3
    refine cond_any hfr2 rfl rfl (fun hb10 => ?_) (fun hb10 => ?_)
    · try simp only [Bool.not_eq_true', Bool.not_eq_false', decide_eq_true_eq, decide_eq_false_iff_not, Bool.and_eq_true, Bool.or_eq_true, Bool.and_eq_false_iff, Bool.or_eq_false_iff, Bool.not_not, u8_eq] at hb10
      refine seq_any fun K7 hK7 => ?_
      refine region_plain (fun h => by cases h) hst2 hfr2 (by kernel_rfl) (by kernel_rfl) (.cons rfl (ob_assign rfl) <|
          .nil) ?_
      intro a3 w3 m3 hst3 hle3 hk3
      have hfr3 := hk3.fr (T' := [(0, _), (2, _)]) (.old rfl rfl <| .new rfl <| .nil)
      replace hM := hM.trans hle3
      clear hst2 hfr2 hk3
      refine hK7 _ _ ?_; try clear hK7 K7
      refine wp_ret ?_
      repeat (with_reducible first | refine then_ret ?_ | refine block_ret ?_)
      exact fn_ret hst3 hfr3 rfl (.tmp rfl <| .nil) (by refine congrArg Value.bool ?_; simp_all [okB, nameS]; try (intros; simp_all))
    · try simp only [Bool.not_eq_true', Bool.not_eq_false', decide_eq_true_eq, decide_eq_false_iff_not, Bool.and_eq_true, Bool.or_eq_true, Bool.and_eq_false_iff, Bool.or_eq_false_iff, Bool.not_not, u8_eq] at hb10
      refine wp_skip ?_
      refine hK2 _ _ ?_; try clear hK2 K2
      refine seq_any fun K9 hK9 => ?_
      refine seq_any fun K10 hK10 => ?_
      refine region_plain (fun h => by cases h) hst2 hfr2 (by kernel_rfl) (by kernel_rfl) (.cons rfl (ob_assign rfl) <|
          .nil) ?_
      intro a3 w3 m3 hst3 hle3 hk3
      have hfr3 := hk3.fr (T' := [(0, _), (2, _), (3, _)]) (.old rfl rfl <| .old rfl rfl <| .new rfl <| .nil)
      replace hM := hM.trans hle3
      clear hst2 hfr2 hk3
      refine hK10 _ _ ?_; try clear hK10 K10
      refine wp_block ?_
      refine loop_any (T := [(0, _), (2, _)]) (fun (y : Nat) => ([(3, .int .i64 (y : Int))] : List (Nat × Value))) (fun _ => _) (fun (y : Nat) m => (y ≤ s.length) ∧ (s.all okB = (s.drop y).all okB)) (fun y => s.length - y) (0) ⟨hst3, MLe.refl _, hfr3.sub (.cons rfl <| .cons rfl <| .cons rfl <| .nil), ⟨Nat.zero_le _, rfl⟩⟩ fun y a4 w4 m4 hh4 => ?_
      have hst4 := hh4.st; have hle4 := hh4.le; have hfr4 := hh4.fr; have hrel := hh4.rel; clear hh4
      clear hst3 hfr3
      replace hM := hM.trans hle4
      obtain ⟨hyn, hrem⟩ := hrel
      have hlh4 := hle4
      refine seq_any fun K12 hK12 => ?_
      refine seq_any fun K13 hK13 => ?_
      refine region_plain (fun h => by cases h) hst4 hfr4 (by kernel_rfl) (by kernel_rfl) (.cons rfl (ob_move rfl) <|
          .cons rfl (ob_move rfl) <|
          .cons rfl (ob_slen rfl Tryd.underlying9) <|
          .cons rfl (ob_lss rfl rfl) <|
          .nil) ?_
      intro a5 w5 m5 hst5 hle5 hk5
      have hfr5 := hk5.fr (T' := [(3, _), (0, _), (2, _), (14, _)]) (.old rfl rfl <| .old rfl rfl <| .old rfl rfl <| .new rfl <| .nil)
      have hlh5 := hlh4.trans hle5
      replace hM := hM.trans hle5
      clear hst4 hfr4 hk5
      refine hK13 _ _ ?_; try clear hK13 K13
      refine cond_any hfr5 rfl rfl (fun hb14 => ?_) (fun hb14 => ?_)
      · try simp only [Bool.not_eq_true', Bool.not_eq_false', decide_eq_true_eq, decide_eq_false_iff_not, Bool.and_eq_true, Bool.or_eq_true, Bool.and_eq_false_iff, Bool.or_eq_false_iff, Bool.not_not, u8_eq] at hb14
        refine wp_skip ?_
        refine hK12 _ _ ?_; try clear hK12 K12
        refine seq_any fun K14 hK14 => ?_
        refine wp_block ?_
        refine seq_any fun K15 hK15 => ?_
        obtain ⟨b16, hb_16, hd16⟩ := nth_str (s := s) (k := y) (by omega)
        try rw [hd16] at hrem
        try simp only [List.all_cons, List.all_nil] at hrem
        refine region_plain (fun h => by cases h) hst5 hfr5 (by kernel_rfl) (by kernel_rfl) (.cons rfl (ob_move rfl) <|
            .cons rfl (ob_move rfl) <|
            .cons rfl (ob_sindex (k := y) (b := _) rfl rfl Tryd.underlying9 rfl hb_16) <|
            .cons rfl (ob_callE rfl (.cons rfl <| .cons rfl <| .nil) Tryd.call50 (fun w m hK => by have hle_ := KC.le hK; have hA := KC.agree hK; have hM := hM.trans hle_; exact in_c (s := digs) hA (by decide))) <|
            .cons rfl (ob_not rfl) <|
            .cons rfl (ob_move rfl) <|
            .cons rfl (ob_move rfl) <|
            .cons rfl (ob_move rfl) <|
            .cons rfl (ob_sindex (k := y) (b := _) rfl rfl Tryd.underlying9 rfl hb_16) <|
            .cons rfl (ob_callE rfl (.cons rfl <| .cons rfl <| .nil) Tryd.call50 (fun w m hK => by have hle_ := KC.le hK; have hA := KC.agree hK; have hM := hM.trans hle_; exact in_c (s := bigs) hA (by decide))) <|
            .cons rfl (ob_not rfl) <|
            .cons rfl (ob_and rfl rfl rfl) <|
            .cons rfl (ob_move rfl) <|
            .cons rfl (ob_move rfl) <|
            .cons rfl (ob_move rfl) <|
            .cons rfl (ob_sindex (k := y) (b := _) rfl rfl Tryd.underlying9 rfl hb_16) <|
            .cons rfl (ob_callE rfl (.cons rfl <| .cons rfl <| .nil) Tryd.call50 (fun w m hK => by have hle_ := KC.le hK; have hA := KC.agree hK; have hM := hM.trans hle_; exact in_c (s := smalls) hA (by decide))) <|
            .cons rfl (ob_not rfl) <|
            .cons rfl (ob_and rfl rfl rfl) <|
            .nil) ?_
        intro a6 w6 m6 hst6 hle6 hk6
        have hfr6 := hk6.fr (T' := [(3, _), (0, _), (2, _), (35, _)]) (.old rfl rfl <| .old rfl rfl <| .old rfl rfl <| .new rfl <| .nil)
        have hlh6 := hlh5.trans hle6
        replace hM := hM.trans hle6
        clear hst5 hfr5 hk6
        refine hK15 _ _ ?_; try clear hK15 K15
        refine cond_any hfr6 rfl rfl (fun hb35 => ?_) (fun hb35 => ?_)
        · try simp only [Bool.not_eq_true', Bool.not_eq_false', decide_eq_true_eq, decide_eq_false_iff_not, Bool.and_eq_true, Bool.or_eq_true, Bool.and_eq_false_iff, Bool.or_eq_false_iff, Bool.not_not, u8_eq] at hb35
          refine seq_any fun K17 hK17 => ?_
          refine region_plain (fun h => by cases h) hst6 hfr6 (by kernel_rfl) (by kernel_rfl) (.cons rfl (ob_assign rfl) <|
              .nil) ?_
          intro a7 w7 m7 hst7 hle7 hk7
          have hfr7 := hk7.fr (T' := [(3, _), (0, _), (2, _)]) (.old rfl rfl <| .old rfl rfl <| .new rfl <| .nil)
          have hlh7 := hlh6.trans hle7
          replace hM := hM.trans hle7
          clear hst6 hfr6 hk7
          refine hK17 _ _ ?_; try clear hK17 K17
          refine wp_ret ?_
          repeat (with_reducible first | refine then_ret ?_ | refine block_ret ?_)
          exact fn_ret hst7 hfr7 rfl (.tmp rfl <| .nil) (by refine congrArg Value.bool ?_; simp_all [okB, nameS]; try (intros; simp_all))
        · try simp only [Bool.not_eq_true', Bool.not_eq_false', decide_eq_true_eq, decide_eq_false_iff_not, Bool.and_eq_true, Bool.or_eq_true, Bool.and_eq_false_iff, Bool.or_eq_false_iff, Bool.not_not, u8_eq] at hb35
          refine wp_skip ?_
          refine hK14 _ _ ?_; try clear hK14 K14
          refine region_plain (fun h => by cases h) hst6 hfr6 (by kernel_rfl) (by kernel_rfl) (.cons rfl (ob_move rfl) <|
              .cons rfl (ob_add rfl rfl ⟨by omega, by omega⟩) <|
              .cons rfl (ob_assign rfl) <|
              .nil) ?_
          intro a7 w7 m7 hst7 hle7 hk7
          have hfr7 := hk7.fr (T' := [(0, _), (2, _), (3, _)]) (.old rfl rfl <| .old rfl rfl <| .new rfl <| .nil)
          have hlh7 := hlh6.trans hle7
          replace hM := hM.trans hle7
          clear hst6 hfr6 hk7
          exact ⟨y + 1, m7, by show s.length - (y + 1) < s.length - y; omega, ⟨hst7, hlh7, hfr7.sub (.cons rfl <| .cons rfl <| .cons rfl <| .nil), ⟨by show y + 1 ≤ s.length; omega, by rw [hrem, show okB b16 = true from by simpa [okB] using hb35]; rfl⟩⟩⟩
      · try simp only [Bool.not_eq_true', Bool.not_eq_false', decide_eq_true_eq, decide_eq_false_iff_not, Bool.and_eq_true, Bool.or_eq_true, Bool.and_eq_false_iff, Bool.or_eq_false_iff, Bool.not_not, u8_eq] at hb14
        have hge : y = s.length := by omega
        rw [List.drop_of_length_le (by omega)] at hrem
        simp only [List.all_cons, List.all_nil] at hrem
        refine wp_exit ?_
        refine hK9 _ _ ?_; try clear hK9 K9
        refine seq_any fun K19 hK19 => ?_
        refine region_plain (fun h => by cases h) hst5 hfr5 (by kernel_rfl) (by kernel_rfl) (.cons rfl (ob_assign rfl) <|
            .nil) ?_
        intro a6 w6 m6 hst6 hle6 hk6
        have hfr6 := hk6.fr (T' := [(3, _), (0, _), (2, _)]) (.old rfl rfl <| .old rfl rfl <| .new rfl <| .nil)
        have hlh6 := hlh5.trans hle6
        replace hM := hM.trans hle6
        clear hst5 hfr5 hk6
        refine hK19 _ _ ?_; try clear hK19 K19
        refine wp_ret ?_
        repeat (with_reducible first | refine then_ret ?_ | refine block_ret ?_)
        exact fn_ret hst6 hfr6 rfl (.tmp rfl <| .nil) (by refine congrArg Value.bool ?_; simp_all [okB, nameS]; try (intros; simp_all))

set_option maxHeartbeats 400000 in
theorem large_c {w : World} {m : Mem} {s : Str} (hA : Agree w m) (hs : s.length ≤ 9223372036854775807) : FnV Tryd.prog 41 #[S s] w m (fun _ _ v => v = .bool (largeS s)) := by
  refine fn_enter (vs := [_]) Tryd.func41 rfl rfl rfl fun a0 hfr0 => ?_
  have hst0 := st_enter hA (loc_nil [] _ w m)
  have hM : MLe m m := MLe.refl m
  refine seq_any fun K1 hK1 => ?_
  refine region_plain (fun h => by cases h) hst0 hfr0 (by kernel_rfl) (by kernel_rfl) (.cons rfl (ob_assign rfl) <|
      .nil) ?_
  intro a1 w1 m1 hst1 hle1 hk1
  have hfr1 := hk1.fr (T' := [(0, _), (2, _)]) (.old rfl rfl <| .new rfl <| .nil)
  replace hM := hM.trans hle1
  clear hst0 hfr0 hk1
  refine hK1 _ _ ?_; try clear hK1 K1
  refine seq_any fun K2 hK2 => ?_
  refine region_plain (fun h => by cases h) hst1 hfr1 (by kernel_rfl) (by kernel_rfl) (.cons rfl (ob_move rfl) <|
      .cons rfl (ob_callE rfl (.cons rfl <| .nil) Tryd.call49 (fun w m hK => by have hle_ := KC.le hK; have hA := KC.agree hK; have hM := hM.trans hle_; exact name_c hA (by first | assumption | omega | simp_all))) <|
      .cons rfl (ob_assign rfl) <|
      .nil) ?_
  intro a2 w2 m2 hst2 hle2 hk2
  have hfr2 := hk2.fr (T' := [(0, _), (2, _), (3, _)]) (.old rfl rfl <| .old rfl rfl <| .new rfl <| .nil)
  replace hM := hM.trans hle2
  clear hst1 hfr1 hk2
  refine hK2 _ _ ?_; try clear hK2 K2
  refine seq_any fun K3 hK3 => ?_
  rcases Nat.eq_zero_or_pos s.length with hz | hz
  · skip
    obtain rfl := List.eq_nil_of_length_eq_zero hz
    refine region_plain (fun h => by cases h) hst2 hfr2 (by kernel_rfl) (by kernel_rfl) (.cons rfl (ob_move rfl) <|
        .cons rfl (ob_move rfl) <|
        .cons rfl (ob_move rfl) <|
        .cons rfl (ob_guard (κ := .eq (.bool false)) (b := true) 7 rfl rfl (fun h => by simp [nameS] at h)) <|
        .cons rfl (ob_guard (κ := .eq (.bool false)) (b := true) 7 rfl rfl (fun h => by simp [nameS] at h)) <|
        .cons rfl (ob_and rfl rfl rfl) <|
        .cons rfl (ob_move rfl) <|
        .cons rfl (ob_move rfl) <|
        .cons rfl (ob_slen rfl Tryd.underlying9) <|
        .cons rfl (ob_leq rfl rfl) <|
        .cons rfl (ob_and rfl rfl rfl) <|
        .cons rfl (ob_assign rfl) <|
        .nil) ?_
    intro a3 w3 m3 hst3 hle3 hk3
    have hfr3 := hk3.fr (T' := [(0, _), (3, _), (2, _)]) (.old rfl rfl <| .old rfl rfl <| .new rfl <| .nil)
    replace hM := hM.trans hle3
    clear hst2 hfr2 hk3
    refine hK3 _ _ ?_; try clear hK3 K3
    refine wp_ret ?_
    repeat (with_reducible first | refine then_ret ?_ | refine block_ret ?_)
    exact fn_ret hst3 hfr3 rfl (.tmp rfl <| .nil) (by refine congrArg Value.bool ?_; simp_all [largeS, nameS]; try omega)
  · skip
    obtain ⟨b5, hb_5, hd5⟩ := nth_str (s := s) (k := 0) (by omega)
    clear hd5
    refine region_plain (fun h => by cases h) hst2 hfr2 (by kernel_rfl) (by kernel_rfl) (.cons rfl (ob_move rfl) <|
        .cons rfl (ob_move rfl) <|
        .cons rfl (ob_move rfl) <|
        .cons rfl (ob_sindex (k := 0) (b := _) rfl rfl Tryd.underlying9 rfl hb_5) <|
        .cons rfl (ob_callE rfl (.cons rfl <| .cons rfl <| .nil) Tryd.call50 (fun w m hK => by have hle_ := KC.le hK; have hA := KC.agree hK; have hM := hM.trans hle_; exact in_c (s := bigs) hA (by decide))) <|
        .cons rfl (ob_and rfl rfl rfl) <|
        .cons rfl (ob_move rfl) <|
        .cons rfl (ob_move rfl) <|
        .cons rfl (ob_slen rfl Tryd.underlying9) <|
        .cons rfl (ob_leq rfl rfl) <|
        .cons rfl (ob_and rfl rfl rfl) <|
        .cons rfl (ob_assign rfl) <|
        .nil) ?_
    intro a3 w3 m3 hst3 hle3 hk3
    have hfr3 := hk3.fr (T' := [(0, _), (3, _), (2, _)]) (.old rfl rfl <| .old rfl rfl <| .new rfl <| .nil)
    replace hM := hM.trans hle3
    clear hst2 hfr2 hk3
    have hns := largeS_pos hb_5
    refine hK3 _ _ ?_; try clear hK3 K3
    refine wp_ret ?_
    repeat (with_reducible first | refine then_ret ?_ | refine block_ret ?_)
    exact fn_ret hst3 hfr3 rfl (.tmp rfl <| .nil) (by refine congrArg Value.bool ?_; rw [hns, show decide (s.length ≤ 60) = decide ((s.length : Int) ≤ 60) from by rw [decide_eq_decide]; omega])

abbrev named_G (t : VT) : Prop := ∀ {w : World} {m : Mem} {vs_t : List Value} (hA : Agree w m) (h_t : VR m t vs_t) (hb : bulkV t ≤ 1073741824), FnV Tryd.prog 24 #[.agg vs_t.toArray] w m (fun _ _ v => v = .bool (namedV t))
set_option maxHeartbeats 400000 in
theorem named_s {t : VT} (ih : ∀ u ∈ t.kids, named_G u) {w : World} {m : Mem} {vs_t : List Value} (hA : Agree w m) (h_t : VR m t vs_t) (hb : bulkV t ≤ 1073741824) : FnV Tryd.prog 24 #[.agg vs_t.toArray] w m (fun _ _ v => v = .bool (namedV t)) := by
  obtain ⟨o_t, c_t, rfl, hk_t, hi_t, hj_t⟩ := h_t.open_
  have hbg_t := hk_t.big; have hcp_t := hk_t.cap
  refine fn_enter (vs := [_]) Tryd.func24 rfl rfl rfl fun a0 hfr0 => ?_
  have hst0 := st_enter hA (loc_nil [] _ w m)
  have hM : MLe m m := MLe.refl m
  have hbk := fun u (hu : u ∈ t.kids) => bulk_kid hu
  have hbe := bulkV_eq t
  refine seq_any fun K1 hK1 => ?_
  refine region_plain (fun h => by cases h) hst0 hfr0 (by kernel_rfl) (by kernel_rfl) (.cons rfl (ob_box rfl rfl) <|
      .cons rfl (ob_assign rfl) <|
      .nil) ?_
  intro a1 w1 m1 hst1 hle1 hk1
  have hfr1 := hk1.fr (T' := [(0, _), (2, _)]) (.old rfl rfl <| .new rfl <| .nil)
  obtain ⟨g2, e2, hc1⟩ := hk1.ex 1 rfl
  replace hfr1 := hfr1.cons e2
  replace h_t := h_t.mono hle1
  replace hk_t := hk_t.mono hle1
  replace hM := hM.trans hle1
  clear hst0 hfr0 hk1
  refine hK1 _ _ ?_; try clear hK1 K1
  refine seq_any fun K3 hK3 => ?_
  refine seq_any fun K4 hK4 => ?_
  refine region_plain (fun h => by cases h) hst1 hfr1 (by kernel_rfl) (by kernel_rfl) (.cons rfl (ob_fieldAddr rfl Tryd.underlying24 rfl Tryd.sizeOf3 rfl) <|
      .cons rfl (ob_load1 rfl hc1 Tryd.isAgg3 rfl) <|
      .cons rfl (ob_eql rfl rfl) <|
      .cons rfl (ob_move rfl) <|
      .cons rfl (ob_fieldAddr rfl Tryd.underlying24 rfl Tryd.sizeOf9 rfl) <|
      .cons rfl (ob_load1 rfl hc1 Tryd.isAgg9 rfl) <|
      .cons rfl (ob_callE rfl (.cons rfl <| .nil) Tryd.call41 (fun w m hK => by have hle_ := KC.le hK; have hA := KC.agree hK; have hM := hM.trans hle_; have h_t := h_t.mono hle_; have hk_t := hk_t.mono hle_; have hc1 := hc1.mono hle_; exact large_c hA (by first | assumption | omega | simp_all))) <|
      .cons rfl (ob_not rfl) <|
      .cons rfl (ob_and rfl rfl rfl) <|
      .nil) ?_
  intro a2 w2 m2 hst2 hle2 hk2
  have hfr2 := hk2.fr (T' := [(0, _), (2, _), (1, _), (13, _)]) (.old rfl rfl <| .old rfl rfl <| .old rfl rfl <| .new rfl <| .nil)
  replace h_t := h_t.mono hle2
  replace hk_t := hk_t.mono hle2
  replace hc1 := hc1.mono hle2
  replace hM := hM.trans hle2
  clear hst1 hfr1 hk2
  refine hK4 _ _ ?_; try clear hK4 K4
  refine cond_any hfr2 rfl rfl (fun hb13 => ?_) (fun hb13 => ?_)
  · try simp only [Bool.not_eq_true', Bool.not_eq_false', decide_eq_true_eq, decide_eq_false_iff_not, Bool.and_eq_true, Bool.or_eq_true, Bool.and_eq_false_iff, Bool.or_eq_false_iff, Bool.not_not, u8_eq] at hb13
    refine seq_any fun K5 hK5 => ?_
    refine region_plain (fun h => by cases h) hst2 hfr2 (by kernel_rfl) (by kernel_rfl) (.cons rfl (ob_assign rfl) <|
        .nil) ?_
    intro a3 w3 m3 hst3 hle3 hk3
    have hfr3 := hk3.fr (T' := [(0, _), (1, _), (2, _)]) (.old rfl rfl <| .old rfl rfl <| .new rfl <| .nil)
    replace h_t := h_t.mono hle3
    replace hk_t := hk_t.mono hle3
    replace hc1 := hc1.mono hle3
    replace hM := hM.trans hle3
    clear hst2 hfr2 hk3
    refine hK5 _ _ ?_; try clear hK5 K5
    refine wp_ret ?_
    repeat (with_reducible first | refine then_ret ?_ | refine block_ret ?_)
    exact fn_ret hst3 hfr3 rfl (.tmp rfl <| .nil) (by refine congrArg Value.bool ?_; rw [namedV_eq]; simp_all)
  · try simp only [Bool.not_eq_true', Bool.not_eq_false', decide_eq_true_eq, decide_eq_false_iff_not, Bool.and_eq_true, Bool.or_eq_true, Bool.and_eq_false_iff, Bool.or_eq_false_iff, Bool.not_not, u8_eq] at hb13
    refine wp_skip ?_
    refine hK3 _ _ ?_; try clear hK3 K3
    refine seq_any fun K7 hK7 => ?_
    refine seq_any fun K8 hK8 => ?_
    refine region_plain (fun h => by cases h) hst2 hfr2 (by kernel_rfl) (by kernel_rfl) (.cons rfl (ob_assign rfl) <|
        .nil) ?_
    intro a3 w3 m3 hst3 hle3 hk3
    have hfr3 := hk3.fr (T' := [(0, _), (2, _), (1, _), (3, _)]) (.old rfl rfl <| .old rfl rfl <| .old rfl rfl <| .new rfl <| .nil)
    replace h_t := h_t.mono hle3
    replace hk_t := hk_t.mono hle3
    replace hc1 := hc1.mono hle3
    replace hM := hM.trans hle3
    clear hst2 hfr2 hk3
    refine hK8 _ _ ?_; try clear hK8 K8
    refine wp_block ?_
    refine loop_any (T := [(0, _), (2, _), (1, _)]) (fun (y : Nat) => ([(3, .int .i64 (y : Int))] : List (Nat × Value))) (fun _ => _) (fun (y : Nat) m => (y ≤ t.kids.length) ∧ (namedL t.kids = namedL (t.kids.drop y))) (fun y => t.kids.length - y) (0) ⟨hst3, MLe.refl _, hfr3.sub (.cons rfl <| .cons rfl <| .cons rfl <| .cons rfl <| .nil), ⟨Nat.zero_le _, rfl⟩⟩ fun y a4 w4 m4 hh4 => ?_
    have hst4 := hh4.st; have hle4 := hh4.le; have hfr4 := hh4.fr; have hrel := hh4.rel; clear hh4
    replace h_t := h_t.mono hle4
    replace hk_t := hk_t.mono hle4
    replace hc1 := hc1.mono hle4
    clear hst3 hfr3
    replace hM := hM.trans hle4
    obtain ⟨hyn, hrem⟩ := hrel
    have hlh4 := hle4
    refine seq_any fun K10 hK10 => ?_
    refine seq_any fun K11 hK11 => ?_
    refine region_plain (fun h => by cases h) hst4 hfr4 (by kernel_rfl) (by kernel_rfl) (.cons rfl (ob_move rfl) <|
        .cons rfl (ob_fieldAddr rfl Tryd.underlying24 rfl Tryd.sizeOf22 rfl) <|
        .cons rfl (ob_load1 rfl hc1 Tryd.isAgg22 rfl) <|
        .cons rfl (ob_len rfl Tryd.underlying22) <|
        .cons rfl (ob_lss rfl rfl) <|
        .nil) ?_
    intro a5 w5 m5 hst5 hle5 hk5
    have hfr5 := hk5.fr (T' := [(3, _), (0, _), (2, _), (1, _), (18, _)]) (.old rfl rfl <| .old rfl rfl <| .old rfl rfl <| .old rfl rfl <| .new rfl <| .nil)
    replace h_t := h_t.mono hle5
    replace hk_t := hk_t.mono hle5
    replace hc1 := hc1.mono hle5
    have hlh5 := hlh4.trans hle5
    replace hM := hM.trans hle5
    clear hst4 hfr4 hk5
    refine hK11 _ _ ?_; try clear hK11 K11
    refine cond_any hfr5 rfl rfl (fun hb18 => ?_) (fun hb18 => ?_)
    · try simp only [Bool.not_eq_true', Bool.not_eq_false', decide_eq_true_eq, decide_eq_false_iff_not, Bool.and_eq_true, Bool.or_eq_true, Bool.and_eq_false_iff, Bool.or_eq_false_iff, Bool.not_not, u8_eq] at hb18
      refine wp_skip ?_
      refine hK10 _ _ ?_; try clear hK10 K10
      refine seq_any fun K12 hK12 => ?_
      refine wp_block ?_
      refine seq_any fun K13 hK13 => ?_
      obtain ⟨p14, vs14, x14, ho14, hd14, hm_x14, ht14, hcv14, hl14, hv14⟩ := hk_t.nth (k := y) (by omega)
      cases ho14
      obtain ⟨o14, c14, rfl, hkd14, hi14, hj14⟩ := hv14.open_
      have hbg14 := hkd14.big; have hcp14 := hkd14.cap
      try rw [hd14] at hrem
      try simp only [namedL] at hrem
      refine region_plain (fun h => by cases h) hst5 hfr5 (by kernel_rfl) (by kernel_rfl) (.cons rfl (ob_fieldAddr rfl Tryd.underlying24 rfl Tryd.sizeOf22 rfl) <|
          .cons rfl (ob_load1 rfl hc1 Tryd.isAgg22 rfl) <|
          .cons rfl (ob_move rfl) <|
          .cons rfl (ob_indexAddr (k := y) rfl rfl Tryd.underlying22 Tryd.sizeOf24 rfl (by omega)) <|
          .cons rfl (ob_loadS' rfl hcv14 Tryd.isAgg24 Tryd.sizeOf24 rfl rfl) <|
          .cons rfl (ob_callE rfl (.cons rfl <| .nil) Tryd.call24 (fun w m hK => by have hle_ := KC.le hK; have hA := KC.agree hK; have hM := hM.trans hle_; have h_t := h_t.mono hle_; have hk_t := hk_t.mono hle_; have hc1 := hc1.mono hle_; have hcv14 := hcv14.mono hle_; have hv14 := hv14.mono hle_; have hkd14 := hkd14.mono hle_; exact ih _ (by assumption) hA (by assumption) (Nat.le_trans (hbk _ (by assumption)) hb))) <|
          .cons rfl (ob_assign rfl) <|
          .nil) ?_
      intro a6 w6 m6 hst6 hle6 hk6
      have hfr6 := hk6.fr (T' := [(3, _), (0, _), (2, _), (1, _), (4, _)]) (.old rfl rfl <| .old rfl rfl <| .old rfl rfl <| .old rfl rfl <| .new rfl <| .nil)
      replace h_t := h_t.mono hle6
      replace hk_t := hk_t.mono hle6
      replace hc1 := hc1.mono hle6
      replace hcv14 := hcv14.mono hle6
      replace hv14 := hv14.mono hle6
      replace hkd14 := hkd14.mono hle6
      have hlh6 := hlh5.trans hle6
      replace hM := hM.trans hle6
      clear hst5 hfr5 hk6
      refine hK13 _ _ ?_; try clear hK13 K13
      refine seq_any fun K15 hK15 => ?_
      refine region_plain (fun h => by cases h) hst6 hfr6 (by kernel_rfl) (by kernel_rfl) (.cons rfl (ob_move rfl) <|
          .cons rfl (ob_not rfl) <|
          .nil) ?_
      intro a7 w7 m7 hst7 hle7 hk7
      have hfr7 := hk7.fr (T' := [(3, _), (0, _), (2, _), (1, _), (4, _), (28, _)]) (.old rfl rfl <| .old rfl rfl <| .old rfl rfl <| .old rfl rfl <| .old rfl rfl <| .new rfl <| .nil)
      replace h_t := h_t.mono hle7
      replace hk_t := hk_t.mono hle7
      replace hc1 := hc1.mono hle7
      replace hcv14 := hcv14.mono hle7
      replace hv14 := hv14.mono hle7
      replace hkd14 := hkd14.mono hle7
      have hlh7 := hlh6.trans hle7
      replace hM := hM.trans hle7
      clear hst6 hfr6 hk7
      refine hK15 _ _ ?_; try clear hK15 K15
      refine cond_any hfr7 rfl rfl (fun hb28 => ?_) (fun hb28 => ?_)
      · try simp only [Bool.not_eq_true', Bool.not_eq_false', decide_eq_true_eq, decide_eq_false_iff_not, Bool.and_eq_true, Bool.or_eq_true, Bool.and_eq_false_iff, Bool.or_eq_false_iff, Bool.not_not, u8_eq] at hb28
        refine seq_any fun K16 hK16 => ?_
        refine region_plain (fun h => by cases h) hst7 hfr7 (by kernel_rfl) (by kernel_rfl) (.cons rfl (ob_assign rfl) <|
            .nil) ?_
        intro a8 w8 m8 hst8 hle8 hk8
        have hfr8 := hk8.fr (T' := [(3, _), (0, _), (1, _), (4, _), (2, _)]) (.old rfl rfl <| .old rfl rfl <| .old rfl rfl <| .old rfl rfl <| .new rfl <| .nil)
        replace h_t := h_t.mono hle8
        replace hk_t := hk_t.mono hle8
        replace hc1 := hc1.mono hle8
        replace hcv14 := hcv14.mono hle8
        replace hv14 := hv14.mono hle8
        replace hkd14 := hkd14.mono hle8
        have hlh8 := hlh7.trans hle8
        replace hM := hM.trans hle8
        clear hst7 hfr7 hk8
        refine hK16 _ _ ?_; try clear hK16 K16
        refine wp_ret ?_
        repeat (with_reducible first | refine then_ret ?_ | refine block_ret ?_)
        exact fn_ret hst8 hfr8 rfl (.tmp rfl <| .nil) (by refine congrArg Value.bool ?_; rw [namedV_eq]; simp_all)
      · try simp only [Bool.not_eq_true', Bool.not_eq_false', decide_eq_true_eq, decide_eq_false_iff_not, Bool.and_eq_true, Bool.or_eq_true, Bool.and_eq_false_iff, Bool.or_eq_false_iff, Bool.not_not, u8_eq] at hb28
        refine wp_skip ?_
        refine hK12 _ _ ?_; try clear hK12 K12
        refine region_plain (fun h => by cases h) hst7 hfr7 (by kernel_rfl) (by kernel_rfl) (.cons rfl (ob_move rfl) <|
            .cons rfl (ob_add rfl rfl ⟨by omega, by omega⟩) <|
            .cons rfl (ob_assign rfl) <|
            .nil) ?_
        intro a8 w8 m8 hst8 hle8 hk8
        have hfr8 := hk8.fr (T' := [(0, _), (2, _), (1, _), (4, _), (3, _)]) (.old rfl rfl <| .old rfl rfl <| .old rfl rfl <| .old rfl rfl <| .new rfl <| .nil)
        replace h_t := h_t.mono hle8
        replace hk_t := hk_t.mono hle8
        replace hc1 := hc1.mono hle8
        replace hcv14 := hcv14.mono hle8
        replace hv14 := hv14.mono hle8
        replace hkd14 := hkd14.mono hle8
        have hlh8 := hlh7.trans hle8
        replace hM := hM.trans hle8
        clear hst7 hfr7 hk8
        exact ⟨y + 1, m8, by show t.kids.length - (y + 1) < t.kids.length - y; omega, ⟨hst8, hlh8, hfr8.sub (.cons rfl <| .cons rfl <| .cons rfl <| .cons rfl <| .nil), ⟨by show y + 1 ≤ t.kids.length; omega, by simp_all⟩⟩⟩
    · try simp only [Bool.not_eq_true', Bool.not_eq_false', decide_eq_true_eq, decide_eq_false_iff_not, Bool.and_eq_true, Bool.or_eq_true, Bool.and_eq_false_iff, Bool.or_eq_false_iff, Bool.not_not, u8_eq] at hb18
      have hge : y = t.kids.length := by omega
      rw [List.drop_of_length_le (by omega)] at hrem
      simp only [namedL] at hrem
      refine wp_exit ?_
      refine hK7 _ _ ?_; try clear hK7 K7
      refine seq_any fun K18 hK18 => ?_
      refine region_plain (fun h => by cases h) hst5 hfr5 (by kernel_rfl) (by kernel_rfl) (.cons rfl (ob_assign rfl) <|
          .nil) ?_
      intro a6 w6 m6 hst6 hle6 hk6
      have hfr6 := hk6.fr (T' := [(3, _), (0, _), (1, _), (2, _)]) (.old rfl rfl <| .old rfl rfl <| .old rfl rfl <| .new rfl <| .nil)
      replace h_t := h_t.mono hle6
      replace hk_t := hk_t.mono hle6
      replace hc1 := hc1.mono hle6
      have hlh6 := hlh5.trans hle6
      replace hM := hM.trans hle6
      clear hst5 hfr5 hk6
      refine hK18 _ _ ?_; try clear hK18 K18
      refine wp_ret ?_
      repeat (with_reducible first | refine then_ret ?_ | refine block_ret ?_)
      exact fn_ret hst6 hfr6 rfl (.tmp rfl <| .nil) (by refine congrArg Value.bool ?_; rw [namedV_eq]; simp_all)
theorem named_c (t : VT) : named_G t := VT.rec_ (p := named_G) (fun t ih => named_s ih) t

abbrev deep_G (t : VT) : Prop := ∀ {w : World} {m : Mem} {vs_t : List Value} (hA : Agree w m) (h_t : VR m t vs_t) (hb : bulkV t ≤ 1073741824), FnV Tryd.prog 25 #[.agg vs_t.toArray] w m (fun _ _ v => v = .int .i64 (deepV t : Int))
set_option maxHeartbeats 400000 in
theorem deep_s {t : VT} (ih : ∀ u ∈ t.kids, deep_G u) {w : World} {m : Mem} {vs_t : List Value} (hA : Agree w m) (h_t : VR m t vs_t) (hb : bulkV t ≤ 1073741824) : FnV Tryd.prog 25 #[.agg vs_t.toArray] w m (fun _ _ v => v = .int .i64 (deepV t : Int)) := by
  obtain ⟨o_t, c_t, rfl, hk_t, hi_t, hj_t⟩ := h_t.open_
  have hbg_t := hk_t.big; have hcp_t := hk_t.cap
  refine fn_enter (vs := [_]) Tryd.func25 rfl rfl rfl fun a0 hfr0 => ?_
  have hst0 := st_enter hA (loc_nil [] _ w m)
  have hM : MLe m m := MLe.refl m
  have hbk := fun u (hu : u ∈ t.kids) => bulk_kid hu
  have hdb := deep_bulk t
  have hde := deepV_eq t
  refine seq_any fun K1 hK1 => ?_
  refine region_plain (fun h => by cases h) hst0 hfr0 (by kernel_rfl) (by kernel_rfl) (.cons rfl (ob_box rfl rfl) <|
      .cons rfl (ob_assign rfl) <|
      .nil) ?_
  intro a1 w1 m1 hst1 hle1 hk1
  have hfr1 := hk1.fr (T' := [(0, _), (2, _)]) (.old rfl rfl <| .new rfl <| .nil)
  obtain ⟨g2, e2, hc1⟩ := hk1.ex 1 rfl
  replace hfr1 := hfr1.cons e2
  replace h_t := h_t.mono hle1
  replace hk_t := hk_t.mono hle1
  replace hM := hM.trans hle1
  clear hst0 hfr0 hk1
  refine hK1 _ _ ?_; try clear hK1 K1
  refine seq_any fun K3 hK3 => ?_
  refine region_plain (fun h => by cases h) hst1 hfr1 (by kernel_rfl) (by kernel_rfl) (.cons rfl (ob_assign rfl) <|
      .nil) ?_
  intro a2 w2 m2 hst2 hle2 hk2
  have hfr2 := hk2.fr (T' := [(0, _), (2, _), (1, _), (3, _)]) (.old rfl rfl <| .old rfl rfl <| .old rfl rfl <| .new rfl <| .nil)
  replace h_t := h_t.mono hle2
  replace hk_t := hk_t.mono hle2
  replace hc1 := hc1.mono hle2
  replace hM := hM.trans hle2
  clear hst1 hfr1 hk2
  refine hK3 _ _ ?_; try clear hK3 K3
  refine seq_any fun K4 hK4 => ?_
  refine seq_any fun K5 hK5 => ?_
  refine region_plain (fun h => by cases h) hst2 hfr2 (by kernel_rfl) (by kernel_rfl) (.cons rfl (ob_assign rfl) <|
      .nil) ?_
  intro a3 w3 m3 hst3 hle3 hk3
  have hfr3 := hk3.fr (T' := [(0, _), (2, _), (1, _), (3, _), (4, _)]) (.old rfl rfl <| .old rfl rfl <| .old rfl rfl <| .old rfl rfl <| .new rfl <| .nil)
  replace h_t := h_t.mono hle3
  replace hk_t := hk_t.mono hle3
  replace hc1 := hc1.mono hle3
  replace hM := hM.trans hle3
  clear hst2 hfr2 hk3
  refine hK5 _ _ ?_; try clear hK5 K5
  refine wp_block ?_
  refine loop_any (T := [(0, _), (2, _), (1, _)]) (fun (y : Nat × Int) => ([(3, .int .i64 y.2), (4, .int .i64 (y.1 : Int))] : List (Nat × Value))) (fun _ => _) (fun (y : Nat × Int) m => (fun (y : Nat) (a : Int) => (y ≤ t.kids.length) ∧ (a = (deepL (t.kids.take y) : Int))) y.1 y.2) (fun y => t.kids.length - y.1) ((0, 0)) ⟨hst3, MLe.refl _, hfr3.sub (.cons rfl <| .cons rfl <| .cons rfl <| .cons rfl <| .cons rfl <| .nil), ⟨Nat.zero_le _, rfl⟩⟩ fun y a4 w4 m4 hh4 => ?_
  have hst4 := hh4.st; have hle4 := hh4.le; have hfr4 := hh4.fr; have hrel := hh4.rel; clear hh4
  replace h_t := h_t.mono hle4
  replace hk_t := hk_t.mono hle4
  replace hc1 := hc1.mono hle4
  clear hst3 hfr3
  replace hM := hM.trans hle4
  obtain ⟨y, a⟩ := y
  dsimp only at hrel hfr4 hst4
  obtain ⟨hyn, ha⟩ := hrel
  have hlh4 := hle4
  refine seq_any fun K7 hK7 => ?_
  refine seq_any fun K8 hK8 => ?_
  refine region_plain (fun h => by cases h) hst4 hfr4 (by kernel_rfl) (by kernel_rfl) (.cons rfl (ob_move rfl) <|
      .cons rfl (ob_fieldAddr rfl Tryd.underlying24 rfl Tryd.sizeOf22 rfl) <|
      .cons rfl (ob_load1 rfl hc1 Tryd.isAgg22 rfl) <|
      .cons rfl (ob_len rfl Tryd.underlying22) <|
      .cons rfl (ob_lss rfl rfl) <|
      .nil) ?_
  intro a5 w5 m5 hst5 hle5 hk5
  have hfr5 := hk5.fr (T' := [(3, _), (4, _), (0, _), (2, _), (1, _), (9, _)]) (.old rfl rfl <| .old rfl rfl <| .old rfl rfl <| .old rfl rfl <| .old rfl rfl <| .new rfl <| .nil)
  replace h_t := h_t.mono hle5
  replace hk_t := hk_t.mono hle5
  replace hc1 := hc1.mono hle5
  have hlh5 := hlh4.trans hle5
  replace hM := hM.trans hle5
  clear hst4 hfr4 hk5
  refine hK8 _ _ ?_; try clear hK8 K8
  refine cond_any hfr5 rfl rfl (fun hb9 => ?_) (fun hb9 => ?_)
  · try simp only [Bool.not_eq_true', Bool.not_eq_false', decide_eq_true_eq, decide_eq_false_iff_not, Bool.and_eq_true, Bool.or_eq_true, Bool.and_eq_false_iff, Bool.or_eq_false_iff, Bool.not_not, u8_eq] at hb9
    refine wp_skip ?_
    refine hK7 _ _ ?_; try clear hK7 K7
    refine seq_any fun K9 hK9 => ?_
    refine wp_block ?_
    obtain ⟨p10, vs10, x10, ho10, hd10, hm_x10, ht10, hcv10, hl10, hv10⟩ := hk_t.nth (k := y) (by omega)
    cases ho10
    obtain ⟨o10, c10, rfl, hkd10, hi10, hj10⟩ := hv10.open_
    have hbg10 := hkd10.big; have hcp10 := hkd10.cap
    refine region_plain (fun h => by cases h) hst5 hfr5 (by kernel_rfl) (by kernel_rfl) (.cons rfl (ob_move rfl) <|
        .cons rfl (ob_fieldAddr rfl Tryd.underlying24 rfl Tryd.sizeOf22 rfl) <|
        .cons rfl (ob_load1 rfl hc1 Tryd.isAgg22 rfl) <|
        .cons rfl (ob_move rfl) <|
        .cons rfl (ob_indexAddr (k := y) rfl rfl Tryd.underlying22 Tryd.sizeOf24 rfl (by omega)) <|
        .cons rfl (ob_loadS' rfl hcv10 Tryd.isAgg24 Tryd.sizeOf24 rfl rfl) <|
        .cons rfl (ob_callE rfl (.cons rfl <| .nil) Tryd.call25 (fun w m hK => by have hle_ := KC.le hK; have hA := KC.agree hK; have hM := hM.trans hle_; have h_t := h_t.mono hle_; have hk_t := hk_t.mono hle_; have hc1 := hc1.mono hle_; have hcv10 := hcv10.mono hle_; have hv10 := hv10.mono hle_; have hkd10 := hkd10.mono hle_; exact ih _ (by assumption) hA (by assumption) (Nat.le_trans (hbk _ (by assumption)) hb))) <|
        .cons rfl (ob_max2 rfl rfl) <|
        .cons rfl (ob_assign rfl) <|
        .nil) ?_
    intro a6 w6 m6 hst6 hle6 hk6
    have hfr6 := hk6.fr (T' := [(4, _), (0, _), (2, _), (1, _), (3, _)]) (.old rfl rfl <| .old rfl rfl <| .old rfl rfl <| .old rfl rfl <| .new rfl <| .nil)
    replace h_t := h_t.mono hle6
    replace hk_t := hk_t.mono hle6
    replace hc1 := hc1.mono hle6
    replace hcv10 := hcv10.mono hle6
    replace hv10 := hv10.mono hle6
    replace hkd10 := hkd10.mono hle6
    have hlh6 := hlh5.trans hle6
    replace hM := hM.trans hle6
    clear hst5 hfr5 hk6
    refine hK9 _ _ ?_; try clear hK9 K9
    refine region_plain (fun h => by cases h) hst6 hfr6 (by kernel_rfl) (by kernel_rfl) (.cons rfl (ob_move rfl) <|
        .cons rfl (ob_add rfl rfl ⟨by omega, by omega⟩) <|
        .cons rfl (ob_assign rfl) <|
        .nil) ?_
    intro a7 w7 m7 hst7 hle7 hk7
    have hfr7 := hk7.fr (T' := [(0, _), (2, _), (1, _), (3, _), (4, _)]) (.old rfl rfl <| .old rfl rfl <| .old rfl rfl <| .old rfl rfl <| .new rfl <| .nil)
    replace h_t := h_t.mono hle7
    replace hk_t := hk_t.mono hle7
    replace hc1 := hc1.mono hle7
    replace hcv10 := hcv10.mono hle7
    replace hv10 := hv10.mono hle7
    replace hkd10 := hkd10.mono hle7
    have hlh7 := hlh6.trans hle7
    replace hM := hM.trans hle7
    clear hst6 hfr6 hk7
    have hz : (if ((deepV x10 : Nat) : Int) > a then ((deepV x10 : Nat) : Int) else a) = ((deepL (t.kids.take (y + 1)) : Nat) : Int) := by rw [ht10, deepL_snoc, ha]; split <;> omega
    rw [hz] at hfr7
    exact ⟨(y + 1, _), m7, by show t.kids.length - (y + 1) < t.kids.length - y; omega, ⟨hst7, hlh7, hfr7.sub (.cons rfl <| .cons rfl <| .cons rfl <| .cons rfl <| .cons rfl <| .nil), ⟨by show y + 1 ≤ t.kids.length; omega, rfl⟩⟩⟩
  · try simp only [Bool.not_eq_true', Bool.not_eq_false', decide_eq_true_eq, decide_eq_false_iff_not, Bool.and_eq_true, Bool.or_eq_true, Bool.and_eq_false_iff, Bool.or_eq_false_iff, Bool.not_not, u8_eq] at hb9
    have hge : y = t.kids.length := by omega
    rw [List.take_of_length_le (by omega)] at ha
    refine wp_exit ?_
    refine hK4 _ _ ?_; try clear hK4 K4
    refine seq_any fun K11 hK11 => ?_
    refine region_plain (fun h => by cases h) hst5 hfr5 (by kernel_rfl) (by kernel_rfl) (.cons rfl (ob_move rfl) <|
        .cons rfl (ob_add rfl rfl ⟨by omega, by omega⟩) <|
        .cons rfl (ob_assign rfl) <|
        .nil) ?_
    intro a6 w6 m6 hst6 hle6 hk6
    have hfr6 := hk6.fr (T' := [(3, _), (4, _), (0, _), (1, _), (2, _)]) (.old rfl rfl <| .old rfl rfl <| .old rfl rfl <| .old rfl rfl <| .new rfl <| .nil)
    replace h_t := h_t.mono hle6
    replace hk_t := hk_t.mono hle6
    replace hc1 := hc1.mono hle6
    have hlh6 := hlh5.trans hle6
    replace hM := hM.trans hle6
    clear hst5 hfr5 hk6
    refine hK11 _ _ ?_; try clear hK11 K11
    refine wp_ret ?_
    repeat (with_reducible first | refine then_ret ?_ | refine block_ret ?_)
    exact fn_ret hst6 hfr6 rfl (.tmp rfl <| .nil) (by refine congrArg (Value.int _) ?_; omega)
theorem deep_c (t : VT) : deep_G t := VT.rec_ (p := deep_G) (fun t ih => deep_s ih) t

set_option maxHeartbeats 400000 in
theorem mag_c {w : World} {m : Mem} {n : Int} (hA : Agree w m)  : FnV Tryd.prog 23 #[.int .i64 n] w m (fun _ _ v => v = .int .u64 (magI n)) := by
  refine fn_enter (vs := [_]) Tryd.func23 rfl rfl rfl fun a0 hfr0 => ?_
  have hst0 := st_enter hA (loc_nil [] _ w m)
  have hM : MLe m m := MLe.refl m
  refine seq_any fun K1 hK1 => ?_
  refine region_plain (fun h => by cases h) hst0 hfr0 (by kernel_rfl) (by kernel_rfl) (.cons rfl (ob_assign rfl) <|
      .nil) ?_
  intro a1 w1 m1 hst1 hle1 hk1
  have hfr1 := hk1.fr (T' := [(0, _), (2, _)]) (.old rfl rfl <| .new rfl <| .nil)
  replace hM := hM.trans hle1
  clear hst0 hfr0 hk1
  refine hK1 _ _ ?_; try clear hK1 K1
  refine seq_any fun K2 hK2 => ?_
  refine seq_any fun K3 hK3 => ?_
  refine region_plain (fun h => by cases h) hst1 hfr1 (by kernel_rfl) (by kernel_rfl) (.cons rfl (ob_move rfl) <|
      .cons rfl (ob_lss rfl rfl) <|
      .nil) ?_
  intro a2 w2 m2 hst2 hle2 hk2
  have hfr2 := hk2.fr (T' := [(0, _), (2, _), (4, _)]) (.old rfl rfl <| .old rfl rfl <| .new rfl <| .nil)
  replace hM := hM.trans hle2
  clear hst1 hfr1 hk2
  refine hK3 _ _ ?_; try clear hK3 K3
  refine cond_any hfr2 rfl rfl (fun hb4 => ?_) (fun hb4 => ?_)
  · try simp only [Bool.not_eq_true', Bool.not_eq_false', decide_eq_true_eq, decide_eq_false_iff_not, Bool.and_eq_true, Bool.or_eq_true, Bool.and_eq_false_iff, Bool.or_eq_false_iff, Bool.not_not, u8_eq] at hb4
    refine seq_any fun K4 hK4 => ?_
    refine region_plain (fun h => by cases h) hst2 hfr2 (by kernel_rfl) (by kernel_rfl) (.cons rfl (ob_move rfl) <|
        .cons rfl (ob_conv_int rfl Tryd.underlying3 Tryd.underlying35) <|
        .cons rfl (ob_subW rfl rfl) <|
        .cons rfl (ob_assign rfl) <|
        .nil) ?_
    intro a3 w3 m3 hst3 hle3 hk3
    have hfr3 := hk3.fr (T' := [(0, _), (2, _)]) (.old rfl rfl <| .new rfl <| .nil)
    replace hM := hM.trans hle3
    clear hst2 hfr2 hk3
    refine hK4 _ _ ?_; try clear hK4 K4
    refine wp_ret ?_
    repeat (with_reducible first | refine then_ret ?_ | refine block_ret ?_)
    exact fn_ret hst3 hfr3 rfl (.tmp rfl <| .nil) (by refine congrArg (Value.int .u64) ?_; unfold magI; split <;> first | rfl | omega)
  · try simp only [Bool.not_eq_true', Bool.not_eq_false', decide_eq_true_eq, decide_eq_false_iff_not, Bool.and_eq_true, Bool.or_eq_true, Bool.and_eq_false_iff, Bool.or_eq_false_iff, Bool.not_not, u8_eq] at hb4
    refine wp_skip ?_
    refine hK2 _ _ ?_; try clear hK2 K2
    refine seq_any fun K6 hK6 => ?_
    refine region_plain (fun h => by cases h) hst2 hfr2 (by kernel_rfl) (by kernel_rfl) (.cons rfl (ob_move rfl) <|
        .cons rfl (ob_conv_int rfl Tryd.underlying3 Tryd.underlying35) <|
        .cons rfl (ob_assign rfl) <|
        .nil) ?_
    intro a3 w3 m3 hst3 hle3 hk3
    have hfr3 := hk3.fr (T' := [(0, _), (2, _)]) (.old rfl rfl <| .new rfl <| .nil)
    replace hM := hM.trans hle3
    clear hst2 hfr2 hk3
    refine hK6 _ _ ?_; try clear hK6 K6
    refine wp_ret ?_
    repeat (with_reducible first | refine then_ret ?_ | refine block_ret ?_)
    exact fn_ret hst3 hfr3 rfl (.tmp rfl <| .nil) (by refine congrArg (Value.int .u64) ?_; unfold magI; split <;> first | rfl | omega)

abbrev rtext_G (t : VT) : Prop := ∀ {w : World} {m : Mem} {vs_t : List Value} (hA : Agree w m) (h_t : VR m t vs_t) (hb : bulkV t ≤ 1073741824), FnV Tryd.prog 27 #[.agg vs_t.toArray] w m (fun _ _ v => v = S (textV t))
set_option maxHeartbeats 400000 in
theorem rtext_s {t : VT} (ih : ∀ u ∈ t.kids, rtext_G u) {w : World} {m : Mem} {vs_t : List Value} (hA : Agree w m) (h_t : VR m t vs_t) (hb : bulkV t ≤ 1073741824) : FnV Tryd.prog 27 #[.agg vs_t.toArray] w m (fun _ _ v => v = S (textV t)) := by
  obtain ⟨o_t, c_t, rfl, hk_t, hi_t, hj_t⟩ := h_t.open_
  have hbg_t := hk_t.big; have hcp_t := hk_t.cap
  refine fn_enter (vs := [_]) Tryd.func27 rfl rfl rfl fun a0 hfr0 => ?_
  have hst0 := st_enter hA (loc_nil [] _ w m)
  have hM : MLe m m := MLe.refl m
  have hbk := fun u (hu : u ∈ t.kids) => bulk_kid hu
  have hkn := bulk_kids t
  have hil := itoa_len hj_t
  have hbe := bulkV_eq t
  refine seq_any fun K1 hK1 => ?_
  refine region_plain (fun h => by cases h) hst0 hfr0 (by kernel_rfl) (by kernel_rfl) (.cons rfl (ob_box rfl rfl) <|
      .cons rfl (ob_assign rfl) <|
      .nil) ?_
  intro a1 w1 m1 hst1 hle1 hk1
  have hfr1 := hk1.fr (T' := [(0, _), (2, _)]) (.old rfl rfl <| .new rfl <| .nil)
  obtain ⟨g2, e2, hc1⟩ := hk1.ex 1 rfl
  replace hfr1 := hfr1.cons e2
  replace h_t := h_t.mono hle1
  replace hk_t := hk_t.mono hle1
  replace hM := hM.trans hle1
  clear hst0 hfr0 hk1
  refine hK1 _ _ ?_; try clear hK1 K1
  refine seq_any fun K3 hK3 => ?_
  refine seq_any fun K4 hK4 => ?_
  refine region_plain (fun h => by cases h) hst1 hfr1 (by kernel_rfl) (by kernel_rfl) (.cons rfl (ob_fieldAddr rfl Tryd.underlying24 rfl Tryd.sizeOf3 rfl) <|
      .cons rfl (ob_load1 rfl hc1 Tryd.isAgg3 rfl) <|
      .nil) ?_
  intro a2 w2 m2 hst2 hle2 hk2
  have hfr2 := hk2.fr (T' := [(0, _), (2, _), (1, _), (7, _)]) (.old rfl rfl <| .old rfl rfl <| .old rfl rfl <| .new rfl <| .nil)
  replace h_t := h_t.mono hle2
  replace hk_t := hk_t.mono hle2
  replace hc1 := hc1.mono hle2
  replace hM := hM.trans hle2
  clear hst1 hfr1 hk2
  refine hK4 _ _ ?_; try clear hK4 K4
  refine wp_block ?_
  refine seq_any fun K5 hK5 => ?_
  refine region_plain (fun h => by cases h) hst2 hfr2 (by kernel_rfl) (by kernel_rfl) (.cons rfl (ob_eql rfl rfl) <|
      .cons rfl (ob_assign rfl) <|
      .nil) ?_
  intro a3 w3 m3 hst3 hle3 hk3
  have hfr3 := hk3.fr (T' := [(0, _), (2, _), (1, _), (7, _), (8, _)]) (.old rfl rfl <| .old rfl rfl <| .old rfl rfl <| .old rfl rfl <| .new rfl <| .nil)
  replace h_t := h_t.mono hle3
  replace hk_t := hk_t.mono hle3
  replace hc1 := hc1.mono hle3
  replace hM := hM.trans hle3
  clear hst2 hfr2 hk3
  refine hK5 _ _ ?_; try clear hK5 K5
  refine cond_any hfr3 rfl rfl (fun hb8 => ?_) (fun hb8 => ?_)
  · try simp only [Bool.not_eq_true', Bool.not_eq_false', decide_eq_true_eq, decide_eq_false_iff_not, Bool.and_eq_true, Bool.or_eq_true, Bool.and_eq_false_iff, Bool.or_eq_false_iff, Bool.not_not, u8_eq] at hb8
    refine seq_any fun K6 hK6 => ?_
    refine region_plain (fun h => by cases h) hst3 hfr3 (by kernel_rfl) (by kernel_rfl) (.cons rfl (ob_fieldAddr rfl Tryd.underlying24 rfl Tryd.sizeOf3 rfl) <|
        .cons rfl (ob_load1 rfl hc1 Tryd.isAgg3 rfl) <|
        .cons rfl (ob_callE rfl (.cons rfl <| .nil) Tryd.call45 (fun w m hK => by have hle_ := KC.le hK; have hA := KC.agree hK; have hM := hM.trans hle_; exact digits_c _ hA hj_t)) <|
        .cons rfl (ob_assign rfl) <|
        .nil) ?_
    intro a4 w4 m4 hst4 hle4 hk4
    have hfr4 := hk4.fr (T' := [(0, _), (1, _), (7, _), (2, _)]) (.old rfl rfl <| .old rfl rfl <| .old rfl rfl <| .new rfl <| .nil)
    replace h_t := h_t.mono hle4
    replace hk_t := hk_t.mono hle4
    replace hc1 := hc1.mono hle4
    replace hM := hM.trans hle4
    clear hst3 hfr3 hk4
    refine hK6 _ _ ?_; try clear hK6 K6
    refine wp_ret ?_
    repeat (with_reducible first | refine then_ret ?_ | refine block_ret ?_)
    exact fn_ret hst4 hfr4 rfl (.tmp rfl <| .nil) (by refine congrArg S ?_; rw [textV_eq]; unfold textB; simp_all [pre, fb_t, fb_f]; try (split <;> simp_all))
  · try simp only [Bool.not_eq_true', Bool.not_eq_false', decide_eq_true_eq, decide_eq_false_iff_not, Bool.and_eq_true, Bool.or_eq_true, Bool.and_eq_false_iff, Bool.or_eq_false_iff, Bool.not_not, u8_eq] at hb8
    refine seq_any fun K8 hK8 => ?_
    refine region_plain (fun h => by cases h) hst3 hfr3 (by kernel_rfl) (by kernel_rfl) (.cons rfl (ob_eql rfl rfl) <|
        .cons rfl (ob_assign rfl) <|
        .nil) ?_
    intro a4 w4 m4 hst4 hle4 hk4
    have hfr4 := hk4.fr (T' := [(0, _), (2, _), (1, _), (7, _), (13, _)]) (.old rfl rfl <| .old rfl rfl <| .old rfl rfl <| .old rfl rfl <| .new rfl <| .nil)
    replace h_t := h_t.mono hle4
    replace hk_t := hk_t.mono hle4
    replace hc1 := hc1.mono hle4
    replace hM := hM.trans hle4
    clear hst3 hfr3 hk4
    refine hK8 _ _ ?_; try clear hK8 K8
    refine cond_any hfr4 rfl rfl (fun hb13 => ?_) (fun hb13 => ?_)
    · try simp only [Bool.not_eq_true', Bool.not_eq_false', decide_eq_true_eq, decide_eq_false_iff_not, Bool.and_eq_true, Bool.or_eq_true, Bool.and_eq_false_iff, Bool.or_eq_false_iff, Bool.not_not, u8_eq] at hb13
      refine seq_any fun K9 hK9 => ?_
      refine seq_any fun K10 hK10 => ?_
      refine region_plain (fun h => by cases h) hst4 hfr4 (by kernel_rfl) (by kernel_rfl) (.cons rfl (ob_fieldAddr rfl Tryd.underlying24 rfl Tryd.sizeOf3 rfl) <|
          .cons rfl (ob_load1 rfl hc1 Tryd.isAgg3 rfl) <|
          .cons rfl (ob_eql rfl rfl) <|
          .nil) ?_
      intro a5 w5 m5 hst5 hle5 hk5
      have hfr5 := hk5.fr (T' := [(0, _), (2, _), (1, _), (7, _), (17, _)]) (.old rfl rfl <| .old rfl rfl <| .old rfl rfl <| .old rfl rfl <| .new rfl <| .nil)
      replace h_t := h_t.mono hle5
      replace hk_t := hk_t.mono hle5
      replace hc1 := hc1.mono hle5
      replace hM := hM.trans hle5
      clear hst4 hfr4 hk5
      refine hK10 _ _ ?_; try clear hK10 K10
      refine cond_any hfr5 rfl rfl (fun hb17 => ?_) (fun hb17 => ?_)
      · try simp only [Bool.not_eq_true', Bool.not_eq_false', decide_eq_true_eq, decide_eq_false_iff_not, Bool.and_eq_true, Bool.or_eq_true, Bool.and_eq_false_iff, Bool.or_eq_false_iff, Bool.not_not, u8_eq] at hb17
        refine seq_any fun K11 hK11 => ?_
        refine region_plain (fun h => by cases h) hst5 hfr5 (by kernel_rfl) (by kernel_rfl) (.cons rfl (ob_assign rfl) <|
            .nil) ?_
        intro a6 w6 m6 hst6 hle6 hk6
        have hfr6 := hk6.fr (T' := [(0, _), (1, _), (7, _), (2, _)]) (.old rfl rfl <| .old rfl rfl <| .old rfl rfl <| .new rfl <| .nil)
        replace h_t := h_t.mono hle6
        replace hk_t := hk_t.mono hle6
        replace hc1 := hc1.mono hle6
        replace hM := hM.trans hle6
        clear hst5 hfr5 hk6
        refine hK11 _ _ ?_; try clear hK11 K11
        refine wp_ret ?_
        repeat (with_reducible first | refine then_ret ?_ | refine block_ret ?_)
        exact fn_ret hst6 hfr6 rfl (.tmp rfl <| .nil) (by refine congrArg S ?_; rw [textV_eq]; unfold textB; simp_all [pre, fb_t, fb_f]; try (split <;> simp_all))
      · try simp only [Bool.not_eq_true', Bool.not_eq_false', decide_eq_true_eq, decide_eq_false_iff_not, Bool.and_eq_true, Bool.or_eq_true, Bool.and_eq_false_iff, Bool.or_eq_false_iff, Bool.not_not, u8_eq] at hb17
        refine wp_skip ?_
        refine hK9 _ _ ?_; try clear hK9 K9
        refine seq_any fun K13 hK13 => ?_
        refine region_plain (fun h => by cases h) hst5 hfr5 (by kernel_rfl) (by kernel_rfl) (.cons rfl (ob_assign rfl) <|
            .nil) ?_
        intro a6 w6 m6 hst6 hle6 hk6
        have hfr6 := hk6.fr (T' := [(0, _), (1, _), (7, _), (2, _)]) (.old rfl rfl <| .old rfl rfl <| .old rfl rfl <| .new rfl <| .nil)
        replace h_t := h_t.mono hle6
        replace hk_t := hk_t.mono hle6
        replace hc1 := hc1.mono hle6
        replace hM := hM.trans hle6
        clear hst5 hfr5 hk6
        refine hK13 _ _ ?_; try clear hK13 K13
        refine wp_ret ?_
        repeat (with_reducible first | refine then_ret ?_ | refine block_ret ?_)
        exact fn_ret hst6 hfr6 rfl (.tmp rfl <| .nil) (by refine congrArg S ?_; rw [textV_eq]; unfold textB; simp_all [pre, fb_t, fb_f]; try (split <;> simp_all))
    · try simp only [Bool.not_eq_true', Bool.not_eq_false', decide_eq_true_eq, decide_eq_false_iff_not, Bool.and_eq_true, Bool.or_eq_true, Bool.and_eq_false_iff, Bool.or_eq_false_iff, Bool.not_not, u8_eq] at hb13
      refine seq_any fun K15 hK15 => ?_
      refine region_plain (fun h => by cases h) hst4 hfr4 (by kernel_rfl) (by kernel_rfl) (.cons rfl (ob_eql rfl rfl) <|
          .cons rfl (ob_assign rfl) <|
          .nil) ?_
      intro a5 w5 m5 hst5 hle5 hk5
      have hfr5 := hk5.fr (T' := [(0, _), (2, _), (1, _), (7, _), (18, _)]) (.old rfl rfl <| .old rfl rfl <| .old rfl rfl <| .old rfl rfl <| .new rfl <| .nil)
      replace h_t := h_t.mono hle5
      replace hk_t := hk_t.mono hle5
      replace hc1 := hc1.mono hle5
      replace hM := hM.trans hle5
      clear hst4 hfr4 hk5
      refine hK15 _ _ ?_; try clear hK15 K15
      refine cond_any hfr5 rfl rfl (fun hb18 => ?_) (fun hb18 => ?_)
      · try simp only [Bool.not_eq_true', Bool.not_eq_false', decide_eq_true_eq, decide_eq_false_iff_not, Bool.and_eq_true, Bool.or_eq_true, Bool.and_eq_false_iff, Bool.or_eq_false_iff, Bool.not_not, u8_eq] at hb18
        refine seq_any fun K16 hK16 => ?_
        refine region_plain (fun h => by cases h) hst5 hfr5 (by kernel_rfl) (by kernel_rfl) (.cons rfl (ob_assign rfl) <|
            .nil) ?_
        intro a6 w6 m6 hst6 hle6 hk6
        have hfr6 := hk6.fr (T' := [(0, _), (1, _), (7, _), (2, _)]) (.old rfl rfl <| .old rfl rfl <| .old rfl rfl <| .new rfl <| .nil)
        replace h_t := h_t.mono hle6
        replace hk_t := hk_t.mono hle6
        replace hc1 := hc1.mono hle6
        replace hM := hM.trans hle6
        clear hst5 hfr5 hk6
        refine hK16 _ _ ?_; try clear hK16 K16
        refine wp_ret ?_
        repeat (with_reducible first | refine then_ret ?_ | refine block_ret ?_)
        exact fn_ret hst6 hfr6 rfl (.tmp rfl <| .nil) (by refine congrArg S ?_; rw [textV_eq]; unfold textB; simp_all [pre, fb_t, fb_f]; try (split <;> simp_all))
      · try simp only [Bool.not_eq_true', Bool.not_eq_false', decide_eq_true_eq, decide_eq_false_iff_not, Bool.and_eq_true, Bool.or_eq_true, Bool.and_eq_false_iff, Bool.or_eq_false_iff, Bool.not_not, u8_eq] at hb18
        refine seq_any fun K18 hK18 => ?_
        refine region_plain (fun h => by cases h) hst5 hfr5 (by kernel_rfl) (by kernel_rfl) (.cons rfl (ob_eql rfl rfl) <|
            .cons rfl (ob_assign rfl) <|
            .nil) ?_
        intro a6 w6 m6 hst6 hle6 hk6
        have hfr6 := hk6.fr (T' := [(0, _), (2, _), (1, _), (7, _), (20, _)]) (.old rfl rfl <| .old rfl rfl <| .old rfl rfl <| .old rfl rfl <| .new rfl <| .nil)
        replace h_t := h_t.mono hle6
        replace hk_t := hk_t.mono hle6
        replace hc1 := hc1.mono hle6
        replace hM := hM.trans hle6
        clear hst5 hfr5 hk6
        refine hK18 _ _ ?_; try clear hK18 K18
        refine cond_any hfr6 rfl rfl (fun hb20 => ?_) (fun hb20 => ?_)
        · try simp only [Bool.not_eq_true', Bool.not_eq_false', decide_eq_true_eq, decide_eq_false_iff_not, Bool.and_eq_true, Bool.or_eq_true, Bool.and_eq_false_iff, Bool.or_eq_false_iff, Bool.not_not, u8_eq] at hb20
          refine seq_any fun K19 hK19 => ?_
          refine region_plain (fun h => by cases h) hst6 hfr6 (by kernel_rfl) (by kernel_rfl) (.cons rfl (ob_fieldAddr rfl Tryd.underlying24 rfl Tryd.sizeOf3 rfl) <|
              .cons rfl (ob_load1 rfl hc1 Tryd.isAgg3 rfl) <|
              .cons rfl (ob_callE rfl (.cons rfl <| .nil) Tryd.call45 (fun w m hK => by have hle_ := KC.le hK; have hA := KC.agree hK; have hM := hM.trans hle_; exact digits_c _ hA hj_t)) <|
              .cons rfl (ob_sadd rfl rfl (by first | omega | (simp only [List.length_append, List.length_cons, List.length_nil, List.length_map]; omega))) <|
              .cons rfl (ob_assign rfl) <|
              .nil) ?_
          intro a7 w7 m7 hst7 hle7 hk7
          have hfr7 := hk7.fr (T' := [(0, _), (1, _), (7, _), (2, _)]) (.old rfl rfl <| .old rfl rfl <| .old rfl rfl <| .new rfl <| .nil)
          replace h_t := h_t.mono hle7
          replace hk_t := hk_t.mono hle7
          replace hc1 := hc1.mono hle7
          replace hM := hM.trans hle7
          clear hst6 hfr6 hk7
          refine hK19 _ _ ?_; try clear hK19 K19
          refine wp_ret ?_
          repeat (with_reducible first | refine then_ret ?_ | refine block_ret ?_)
          exact fn_ret hst7 hfr7 rfl (.tmp rfl <| .nil) (by refine congrArg S ?_; rw [textV_eq]; unfold textB; simp_all [pre, fb_t, fb_f]; try (split <;> simp_all))
        · try simp only [Bool.not_eq_true', Bool.not_eq_false', decide_eq_true_eq, decide_eq_false_iff_not, Bool.and_eq_true, Bool.or_eq_true, Bool.and_eq_false_iff, Bool.or_eq_false_iff, Bool.not_not, u8_eq] at hb20
          refine seq_any fun K21 hK21 => ?_
          refine region_plain (fun h => by cases h) hst6 hfr6 (by kernel_rfl) (by kernel_rfl) (.cons rfl (ob_eql rfl rfl) <|
              .cons rfl (ob_assign rfl) <|
              .nil) ?_
          intro a7 w7 m7 hst7 hle7 hk7
          have hfr7 := hk7.fr (T' := [(0, _), (2, _), (1, _), (7, _), (26, _)]) (.old rfl rfl <| .old rfl rfl <| .old rfl rfl <| .old rfl rfl <| .new rfl <| .nil)
          replace h_t := h_t.mono hle7
          replace hk_t := hk_t.mono hle7
          replace hc1 := hc1.mono hle7
          replace hM := hM.trans hle7
          clear hst6 hfr6 hk7
          refine hK21 _ _ ?_; try clear hK21 K21
          refine cond_any hfr7 rfl rfl (fun hb26 => ?_) (fun hb26 => ?_)
          · try simp only [Bool.not_eq_true', Bool.not_eq_false', decide_eq_true_eq, decide_eq_false_iff_not, Bool.and_eq_true, Bool.or_eq_true, Bool.and_eq_false_iff, Bool.or_eq_false_iff, Bool.not_not, u8_eq] at hb26
            refine seq_any fun K22 hK22 => ?_
            refine region_plain (fun h => by cases h) hst7 hfr7 (by kernel_rfl) (by kernel_rfl) (.cons rfl (ob_assign rfl) <|
                .nil) ?_
            intro a8 w8 m8 hst8 hle8 hk8
            have hfr8 := hk8.fr (T' := [(0, _), (1, _), (7, _), (2, _)]) (.old rfl rfl <| .old rfl rfl <| .old rfl rfl <| .new rfl <| .nil)
            replace h_t := h_t.mono hle8
            replace hk_t := hk_t.mono hle8
            replace hc1 := hc1.mono hle8
            replace hM := hM.trans hle8
            clear hst7 hfr7 hk8
            refine hK22 _ _ ?_; try clear hK22 K22
            refine wp_ret ?_
            repeat (with_reducible first | refine then_ret ?_ | refine block_ret ?_)
            exact fn_ret hst8 hfr8 rfl (.tmp rfl <| .nil) (by refine congrArg S ?_; rw [textV_eq]; unfold textB; simp_all [pre, fb_t, fb_f]; try (split <;> simp_all))
          · try simp only [Bool.not_eq_true', Bool.not_eq_false', decide_eq_true_eq, decide_eq_false_iff_not, Bool.and_eq_true, Bool.or_eq_true, Bool.and_eq_false_iff, Bool.or_eq_false_iff, Bool.not_not, u8_eq] at hb26
            refine wp_skip ?_
            refine hK3 _ _ ?_; try clear hK3 K3
            refine seq_any fun K24 hK24 => ?_
            refine region_plain (fun h => by cases h) hst7 hfr7 (by kernel_rfl) (by kernel_rfl) (.cons rfl (ob_fieldAddr rfl Tryd.underlying24 rfl Tryd.sizeOf9 rfl) <|
                .cons rfl (ob_load1 rfl hc1 Tryd.isAgg9 rfl) <|
                .cons rfl (ob_assign rfl) <|
                .nil) ?_
            intro a8 w8 m8 hst8 hle8 hk8
            have hfr8 := hk8.fr (T' := [(0, _), (2, _), (1, _), (7, _), (3, _)]) (.old rfl rfl <| .old rfl rfl <| .old rfl rfl <| .old rfl rfl <| .new rfl <| .nil)
            replace h_t := h_t.mono hle8
            replace hk_t := hk_t.mono hle8
            replace hc1 := hc1.mono hle8
            replace hM := hM.trans hle8
            clear hst7 hfr7 hk8
            refine hK24 _ _ ?_; try clear hK24 K24
            refine seq_any fun K25 hK25 => ?_
            refine seq_any fun K26 hK26 => ?_
            refine region_plain (fun h => by cases h) hst8 hfr8 (by kernel_rfl) (by kernel_rfl) (.cons rfl (ob_assign rfl) <|
                .nil) ?_
            intro a9 w9 m9 hst9 hle9 hk9
            have hfr9 := hk9.fr (T' := [(0, _), (2, _), (1, _), (7, _), (3, _), (4, _)]) (.old rfl rfl <| .old rfl rfl <| .old rfl rfl <| .old rfl rfl <| .old rfl rfl <| .new rfl <| .nil)
            replace h_t := h_t.mono hle9
            replace hk_t := hk_t.mono hle9
            replace hc1 := hc1.mono hle9
            replace hM := hM.trans hle9
            clear hst8 hfr8 hk9
            refine hK26 _ _ ?_; try clear hK26 K26
            refine wp_block ?_
            refine loop_any (T := [(0, _), (2, _), (1, _), (7, _)]) (fun (y : Nat × Str) => ([(3, S y.2), (4, .int .i64 (y.1 : Int))] : List (Nat × Value))) (fun _ => _) (fun (y : Nat × Str) m => (fun (y : Nat) (s : Str) => (y ≤ t.kids.length) ∧ (s = t.name ++ pre (t.kids.take y)) ∧ (s.length ≤ t.name.length + 26 * bulkL (t.kids.take y))) y.1 y.2) (fun y => t.kids.length - y.1) ((0, t.name)) ⟨hst9, MLe.refl _, hfr9.sub (.cons rfl <| .cons rfl <| .cons rfl <| .cons rfl <| .cons rfl <| .cons rfl <| .nil), ⟨Nat.zero_le _, by simp [pre], by simp⟩⟩ fun y a10 w10 m10 hh10 => ?_
            have hst10 := hh10.st; have hle10 := hh10.le; have hfr10 := hh10.fr; have hrel := hh10.rel; clear hh10
            replace h_t := h_t.mono hle10
            replace hk_t := hk_t.mono hle10
            replace hc1 := hc1.mono hle10
            clear hst9 hfr9
            replace hM := hM.trans hle10
            obtain ⟨y, s⟩ := y
            dsimp only at hrel hfr10 hst10
            obtain ⟨hyn, hs, hsl⟩ := hrel
            have hbt := bulkL_take t.kids y
            have hlh10 := hle10
            refine seq_any fun K28 hK28 => ?_
            refine seq_any fun K29 hK29 => ?_
            refine region_plain (fun h => by cases h) hst10 hfr10 (by kernel_rfl) (by kernel_rfl) (.cons rfl (ob_move rfl) <|
                .cons rfl (ob_fieldAddr rfl Tryd.underlying24 rfl Tryd.sizeOf22 rfl) <|
                .cons rfl (ob_load1 rfl hc1 Tryd.isAgg22 rfl) <|
                .cons rfl (ob_len rfl Tryd.underlying22) <|
                .cons rfl (ob_lss rfl rfl) <|
                .nil) ?_
            intro a11 w11 m11 hst11 hle11 hk11
            have hfr11 := hk11.fr (T' := [(3, _), (4, _), (0, _), (2, _), (1, _), (7, _), (34, _)]) (.old rfl rfl <| .old rfl rfl <| .old rfl rfl <| .old rfl rfl <| .old rfl rfl <| .old rfl rfl <| .new rfl <| .nil)
            replace h_t := h_t.mono hle11
            replace hk_t := hk_t.mono hle11
            replace hc1 := hc1.mono hle11
            have hlh11 := hlh10.trans hle11
            replace hM := hM.trans hle11
            clear hst10 hfr10 hk11
            refine hK29 _ _ ?_; try clear hK29 K29
            refine cond_any hfr11 rfl rfl (fun hb34 => ?_) (fun hb34 => ?_)
            · try simp only [Bool.not_eq_true', Bool.not_eq_false', decide_eq_true_eq, decide_eq_false_iff_not, Bool.and_eq_true, Bool.or_eq_true, Bool.and_eq_false_iff, Bool.or_eq_false_iff, Bool.not_not, u8_eq] at hb34
              refine wp_skip ?_
              refine hK28 _ _ ?_; try clear hK28 K28
              refine seq_any fun K30 hK30 => ?_
              refine wp_block ?_
              refine seq_any fun K31 hK31 => ?_
              have hk0 : t.kids ≠ [] := by intro e; rw [e] at hyn; simp_all
              obtain ⟨p32, vs32, x32, ho32, hd32, hm_x32, ht32, hcv32, hl32, hv32⟩ := hk_t.nth (k := y) (by omega)
              cases ho32
              obtain ⟨o32, c32, rfl, hkd32, hi32, hj32⟩ := hv32.open_
              have hbg32 := hkd32.big; have hcp32 := hkd32.cap
              refine region_plain (fun h => by cases h) hst11 hfr11 (by kernel_rfl) (by kernel_rfl) (.cons rfl (ob_fieldAddr rfl Tryd.underlying24 rfl Tryd.sizeOf22 rfl) <|
                  .cons rfl (ob_load1 rfl hc1 Tryd.isAgg22 rfl) <|
                  .cons rfl (ob_move rfl) <|
                  .cons rfl (ob_indexAddr (k := y) rfl rfl Tryd.underlying22 Tryd.sizeOf24 rfl (by omega)) <|
                  .cons rfl (ob_loadS' rfl hcv32 Tryd.isAgg24 Tryd.sizeOf24 rfl rfl) <|
                  .cons rfl (ob_callE rfl (.cons rfl <| .nil) Tryd.call27 (fun w m hK => by have hle_ := KC.le hK; have hA := KC.agree hK; have hM := hM.trans hle_; have h_t := h_t.mono hle_; have hk_t := hk_t.mono hle_; have hc1 := hc1.mono hle_; have hcv32 := hcv32.mono hle_; have hv32 := hv32.mono hle_; have hkd32 := hkd32.mono hle_; exact ih _ (by assumption) hA (by assumption) (Nat.le_trans (hbk _ (by assumption)) hb))) <|
                  .cons rfl (ob_assign rfl) <|
                  .nil) ?_
              intro a12 w12 m12 hst12 hle12 hk12
              have hfr12 := hk12.fr (T' := [(3, _), (4, _), (0, _), (2, _), (1, _), (7, _), (5, _)]) (.old rfl rfl <| .old rfl rfl <| .old rfl rfl <| .old rfl rfl <| .old rfl rfl <| .old rfl rfl <| .new rfl <| .nil)
              replace h_t := h_t.mono hle12
              replace hk_t := hk_t.mono hle12
              replace hc1 := hc1.mono hle12
              replace hcv32 := hcv32.mono hle12
              replace hv32 := hv32.mono hle12
              replace hkd32 := hkd32.mono hle12
              have hlh12 := hlh11.trans hle12
              replace hM := hM.trans hle12
              clear hst11 hfr11 hk12
              have hxl := VR.text_len x32 hv32
              have hxb := bulkL_mem hm_x32
              refine hK31 _ _ ?_; try clear hK31 K31
              refine seq_any fun K33 hK33 => ?_
              refine region_plain (fun h => by cases h) hst12 hfr12 (by kernel_rfl) (by kernel_rfl) (.cons rfl (ob_move rfl) <|
                  .cons rfl (ob_eql rfl rfl) <|
                  .nil) ?_
              intro a13 w13 m13 hst13 hle13 hk13
              have hfr13 := hk13.fr (T' := [(3, _), (4, _), (0, _), (2, _), (1, _), (7, _), (5, _), (44, _)]) (.old rfl rfl <| .old rfl rfl <| .old rfl rfl <| .old rfl rfl <| .old rfl rfl <| .old rfl rfl <| .old rfl rfl <| .new rfl <| .nil)
              replace h_t := h_t.mono hle13
              replace hk_t := hk_t.mono hle13
              replace hc1 := hc1.mono hle13
              replace hcv32 := hcv32.mono hle13
              replace hv32 := hv32.mono hle13
              replace hkd32 := hkd32.mono hle13
              have hlh13 := hlh12.trans hle13
              replace hM := hM.trans hle13
              clear hst12 hfr12 hk13
              refine hK33 _ _ ?_; try clear hK33 K33
              refine cond_any hfr13 rfl rfl (fun hb44 => ?_) (fun hb44 => ?_)
              · try simp only [Bool.not_eq_true', Bool.not_eq_false', decide_eq_true_eq, decide_eq_false_iff_not, Bool.and_eq_true, Bool.or_eq_true, Bool.and_eq_false_iff, Bool.or_eq_false_iff, Bool.not_not, u8_eq] at hb44
                refine region_plain (fun h => by cases h) hst13 hfr13 (by kernel_rfl) (by kernel_rfl) (.cons rfl (ob_move rfl) <|
                    .cons rfl (ob_sadd rfl rfl (by first | omega | (simp only [List.length_append, List.length_cons, List.length_nil, List.length_map]; omega))) <|
                    .cons rfl (ob_move rfl) <|
                    .cons rfl (ob_sadd rfl rfl (by first | omega | (simp only [List.length_append, List.length_cons, List.length_nil, List.length_map]; omega))) <|
                    .cons rfl (ob_assign rfl) <|
                    .nil) ?_
                intro a14 w14 m14 hst14 hle14 hk14
                have hfr14 := hk14.fr (T' := [(4, _), (0, _), (2, _), (1, _), (7, _), (5, _), (3, _)]) (.old rfl rfl <| .old rfl rfl <| .old rfl rfl <| .old rfl rfl <| .old rfl rfl <| .old rfl rfl <| .new rfl <| .nil)
                replace h_t := h_t.mono hle14
                replace hk_t := hk_t.mono hle14
                replace hc1 := hc1.mono hle14
                replace hcv32 := hcv32.mono hle14
                replace hv32 := hv32.mono hle14
                replace hkd32 := hkd32.mono hle14
                have hlh14 := hlh13.trans hle14
                replace hM := hM.trans hle14
                clear hst13 hfr13 hk14
                refine hK30 _ _ ?_; try clear hK30 K30
                refine region_plain (fun h => by cases h) hst14 hfr14 (by kernel_rfl) (by kernel_rfl) (.cons rfl (ob_move rfl) <|
                    .cons rfl (ob_add rfl rfl ⟨by omega, by omega⟩) <|
                    .cons rfl (ob_assign rfl) <|
                    .nil) ?_
                intro a15 w15 m15 hst15 hle15 hk15
                have hfr15 := hk15.fr (T' := [(0, _), (2, _), (1, _), (7, _), (5, _), (3, _), (4, _)]) (.old rfl rfl <| .old rfl rfl <| .old rfl rfl <| .old rfl rfl <| .old rfl rfl <| .old rfl rfl <| .new rfl <| .nil)
                replace h_t := h_t.mono hle15
                replace hk_t := hk_t.mono hle15
                replace hc1 := hc1.mono hle15
                replace hcv32 := hcv32.mono hle15
                replace hv32 := hv32.mono hle15
                replace hkd32 := hkd32.mono hle15
                have hlh15 := hlh14.trans hle15
                replace hM := hM.trans hle15
                clear hst14 hfr14 hk15
                exact ⟨(y + 1, _), m15, by show t.kids.length - (y + 1) < t.kids.length - y; omega, ⟨hst15, hlh15, hfr15.sub (.cons rfl <| .cons rfl <| .cons rfl <| .cons rfl <| .cons rfl <| .cons rfl <| .nil), ⟨by show y + 1 ≤ t.kids.length; omega, by rw [ht32, pre_snoc, hs]; simp_all, by rw [ht32, bulkL_snoc]; simp only [List.length_append, List.length_cons, List.length_nil]; omega⟩⟩⟩
              · try simp only [Bool.not_eq_true', Bool.not_eq_false', decide_eq_true_eq, decide_eq_false_iff_not, Bool.and_eq_true, Bool.or_eq_true, Bool.and_eq_false_iff, Bool.or_eq_false_iff, Bool.not_not, u8_eq] at hb44
                refine region_plain (fun h => by cases h) hst13 hfr13 (by kernel_rfl) (by kernel_rfl) (.cons rfl (ob_move rfl) <|
                    .cons rfl (ob_sadd rfl rfl (by first | omega | (simp only [List.length_append, List.length_cons, List.length_nil, List.length_map]; omega))) <|
                    .cons rfl (ob_move rfl) <|
                    .cons rfl (ob_sadd rfl rfl (by first | omega | (simp only [List.length_append, List.length_cons, List.length_nil, List.length_map]; omega))) <|
                    .cons rfl (ob_assign rfl) <|
                    .nil) ?_
                intro a14 w14 m14 hst14 hle14 hk14
                have hfr14 := hk14.fr (T' := [(4, _), (0, _), (2, _), (1, _), (7, _), (5, _), (3, _)]) (.old rfl rfl <| .old rfl rfl <| .old rfl rfl <| .old rfl rfl <| .old rfl rfl <| .old rfl rfl <| .new rfl <| .nil)
                replace h_t := h_t.mono hle14
                replace hk_t := hk_t.mono hle14
                replace hc1 := hc1.mono hle14
                replace hcv32 := hcv32.mono hle14
                replace hv32 := hv32.mono hle14
                replace hkd32 := hkd32.mono hle14
                have hlh14 := hlh13.trans hle14
                replace hM := hM.trans hle14
                clear hst13 hfr13 hk14
                refine hK30 _ _ ?_; try clear hK30 K30
                refine region_plain (fun h => by cases h) hst14 hfr14 (by kernel_rfl) (by kernel_rfl) (.cons rfl (ob_move rfl) <|
                    .cons rfl (ob_add rfl rfl ⟨by omega, by omega⟩) <|
                    .cons rfl (ob_assign rfl) <|
                    .nil) ?_
                intro a15 w15 m15 hst15 hle15 hk15
                have hfr15 := hk15.fr (T' := [(0, _), (2, _), (1, _), (7, _), (5, _), (3, _), (4, _)]) (.old rfl rfl <| .old rfl rfl <| .old rfl rfl <| .old rfl rfl <| .old rfl rfl <| .old rfl rfl <| .new rfl <| .nil)
                replace h_t := h_t.mono hle15
                replace hk_t := hk_t.mono hle15
                replace hc1 := hc1.mono hle15
                replace hcv32 := hcv32.mono hle15
                replace hv32 := hv32.mono hle15
                replace hkd32 := hkd32.mono hle15
                have hlh15 := hlh14.trans hle15
                replace hM := hM.trans hle15
                clear hst14 hfr14 hk15
                exact ⟨(y + 1, _), m15, by show t.kids.length - (y + 1) < t.kids.length - y; omega, ⟨hst15, hlh15, hfr15.sub (.cons rfl <| .cons rfl <| .cons rfl <| .cons rfl <| .cons rfl <| .cons rfl <| .nil), ⟨by show y + 1 ≤ t.kids.length; omega, by rw [ht32, pre_snoc, hs]; simp_all, by rw [ht32, bulkL_snoc]; simp only [List.length_append, List.length_cons, List.length_nil]; omega⟩⟩⟩
            · try simp only [Bool.not_eq_true', Bool.not_eq_false', decide_eq_true_eq, decide_eq_false_iff_not, Bool.and_eq_true, Bool.or_eq_true, Bool.and_eq_false_iff, Bool.or_eq_false_iff, Bool.not_not, u8_eq] at hb34
              have hge : y = t.kids.length := by omega
              rw [List.take_of_length_le (by omega)] at hs hsl
              refine wp_exit ?_
              refine hK25 _ _ ?_; try clear hK25 K25
              refine seq_any fun K34 hK34 => ?_
              refine seq_any fun K35 hK35 => ?_
              refine region_plain (fun h => by cases h) hst11 hfr11 (by kernel_rfl) (by kernel_rfl) (.cons rfl (ob_fieldAddr rfl Tryd.underlying24 rfl Tryd.sizeOf22 rfl) <|
                  .cons rfl (ob_load1 rfl hc1 Tryd.isAgg22 rfl) <|
                  .cons rfl (ob_len rfl Tryd.underlying22) <|
                  .cons rfl (ob_gtr rfl rfl) <|
                  .nil) ?_
              intro a12 w12 m12 hst12 hle12 hk12
              have hfr12 := hk12.fr (T' := [(3, _), (4, _), (0, _), (2, _), (1, _), (7, _), (56, _)]) (.old rfl rfl <| .old rfl rfl <| .old rfl rfl <| .old rfl rfl <| .old rfl rfl <| .old rfl rfl <| .new rfl <| .nil)
              replace h_t := h_t.mono hle12
              replace hk_t := hk_t.mono hle12
              replace hc1 := hc1.mono hle12
              have hlh12 := hlh11.trans hle12
              replace hM := hM.trans hle12
              clear hst11 hfr11 hk12
              refine hK35 _ _ ?_; try clear hK35 K35
              refine cond_any hfr12 rfl rfl (fun hb56 => ?_) (fun hb56 => ?_)
              · try simp only [Bool.not_eq_true', Bool.not_eq_false', decide_eq_true_eq, decide_eq_false_iff_not, Bool.and_eq_true, Bool.or_eq_true, Bool.and_eq_false_iff, Bool.or_eq_false_iff, Bool.not_not, u8_eq] at hb56
                refine region_plain (fun h => by cases h) hst12 hfr12 (by kernel_rfl) (by kernel_rfl) (.cons rfl (ob_move rfl) <|
                    .cons rfl (ob_sadd rfl rfl (by first | omega | (simp only [List.length_append, List.length_cons, List.length_nil, List.length_map]; omega))) <|
                    .cons rfl (ob_assign rfl) <|
                    .nil) ?_
                intro a13 w13 m13 hst13 hle13 hk13
                have hfr13 := hk13.fr (T' := [(4, _), (0, _), (2, _), (1, _), (7, _), (3, _)]) (.old rfl rfl <| .old rfl rfl <| .old rfl rfl <| .old rfl rfl <| .old rfl rfl <| .new rfl <| .nil)
                replace h_t := h_t.mono hle13
                replace hk_t := hk_t.mono hle13
                replace hc1 := hc1.mono hle13
                have hlh13 := hlh12.trans hle13
                replace hM := hM.trans hle13
                clear hst12 hfr12 hk13
                refine hK34 _ _ ?_; try clear hK34 K34
                refine seq_any fun K36 hK36 => ?_
                refine region_plain (fun h => by cases h) hst13 hfr13 (by kernel_rfl) (by kernel_rfl) (.cons rfl (ob_move rfl) <|
                    .cons rfl (ob_assign rfl) <|
                    .nil) ?_
                intro a14 w14 m14 hst14 hle14 hk14
                have hfr14 := hk14.fr (T' := [(4, _), (0, _), (1, _), (7, _), (3, _), (2, _)]) (.old rfl rfl <| .old rfl rfl <| .old rfl rfl <| .old rfl rfl <| .old rfl rfl <| .new rfl <| .nil)
                replace h_t := h_t.mono hle14
                replace hk_t := hk_t.mono hle14
                replace hc1 := hc1.mono hle14
                have hlh14 := hlh13.trans hle14
                replace hM := hM.trans hle14
                clear hst13 hfr13 hk14
                refine hK36 _ _ ?_; try clear hK36 K36
                refine wp_ret ?_
                repeat (with_reducible first | refine then_ret ?_ | refine block_ret ?_)
                exact fn_ret hst14 hfr14 rfl (.tmp rfl <| .nil) (by refine congrArg S ?_; rw [textV_eq]; unfold textB; simp_all [pre, fb_t, fb_f]; try (split <;> simp_all))
              · try simp only [Bool.not_eq_true', Bool.not_eq_false', decide_eq_true_eq, decide_eq_false_iff_not, Bool.and_eq_true, Bool.or_eq_true, Bool.and_eq_false_iff, Bool.or_eq_false_iff, Bool.not_not, u8_eq] at hb56
                refine wp_skip ?_
                refine hK34 _ _ ?_; try clear hK34 K34
                refine seq_any fun K38 hK38 => ?_
                refine region_plain (fun h => by cases h) hst12 hfr12 (by kernel_rfl) (by kernel_rfl) (.cons rfl (ob_move rfl) <|
                    .cons rfl (ob_assign rfl) <|
                    .nil) ?_
                intro a13 w13 m13 hst13 hle13 hk13
                have hfr13 := hk13.fr (T' := [(3, _), (4, _), (0, _), (1, _), (7, _), (2, _)]) (.old rfl rfl <| .old rfl rfl <| .old rfl rfl <| .old rfl rfl <| .old rfl rfl <| .new rfl <| .nil)
                replace h_t := h_t.mono hle13
                replace hk_t := hk_t.mono hle13
                replace hc1 := hc1.mono hle13
                have hlh13 := hlh12.trans hle13
                replace hM := hM.trans hle13
                clear hst12 hfr12 hk13
                refine hK38 _ _ ?_; try clear hK38 K38
                refine wp_ret ?_
                repeat (with_reducible first | refine then_ret ?_ | refine block_ret ?_)
                exact fn_ret hst13 hfr13 rfl (.tmp rfl <| .nil) (by refine congrArg S ?_; rw [textV_eq]; unfold textB; simp_all [pre, fb_t, fb_f]; try (split <;> simp_all))
theorem rtext_c (t : VT) : rtext_G t := VT.rec_ (p := rtext_G) (fun t ih => rtext_s ih) t

set_option maxHeartbeats 400000 in
theorem text0f_c {w : World} {m : Mem} {t : VT} {vs_t : List Value} (hA : Agree w m) (h_t : VR m t vs_t) (hT : Tab w) (hb : fitV t) : FnV Tryd.prog 12 #[.agg vs_t.toArray] w m (fun _ _ v => v = .tuple #[S (if rightV 1000 t then textV t else []), .int .i64 (if rightV 1000 t then 0 else 1)]) := by
  obtain ⟨o_t, c_t, rfl, hk_t, hi_t, hj_t⟩ := h_t.open_
  have hbg_t := hk_t.big; have hcp_t := hk_t.cap
  refine fn_enter (vs := [_]) Tryd.func12 rfl rfl rfl fun a0 hfr0 => ?_
  have hst0 := st_enter hA (loc_nil [] _ w m)
  have hM : MLe m m := MLe.refl m
  refine seq_any fun K1 hK1 => ?_
  refine region_plain (fun h => by cases h) hst0 hfr0 (by kernel_rfl) (by kernel_rfl) (.cons rfl (ob_box rfl rfl) <|
      .cons rfl (ob_assign rfl) <|
      .cons rfl (ob_assign rfl) <|
      .nil) ?_
  intro a1 w1 m1 hst1 hle1 hk1
  have hfr1 := hk1.fr (T' := [(0, _), (2, _), (3, _)]) (.old rfl rfl <| .new rfl <| .new rfl <| .nil)
  obtain ⟨g2, e2, hc1⟩ := hk1.ex 1 rfl
  replace hfr1 := hfr1.cons e2
  replace h_t := h_t.mono hle1
  replace hk_t := hk_t.mono hle1
  replace hM := hM.trans hle1
  clear hst0 hfr0 hk1
  refine hK1 _ _ ?_; try clear hK1 K1
  refine seq_any fun K3 hK3 => ?_
  refine seq_any fun K4 hK4 => ?_
  refine region_plain (fun h => by cases h) hst1 hfr1 (by kernel_rfl) (by kernel_rfl) (.cons rfl (ob_loadS' rfl hc1 Tryd.isAgg24 Tryd.sizeOf24 rfl rfl) <|
      .cons rfl (ob_callE rfl (.cons rfl <| .nil) Tryd.call14 (fun w m hK => by have hle_ := KC.le hK; have hA := KC.agree hK; have hM := hM.trans hle_; have hT := tab_keep hT hK.st.ext; have h_t := h_t.mono hle_; have hk_t := hk_t.mono hle_; have hc1 := hc1.mono hle_; exact right0_c hA (by first | assumption | omega | simp_all))) <|
      .cons rfl (ob_not rfl) <|
      .nil) ?_
  intro a2 w2 m2 hst2 hle2 hk2
  have hfr2 := hk2.fr (T' := [(0, _), (2, _), (3, _), (1, _), (6, _)]) (.old rfl rfl <| .old rfl rfl <| .old rfl rfl <| .old rfl rfl <| .new rfl <| .nil)
  replace h_t := h_t.mono hle2
  replace hk_t := hk_t.mono hle2
  replace hc1 := hc1.mono hle2
  replace hM := hM.trans hle2
  clear hst1 hfr1 hk2
  refine hK4 _ _ ?_; try clear hK4 K4
  refine cond_any hfr2 rfl rfl (fun hb6 => ?_) (fun hb6 => ?_)
  · try simp only [Bool.not_eq_true', Bool.not_eq_false', decide_eq_true_eq, decide_eq_false_iff_not, Bool.and_eq_true, Bool.or_eq_true, Bool.and_eq_false_iff, Bool.or_eq_false_iff, Bool.not_not, u8_eq] at hb6
    refine seq_any fun K5 hK5 => ?_
    refine region_plain (fun h => by cases h) hst2 hfr2 (by kernel_rfl) (by kernel_rfl) (.cons rfl (ob_assign rfl) <|
        .cons rfl (ob_assign rfl) <|
        .nil) ?_
    intro a3 w3 m3 hst3 hle3 hk3
    have hfr3 := hk3.fr (T' := [(0, _), (1, _), (2, _), (3, _)]) (.old rfl rfl <| .old rfl rfl <| .new rfl <| .new rfl <| .nil)
    replace h_t := h_t.mono hle3
    replace hk_t := hk_t.mono hle3
    replace hc1 := hc1.mono hle3
    replace hM := hM.trans hle3
    clear hst2 hfr2 hk3
    refine hK5 _ _ ?_; try clear hK5 K5
    refine wp_ret ?_
    repeat (with_reducible first | refine then_ret ?_ | refine block_ret ?_)
    exact fn_ret hst3 hfr3 rfl (.tmp rfl <| .tmp rfl <| .nil) (by simp_all [bundle])
  · try simp only [Bool.not_eq_true', Bool.not_eq_false', decide_eq_true_eq, decide_eq_false_iff_not, Bool.and_eq_true, Bool.or_eq_true, Bool.and_eq_false_iff, Bool.or_eq_false_iff, Bool.not_not, u8_eq] at hb6
    refine wp_skip ?_
    refine hK3 _ _ ?_; try clear hK3 K3
    refine seq_any fun K7 hK7 => ?_
    refine region_plain (fun h => by cases h) hst2 hfr2 (by kernel_rfl) (by kernel_rfl) (.cons rfl (ob_loadS' rfl hc1 Tryd.isAgg24 Tryd.sizeOf24 rfl rfl) <|
        .cons rfl (ob_callE rfl (.cons rfl <| .nil) Tryd.call26 (fun w m hK => by have hle_ := KC.le hK; have hA := KC.agree hK; have hM := hM.trans hle_; have hT := tab_keep hT hK.st.ext; have h_t := h_t.mono hle_; have hk_t := hk_t.mono hle_; have hc1 := hc1.mono hle_; exact text_c _ hA (by first | assumption | omega | simp_all) (by first | assumption | omega | simp_all) (by first | assumption | omega | simp_all))) <|
        .cons rfl (ob_assign rfl) <|
        .cons rfl (ob_assign rfl) <|
        .nil) ?_
    intro a3 w3 m3 hst3 hle3 hk3
    have hfr3 := hk3.fr (T' := [(0, _), (1, _), (2, _), (3, _)]) (.old rfl rfl <| .old rfl rfl <| .new rfl <| .new rfl <| .nil)
    replace h_t := h_t.mono hle3
    replace hk_t := hk_t.mono hle3
    replace hc1 := hc1.mono hle3
    replace hM := hM.trans hle3
    clear hst2 hfr2 hk3
    refine hK7 _ _ ?_; try clear hK7 K7
    refine wp_ret ?_
    repeat (with_reducible first | refine then_ret ?_ | refine block_ret ?_)
    exact fn_ret hst3 hfr3 rfl (.tmp rfl <| .tmp rfl <| .nil) (by simp_all [bundle])

theorem text0_c {w : World} {m : Mem} {t : VT} {vs_t : List Value} (hA : Agree w m) (h_t : VR m t vs_t) (hT : Tab w) (hb : bulkV t ≤ 1073741824) : FnV Tryd.prog 12 #[.agg vs_t.toArray] w m (fun _ _ v => v = .tuple #[S (if rightV 1000 t then textV t else []), .int .i64 (if rightV 1000 t then 0 else 1)]) :=
  text0f_c hA h_t hT (h_t.fit _ hb)

set_option maxHeartbeats 400000 in
theorem rtext0_c {w : World} {m : Mem} {t : VT} {vs_t : List Value} (hA : Agree w m) (h_t : VR m t vs_t) (hb : bulkV t ≤ 1073741824) : FnV Tryd.prog 13 #[.agg vs_t.toArray] w m (fun _ _ v => v = .tuple #[S (if decide (depthV 1001 t ≤ 1000) && shapeV true t then textV t else []), .int .i64 (if decide (depthV 1001 t ≤ 1000) && shapeV true t then 0 else 1)]) := by
  obtain ⟨o_t, c_t, rfl, hk_t, hi_t, hj_t⟩ := h_t.open_
  have hbg_t := hk_t.big; have hcp_t := hk_t.cap
  refine fn_enter (vs := [_]) Tryd.func13 rfl rfl rfl fun a0 hfr0 => ?_
  have hst0 := st_enter hA (loc_nil [] _ w m)
  have hM : MLe m m := MLe.refl m
  refine seq_any fun K1 hK1 => ?_
  refine region_plain (fun h => by cases h) hst0 hfr0 (by kernel_rfl) (by kernel_rfl) (.cons rfl (ob_box rfl rfl) <|
      .cons rfl (ob_assign rfl) <|
      .cons rfl (ob_assign rfl) <|
      .nil) ?_
  intro a1 w1 m1 hst1 hle1 hk1
  have hfr1 := hk1.fr (T' := [(0, _), (2, _), (3, _)]) (.old rfl rfl <| .new rfl <| .new rfl <| .nil)
  obtain ⟨g2, e2, hc1⟩ := hk1.ex 1 rfl
  replace hfr1 := hfr1.cons e2
  replace h_t := h_t.mono hle1
  replace hk_t := hk_t.mono hle1
  replace hM := hM.trans hle1
  clear hst0 hfr0 hk1
  refine hK1 _ _ ?_; try clear hK1 K1
  refine seq_any fun K3 hK3 => ?_
  refine seq_any fun K4 hK4 => ?_
  refine region_plain (fun h => by cases h) hst1 hfr1 (by kernel_rfl) (by kernel_rfl) (.cons rfl (ob_loadS' rfl hc1 Tryd.isAgg24 Tryd.sizeOf24 rfl rfl) <|
      .cons rfl (ob_callE rfl (.cons rfl <| .nil) Tryd.call15 (fun w m hK => by have hle_ := KC.le hK; have hA := KC.agree hK; have hM := hM.trans hle_; have h_t := h_t.mono hle_; have hk_t := hk_t.mono hle_; have hc1 := hc1.mono hle_; exact rright_c hA (by first | assumption | omega | simp_all))) <|
      .cons rfl (ob_not rfl) <|
      .nil) ?_
  intro a2 w2 m2 hst2 hle2 hk2
  have hfr2 := hk2.fr (T' := [(0, _), (2, _), (3, _), (1, _), (6, _)]) (.old rfl rfl <| .old rfl rfl <| .old rfl rfl <| .old rfl rfl <| .new rfl <| .nil)
  replace h_t := h_t.mono hle2
  replace hk_t := hk_t.mono hle2
  replace hc1 := hc1.mono hle2
  replace hM := hM.trans hle2
  clear hst1 hfr1 hk2
  refine hK4 _ _ ?_; try clear hK4 K4
  refine cond_any hfr2 rfl rfl (fun hb6 => ?_) (fun hb6 => ?_)
  · try simp only [Bool.not_eq_true', Bool.not_eq_false', decide_eq_true_eq, decide_eq_false_iff_not, Bool.and_eq_true, Bool.or_eq_true, Bool.and_eq_false_iff, Bool.or_eq_false_iff, Bool.not_not, u8_eq] at hb6
    refine seq_any fun K5 hK5 => ?_
    refine region_plain (fun h => by cases h) hst2 hfr2 (by kernel_rfl) (by kernel_rfl) (.cons rfl (ob_assign rfl) <|
        .cons rfl (ob_assign rfl) <|
        .nil) ?_
    intro a3 w3 m3 hst3 hle3 hk3
    have hfr3 := hk3.fr (T' := [(0, _), (1, _), (2, _), (3, _)]) (.old rfl rfl <| .old rfl rfl <| .new rfl <| .new rfl <| .nil)
    replace h_t := h_t.mono hle3
    replace hk_t := hk_t.mono hle3
    replace hc1 := hc1.mono hle3
    replace hM := hM.trans hle3
    clear hst2 hfr2 hk3
    refine hK5 _ _ ?_; try clear hK5 K5
    refine wp_ret ?_
    repeat (with_reducible first | refine then_ret ?_ | refine block_ret ?_)
    exact fn_ret hst3 hfr3 rfl (.tmp rfl <| .tmp rfl <| .nil) (by by_cases hq : (decide (depthV 1001 t ≤ 1000) && shapeV true t) = true <;> simp_all [bundle] <;> omega)
  · try simp only [Bool.not_eq_true', Bool.not_eq_false', decide_eq_true_eq, decide_eq_false_iff_not, Bool.and_eq_true, Bool.or_eq_true, Bool.and_eq_false_iff, Bool.or_eq_false_iff, Bool.not_not, u8_eq] at hb6
    refine wp_skip ?_
    refine hK3 _ _ ?_; try clear hK3 K3
    refine seq_any fun K7 hK7 => ?_
    refine region_plain (fun h => by cases h) hst2 hfr2 (by kernel_rfl) (by kernel_rfl) (.cons rfl (ob_loadS' rfl hc1 Tryd.isAgg24 Tryd.sizeOf24 rfl rfl) <|
        .cons rfl (ob_callE rfl (.cons rfl <| .nil) Tryd.call27 (fun w m hK => by have hle_ := KC.le hK; have hA := KC.agree hK; have hM := hM.trans hle_; have h_t := h_t.mono hle_; have hk_t := hk_t.mono hle_; have hc1 := hc1.mono hle_; exact rtext_c _ hA (by first | assumption | omega | simp_all) (by first | assumption | omega | simp_all))) <|
        .cons rfl (ob_assign rfl) <|
        .cons rfl (ob_assign rfl) <|
        .nil) ?_
    intro a3 w3 m3 hst3 hle3 hk3
    have hfr3 := hk3.fr (T' := [(0, _), (1, _), (2, _), (3, _)]) (.old rfl rfl <| .old rfl rfl <| .new rfl <| .new rfl <| .nil)
    replace h_t := h_t.mono hle3
    replace hk_t := hk_t.mono hle3
    replace hc1 := hc1.mono hle3
    replace hM := hM.trans hle3
    clear hst2 hfr2 hk3
    refine hK7 _ _ ?_; try clear hK7 K7
    refine wp_ret ?_
    repeat (with_reducible first | refine then_ret ?_ | refine block_ret ?_)
    exact fn_ret hst3 hfr3 rfl (.tmp rfl <| .tmp rfl <| .nil) (by by_cases hq : (decide (depthV 1001 t ≤ 1000) && shapeV true t) = true <;> simp_all [bundle] <;> omega)

end Go.Proofs.YtineijefefjpeaaDoor
