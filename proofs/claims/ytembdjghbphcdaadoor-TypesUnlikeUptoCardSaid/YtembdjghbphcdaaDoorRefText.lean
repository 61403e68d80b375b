/-
  The document's texts of types. Conditions: those of each theorem.
-/
import Derived.Test.YtembdjghbphcdaaDoorShown1
namespace Go.Proofs.YtembdjghbphcdaaDoor
set_option linter.all false
set_option maxRecDepth 4000
open Go.RowKit
open Go.Lib (itoa decDigits)
theorem dec_step (n : Nat) : decDigits n = (if n / 10 = 0 then [] else decDigits (n / 10)) ++ [UInt8.ofNat (48 + n % 10)] := by
  rw [dec_eq]
  by_cases h : n < 10
  · rw [if_pos h, if_pos (by omega), Nat.mod_eq_of_lt h]; rfl
  · rw [if_neg h, if_neg (by omega)]
theorem join_snoc1 (l : List Str) (x : Str) : Go.Lib.join (l ++ [x]) [44] = (if l = [] then [] else Go.Lib.join l [44] ++ [44]) ++ x := by
  induction l with
  | nil => simp [Go.Lib.join, List.intercalate]
  | cons y l ih =>
    cases l with
    | nil => simp [Go.Lib.join, List.intercalate]
    | cons z l =>
      have h2 : ∀ (a b : Str) (r : List Str), Go.Lib.join (a :: b :: r) [44] = a ++ [44] ++ Go.Lib.join (b :: r) [44] := fun a b r => by simp [Go.Lib.join, List.intercalate, List.intersperse]
      rw [List.cons_append, List.cons_append, h2, h2, ← List.cons_append, ih]; simp
theorem lensS_take (l : List Str) (k : Nat) : lensS (l.take k) ≤ lensS l := by
  unfold lensS
  induction l generalizing k with
  | nil => simp
  | cons x xs ih =>
    cases k with
    | zero => simp
    | succ k => simp only [List.take_succ_cons, List.map_cons, List.sum_cons]; have := ih k; omega
theorem lensS_snoc (l : List Str) (x : Str) : lensS (l ++ [x]) = lensS l + (x.length + 2) := by unfold lensS; simp
theorem right_cases {t : Ty} (h : rightT t = true) : ((t.kind = 1 ∨ t.kind = 2 ∨ t.kind = 3) ∧ t.args = []) ∨ (t.kind = 4 ∧ t.args = [] ∧ t.name ≠ []) ∨ (t.kind = 7 ∧ t.args = [] ∧ 1 ≤ t.var) ∨ (t.kind = 6 ∧ ∃ x, t.args = [x] ∧ rightT x = true) ∨
    (t.kind = 5 ∧ ∃ x z, t.args = [x, z] ∧ rightT x = true ∧ rightT z = true ∧ rowOk t.labels t.rv = true) := by
  rw [rightT_eq] at h
  unfold rightTB at h
  split at h
  · cases h
  · rename_i hc
    split at h
    · rename_i h7
      simp only [Bool.and_eq_true, decide_eq_true_eq] at h
      exact .inr (.inr (.inl ⟨h7, List.eq_nil_of_length_eq_zero h.2, h.1⟩))
    · rename_i h7
      unfold arity at h
      split at h
      · rename_i a ha
        simp only [Bool.and_eq_true, decide_eq_true_eq] at h
        obtain ⟨⟨⟨hv, hn⟩, hro⟩, hk⟩ := h
        split at ha
        · rename_i h4
          injection ha with ha; subst ha
          have ha0 := List.eq_nil_of_length_eq_zero hn
          rcases h4 with h4 | h4 | h4 | h4
          · exact .inl ⟨.inl h4, ha0⟩
          · exact .inl ⟨.inr (.inl h4), ha0⟩
          · exact .inl ⟨.inr (.inr h4), ha0⟩
          · refine .inr (.inl ⟨h4, ha0, fun e => hc (.inr ?_)⟩)
            simp [e, h4]
        · split at ha
          · rename_i h5
            injection ha with ha; subst ha
            obtain ⟨x, z, e⟩ := list2 hn
            rw [e] at hk
            simp only [rightTs, Bool.and_eq_true, and_true] at hk
            exact .inr (.inr (.inr (.inr ⟨h5, x, z, e, hk.1, hk.2, hro⟩)))
          · split at ha
            · rename_i h6
              injection ha with ha; subst ha
              obtain ⟨x, e⟩ := list1 hn
              rw [e] at hk
              simp only [rightTs, Bool.and_eq_true, and_true] at hk
              exact .inr (.inr (.inr (.inl ⟨h6, x, e, hk⟩)))
            · cases ha
      · cases h
set_option maxHeartbeats 400000 in
theorem numR_c {w : World} {m : Mem} {n : Nat} (hA : Agree w m) (hn : n ≤ 9223372036854775807) : FnV Tryd.prog 36 #[.int .i64 (n : Int)] w m (fun _ _ v => v = S (decDigits n)) := by
  refine fn_enter (vs := [_]) Tryd.func36 rfl rfl rfl fun a0 hfr0 => ?_
  have hst0 := st_enter hA (loc_nil [] _ w m)
  have hM : MLe m m := MLe.refl m
  refine seq_any fun K1 hK1 => ?_
  refine region_plain (fun h => by cases h) hst0 hfr0 (by kernel_rfl) (by kernel_rfl) (.cons rfl (ob_assign rfl) <|
      .nil) ?_
  intro a1 w1 m1 hst1 hle1 hk1
  have hfr1 := hk1.fr (T' := [(0, _), (2, _)]) (.old rfl rfl <| .new rfl <| .nil)
  replace hM := hM.trans hle1
  clear hst0 hfr0 hk1
  refine hK1 _ _ ?_; try clear hK1 K1
  refine seq_any fun K2 hK2 => ?_
  refine region_plain (fun h => by cases h) hst1 hfr1 (by kernel_rfl) (by kernel_rfl) (.cons rfl (ob_assign rfl) <|
      .nil) ?_
  intro a2 w2 m2 hst2 hle2 hk2
  have hfr2 := hk2.fr (T' := [(0, _), (2, _), (3, _)]) (.old rfl rfl <| .old rfl rfl <| .new rfl <| .nil)
  replace hM := hM.trans hle2
  clear hst1 hfr1 hk2
  refine hK2 _ _ ?_; try clear hK2 K2
  refine seq_any fun K3 hK3 => ?_
  refine seq_any fun K4 hK4 => ?_
  refine region_plain (fun h => by cases h) hst2 hfr2 (by kernel_rfl) (by kernel_rfl) (.cons rfl (ob_assign rfl) <|
      .nil) ?_
  intro a3 w3 m3 hst3 hle3 hk3
  have hfr3 := hk3.fr (T' := [(0, _), (2, _), (3, _), (4, _)]) (.old rfl rfl <| .old rfl rfl <| .old rfl rfl <| .new rfl <| .nil)
  replace hM := hM.trans hle3
  clear hst2 hfr2 hk3
  refine hK4 _ _ ?_; try clear hK4 K4
  refine wp_block ?_
  refine loop_any (T := [(2, _)]) (fun (y : Nat × Nat × Str) => ([(0, .int .i64 (y.2.1 : Int)), (3, S y.2.2), (4, .int .i64 (y.1 : Int))] : List (Nat × Value))) (fun _ => _) (fun (y : Nat × Nat × Str) _ => (fun (y q : Nat) (s : Str) => y ≤ 20 ∧ (y = 0 → q = n ∧ s = []) ∧ (0 < y → decDigits n = (if q = 0 then [] else decDigits q) ++ s) ∧ q < 10 ^ (20 - y) ∧ s.length ≤ y ∧ q ≤ n) y.1 y.2.1 y.2.2) (fun y => 20 - y.1) ((0, n, [])) ⟨hst3, MLe.refl _, hfr3.sub (.cons rfl <| .cons rfl <| .cons rfl <| .cons rfl <| .nil), ⟨Nat.zero_le _, fun _ => ⟨rfl, rfl⟩, fun h => by omega, by show n < 10 ^ 20; omega, Nat.le_refl _, Nat.le_refl _⟩⟩ fun y a4 w4 m4 hh4 => ?_
  have hst4 := hh4.st; have hle4 := hh4.le; have hfr4 := hh4.fr; have hrel := hh4.rel; clear hh4
  clear hst3 hfr3
  replace hM := hM.trans hle4
  obtain ⟨y, q, s⟩ := y
  dsimp only at hrel hfr4
  obtain ⟨hy1, hy2, hy3, hy4, hy5, hy6⟩ := hrel
  have hpw : y < 20 → 10 ^ (20 - y) = 10 * 10 ^ (20 - (y + 1)) := fun h => by rw [show 20 - y = (20 - (y + 1)) + 1 by omega, Nat.pow_succ, Nat.mul_comm]
  have htd : (q : Int).tdiv 10 = ((q / 10 : Nat) : Int) := rfl
  have htm : (q : Int).tmod 10 = ((q % 10 : Nat) : Int) := rfl
  have hdb := @digit_byte (q % 10) (by omega)
  have hds := dec_step q
  have hlh4 := hle4
  refine seq_any fun K6 hK6 => ?_
  refine seq_any fun K7 hK7 => ?_
  refine region_plain (fun h => by cases h) hst4 hfr4 (by kernel_rfl) (by kernel_rfl) (.cons rfl (ob_move rfl) <|
      .cons rfl (ob_lss rfl rfl) <|
      .cons rfl (ob_move rfl) <|
      .cons rfl (ob_move rfl) <|
      .cons rfl (ob_eql rfl rfl) <|
      .cons rfl (ob_move rfl) <|
      .cons rfl (ob_move rfl) <|
      .cons rfl (ob_gtr rfl rfl) <|
      .cons rfl (ob_or rfl rfl rfl) <|
      .cons rfl (ob_and rfl rfl rfl) <|
      .nil) ?_
  intro a5 w5 m5 hst5 hle5 hk5
  have hfr5 := hk5.fr (T' := [(0, _), (3, _), (4, _), (2, _), (14, _)]) (.old rfl rfl <| .old rfl rfl <| .old rfl rfl <| .old rfl rfl <| .new rfl <| .nil)
  have hlh5 := hlh4.trans hle5
  replace hM := hM.trans hle5
  clear hst4 hfr4 hk5
  refine hK7 _ _ ?_; try clear hK7 K7
  refine cond_any hfr5 rfl rfl (fun hb14 => ?_) (fun hb14 => ?_)
  · try simp only [Bool.not_eq_true', Bool.not_eq_false', decide_eq_true_eq, decide_eq_false_iff_not, Bool.and_eq_true, Bool.or_eq_true, Bool.and_eq_false_iff, Bool.or_eq_false_iff, Bool.not_not, u8_eq] at hb14
    refine wp_skip ?_
    refine hK6 _ _ ?_; try clear hK6 K6
    refine seq_any fun K8 hK8 => ?_
    refine wp_block ?_
    refine seq_any fun K9 hK9 => ?_
    refine region_plain (fun h => by cases h) hst5 hfr5 (by kernel_rfl) (by kernel_rfl) (.cons rfl (ob_move rfl) <|
        .cons rfl (ob_rem rfl rfl (by omega)) <|
        .cons rfl (ob_add rfl rfl ⟨by omega, by omega⟩) <|
        .cons rfl (ob_conv_int rfl Tryd.underlying3 Tryd.underlying5) <|
        .cons rfl (ob_buildSlice (.cons rfl <| .nil) Tryd.underlying74 Tryd.sizeOf5 Tryd.zeroValue5 rfl rfl rfl rfl) <|
        .cons rfl (ob_imgE 21 rfl rfl rfl fun y21 => ob_conv_bs (ns := [_]) rfl Tryd.underlying74 Tryd.underlying5 Tryd.underlying9 (fun w m hK => hK.2)) <|
        .cons rfl (ob_move rfl) <|
        .cons rfl (ob_sadd rfl rfl (by first | omega | (simp only [List.length_append, List.length_cons, List.length_nil, List.length_map]; omega))) <|
        .cons rfl (ob_assign rfl) <|
        .nil) ?_
    intro a6 w6 m6 hst6 hle6 hk6
    have hfr6 := hk6.fr (T' := [(0, _), (4, _), (2, _), (3, _)]) (.old rfl rfl <| .old rfl rfl <| .old rfl rfl <| .new rfl <| .nil)
    have hlh6 := hlh5.trans hle6
    replace hM := hM.trans hle6
    clear hst5 hfr5 hk6
    refine hK9 _ _ ?_; try clear hK9 K9
    refine region_plain (fun h => by cases h) hst6 hfr6 (by kernel_rfl) (by kernel_rfl) (.cons rfl (ob_move rfl) <|
        .cons rfl (ob_quo rfl rfl (by omega) ⟨by omega, by omega⟩) <|
        .cons rfl (ob_assign rfl) <|
        .nil) ?_
    intro a7 w7 m7 hst7 hle7 hk7
    have hfr7 := hk7.fr (T' := [(4, _), (2, _), (3, _), (0, _)]) (.old rfl rfl <| .old rfl rfl <| .old rfl rfl <| .new rfl <| .nil)
    have hlh7 := hlh6.trans hle7
    replace hM := hM.trans hle7
    clear hst6 hfr6 hk7
    refine hK8 _ _ ?_; try clear hK8 K8
    refine region_plain (fun h => by cases h) hst7 hfr7 (by kernel_rfl) (by kernel_rfl) (.cons rfl (ob_move rfl) <|
        .cons rfl (ob_add rfl rfl ⟨by omega, by omega⟩) <|
        .cons rfl (ob_assign rfl) <|
        .nil) ?_
    intro a8 w8 m8 hst8 hle8 hk8
    have hfr8 := hk8.fr (T' := [(2, _), (3, _), (0, _), (4, _)]) (.old rfl rfl <| .old rfl rfl <| .old rfl rfl <| .new rfl <| .nil)
    have hlh8 := hlh7.trans hle8
    replace hM := hM.trans hle8
    clear hst7 hfr7 hk8
    have hdb2 : UInt8.ofNat (IntKind.u8.wrap (48 + (q : Int).tmod 10)).toNat = UInt8.ofNat (48 + q % 10) := hdb
    have hnew : decDigits n = (if q / 10 = 0 then [] else decDigits (q / 10)) ++ ([UInt8.ofNat (IntKind.u8.wrap (48 + (q : Int).tmod 10)).toNat] ++ s) := by rw [hdb2, ← List.append_assoc, ← hds]; by_cases h0 : y = 0; (rw [(hy2 h0).1, (hy2 h0).2, List.append_nil]); (rw [hy3 (by omega), if_neg (by omega)])
    exact ⟨(y + 1, q / 10, _), m8, by show 20 - (y + 1) < 20 - y; omega, ⟨hst8, hlh8, hfr8.sub (.cons rfl <| .cons rfl <| .cons rfl <| .cons rfl <| .nil), ⟨by show y + 1 ≤ 20; omega, fun h => absurd h (Nat.succ_ne_zero y), fun _ => hnew, by have := hpw (by omega); show q / 10 < 10 ^ (20 - (y + 1)); omega, by show (_ ++ s).length ≤ y + 1; simp only [List.length_append, List.map_cons, List.map_nil, List.length_cons, List.length_nil]; omega, by show q / 10 ≤ n; omega⟩⟩⟩
  · try simp only [Bool.not_eq_true', Bool.not_eq_false', decide_eq_true_eq, decide_eq_false_iff_not, Bool.and_eq_true, Bool.or_eq_true, Bool.and_eq_false_iff, Bool.or_eq_false_iff, Bool.not_not, u8_eq] at hb14
    have hq0 : 0 < y ∧ q = 0 := by by_cases h : y = 20; (subst h; exact ⟨by omega, by simpa using hy4⟩); (exact ⟨by omega, by omega⟩)
    refine wp_exit ?_
    refine hK3 _ _ ?_; try clear hK3 K3
    refine seq_any fun K10 hK10 => ?_
    refine region_plain (fun h => by cases h) hst5 hfr5 (by kernel_rfl) (by kernel_rfl) (.cons rfl (ob_move rfl) <|
        .cons rfl (ob_assign rfl) <|
        .nil) ?_
    intro a6 w6 m6 hst6 hle6 hk6
    have hfr6 := hk6.fr (T' := [(0, _), (3, _), (4, _), (2, _)]) (.old rfl rfl <| .old rfl rfl <| .old rfl rfl <| .new rfl <| .nil)
    have hlh6 := hlh5.trans hle6
    replace hM := hM.trans hle6
    clear hst5 hfr5 hk6
    refine hK10 _ _ ?_; try clear hK10 K10
    refine wp_ret ?_
    repeat (with_reducible first | refine then_ret ?_ | refine block_ret ?_)
    exact fn_ret hst6 hfr6 rfl (.tmp rfl <| .nil) (by refine congrArg S ?_; rw [hy3 hq0.1, if_pos hq0.2]; rfl)

set_option maxHeartbeats 400000 in
theorem rrow_c {w : World} {m : Mem} {r : Rw} {vs_r : List Value} (hA : Agree w m) (h_r : RwR m r vs_r) (hv : 0 ≤ r.var) (hb : lensS r.labels ≤ 1073741824) : FnV Tryd.prog 37 #[.agg vs_r.toArray] w m (fun _ _ v => v = S (rowTextS r.labels r.var)) := by
  obtain ⟨o_r, c_r, rfl, hs_r, hr_r⟩ := h_r.open_
  have hbs_r := hs_r.big; have hcs_r := hs_r.cap
  refine fn_enter (vs := [_]) Tryd.func37 rfl rfl rfl fun a0 hfr0 => ?_
  have hst0 := st_enter hA (loc_nil [] _ w m)
  have hM : MLe m m := MLe.refl m
  have hl0 : ((r.labels.length : Int) = 0) ↔ r.labels = [] := by constructor; (intro h; exact List.eq_nil_of_length_eq_zero (by omega)); (intro h; rw [h]; rfl)
  obtain ⟨vn, hvn⟩ : ∃ vn : Nat, r.var = (vn : Int) := ⟨r.var.toNat, by omega⟩
  have hil := itoa_len hr_r
  have hiv : itoa r.var = decDigits vn := by unfold itoa; rw [hvn, if_neg (by omega)]; rfl
  have hj := join1_len r.labels
  obtain ⟨hr1, hr2⟩ := hr_r
  refine seq_any fun K1 hK1 => ?_
  refine region_plain (fun h => by cases h) hst0 hfr0 (by kernel_rfl) (by kernel_rfl) (.cons rfl (ob_box rfl rfl) <|
      .cons rfl (ob_assign rfl) <|
      .nil) ?_
  intro a1 w1 m1 hst1 hle1 hk1
  have hfr1 := hk1.fr (T' := [(0, _), (2, _)]) (.old rfl rfl <| .new rfl <| .nil)
  obtain ⟨g2, e2, hc1⟩ := hk1.ex 1 rfl
  replace hfr1 := hfr1.cons e2
  replace h_r := h_r.mono hle1
  replace hs_r := hs_r.mono hle1
  replace hM := hM.trans hle1
  clear hst0 hfr0 hk1
  refine hK1 _ _ ?_; try clear hK1 K1
  refine seq_any fun K3 hK3 => ?_
  refine seq_any fun K4 hK4 => ?_
  refine region_plain (fun h => by cases h) hst1 hfr1 (by kernel_rfl) (by kernel_rfl) (.cons rfl (ob_fieldAddr rfl Tryd.underlying25 rfl Tryd.sizeOf23 rfl) <|
      .cons rfl (ob_load1 rfl hc1 Tryd.isAgg23 rfl) <|
      .cons rfl (ob_len rfl Tryd.underlying23) <|
      .cons rfl (ob_eql rfl rfl) <|
      .cons rfl (ob_move rfl) <|
      .cons rfl (ob_fieldAddr rfl Tryd.underlying25 rfl Tryd.sizeOf3 rfl) <|
      .cons rfl (ob_load1 rfl hc1 Tryd.isAgg3 rfl) <|
      .cons rfl (ob_eql rfl rfl) <|
      .cons rfl (ob_and rfl rfl rfl) <|
      .nil) ?_
  intro a2 w2 m2 hst2 hle2 hk2
  have hfr2 := hk2.fr (T' := [(0, _), (2, _), (1, _), (13, _)]) (.old rfl rfl <| .old rfl rfl <| .old rfl rfl <| .new rfl <| .nil)
  replace h_r := h_r.mono hle2
  replace hs_r := hs_r.mono hle2
  replace hc1 := hc1.mono hle2
  replace hM := hM.trans hle2
  clear hst1 hfr1 hk2
  refine hK4 _ _ ?_; try clear hK4 K4
  refine cond_any hfr2 rfl rfl (fun hb13 => ?_) (fun hb13 => ?_)
  · try simp only [Bool.not_eq_true', Bool.not_eq_false', decide_eq_true_eq, decide_eq_false_iff_not, Bool.and_eq_true, Bool.or_eq_true, Bool.and_eq_false_iff, Bool.or_eq_false_iff, Bool.not_not, u8_eq] at hb13
    have hcc : r.labels = [] ∧ r.var = 0 := by rw [← hl0]; omega
    refine seq_any fun K5 hK5 => ?_
    refine region_plain (fun h => by cases h) hst2 hfr2 (by kernel_rfl) (by kernel_rfl) (.cons rfl (ob_assign rfl) <|
        .nil) ?_
    intro a3 w3 m3 hst3 hle3 hk3
    have hfr3 := hk3.fr (T' := [(0, _), (1, _), (2, _)]) (.old rfl rfl <| .old rfl rfl <| .new rfl <| .nil)
    replace h_r := h_r.mono hle3
    replace hs_r := hs_r.mono hle3
    replace hc1 := hc1.mono hle3
    replace hM := hM.trans hle3
    clear hst2 hfr2 hk3
    refine hK5 _ _ ?_; try clear hK5 K5
    refine wp_ret ?_
    repeat (with_reducible first | refine then_ret ?_ | refine block_ret ?_)
    exact fn_ret hst3 hfr3 rfl (.tmp rfl <| .nil) (by refine congrArg S ?_; unfold rowTextS; rw [if_pos hcc])
  · try simp only [Bool.not_eq_true', Bool.not_eq_false', decide_eq_true_eq, decide_eq_false_iff_not, Bool.and_eq_true, Bool.or_eq_true, Bool.and_eq_false_iff, Bool.or_eq_false_iff, Bool.not_not, u8_eq] at hb13
    have hcc : ¬ (r.labels = [] ∧ r.var = 0) := by rw [← hl0]; omega
    refine wp_skip ?_
    refine hK3 _ _ ?_; try clear hK3 K3
    refine seq_any fun K7 hK7 => ?_
    refine region_plain (fun h => by cases h) hst2 hfr2 (by kernel_rfl) (by kernel_rfl) (.cons rfl (ob_assign rfl) <|
        .nil) ?_
    intro a3 w3 m3 hst3 hle3 hk3
    have hfr3 := hk3.fr (T' := [(0, _), (2, _), (1, _), (3, _)]) (.old rfl rfl <| .old rfl rfl <| .old rfl rfl <| .new rfl <| .nil)
    replace h_r := h_r.mono hle3
    replace hs_r := hs_r.mono hle3
    replace hc1 := hc1.mono hle3
    replace hM := hM.trans hle3
    clear hst2 hfr2 hk3
    refine hK7 _ _ ?_; try clear hK7 K7
    refine seq_any fun K8 hK8 => ?_
    refine seq_any fun K9 hK9 => ?_
    refine region_plain (fun h => by cases h) hst3 hfr3 (by kernel_rfl) (by kernel_rfl) (.cons rfl (ob_assign rfl) <|
        .nil) ?_
    intro a4 w4 m4 hst4 hle4 hk4
    have hfr4 := hk4.fr (T' := [(0, _), (2, _), (1, _), (3, _), (4, _)]) (.old rfl rfl <| .old rfl rfl <| .old rfl rfl <| .old rfl rfl <| .new rfl <| .nil)
    replace h_r := h_r.mono hle4
    replace hs_r := hs_r.mono hle4
    replace hc1 := hc1.mono hle4
    replace hM := hM.trans hle4
    clear hst3 hfr3 hk4
    refine hK9 _ _ ?_; try clear hK9 K9
    refine wp_block ?_
    refine loop_any (T := [(0, _), (2, _), (1, _)]) (fun (y : Nat × Str) => ([(3, S y.2), (4, .int .i64 (y.1 : Int))] : List (Nat × Value))) (fun _ => _) (fun (y : Nat × Str) m => (fun (y : Nat) (s : Str) => (y ≤ r.labels.length) ∧ (s = [60] ++ Go.Lib.join (r.labels.take y) [44]) ∧ (s.length ≤ 1 + lensS (r.labels.take y))) y.1 y.2) (fun y => r.labels.length - y.1) ((0, [60])) ⟨hst4, MLe.refl _, hfr4.sub (.cons rfl <| .cons rfl <| .cons rfl <| .cons rfl <| .cons rfl <| .nil), ⟨Nat.zero_le _, by simp [Go.Lib.join], by simp⟩⟩ fun y a5 w5 m5 hh5 => ?_
    have hst5 := hh5.st; have hle5 := hh5.le; have hfr5 := hh5.fr; have hrel := hh5.rel; clear hh5
    replace h_r := h_r.mono hle5
    replace hs_r := hs_r.mono hle5
    replace hc1 := hc1.mono hle5
    clear hst4 hfr4
    replace hM := hM.trans hle5
    obtain ⟨y, s⟩ := y
    dsimp only at hrel hfr5 hst5
    obtain ⟨hyn, hs, hsl⟩ := hrel
    have hlt := lensS_take r.labels y
    have hlh5 := hle5
    refine seq_any fun K11 hK11 => ?_
    refine seq_any fun K12 hK12 => ?_
    refine region_plain (fun h => by cases h) hst5 hfr5 (by kernel_rfl) (by kernel_rfl) (.cons rfl (ob_move rfl) <|
        .cons rfl (ob_fieldAddr rfl Tryd.underlying25 rfl Tryd.sizeOf23 rfl) <|
        .cons rfl (ob_load1 rfl hc1 Tryd.isAgg23 rfl) <|
        .cons rfl (ob_len rfl Tryd.underlying23) <|
        .cons rfl (ob_lss rfl rfl) <|
        .nil) ?_
    intro a6 w6 m6 hst6 hle6 hk6
    have hfr6 := hk6.fr (T' := [(3, _), (4, _), (0, _), (2, _), (1, _), (18, _)]) (.old rfl rfl <| .old rfl rfl <| .old rfl rfl <| .old rfl rfl <| .old rfl rfl <| .new rfl <| .nil)
    replace h_r := h_r.mono hle6
    replace hs_r := hs_r.mono hle6
    replace hc1 := hc1.mono hle6
    have hlh6 := hlh5.trans hle6
    replace hM := hM.trans hle6
    clear hst5 hfr5 hk6
    refine hK12 _ _ ?_; try clear hK12 K12
    refine cond_any hfr6 rfl rfl (fun hb18 => ?_) (fun hb18 => ?_)
    · try simp only [Bool.not_eq_true', Bool.not_eq_false', decide_eq_true_eq, decide_eq_false_iff_not, Bool.and_eq_true, Bool.or_eq_true, Bool.and_eq_false_iff, Bool.or_eq_false_iff, Bool.not_not, u8_eq] at hb18
      refine wp_skip ?_
      refine hK11 _ _ ?_; try clear hK11 K11
      refine seq_any fun K13 hK13 => ?_
      refine wp_block ?_
      refine seq_any fun K14 hK14 => ?_
      refine seq_any fun K15 hK15 => ?_
      refine region_plain (fun h => by cases h) hst6 hfr6 (by kernel_rfl) (by kernel_rfl) (.cons rfl (ob_move rfl) <|
          .cons rfl (ob_gtr rfl rfl) <|
          .nil) ?_
      intro a7 w7 m7 hst7 hle7 hk7
      have hfr7 := hk7.fr (T' := [(3, _), (4, _), (0, _), (2, _), (1, _), (22, _)]) (.old rfl rfl <| .old rfl rfl <| .old rfl rfl <| .old rfl rfl <| .old rfl rfl <| .new rfl <| .nil)
      replace h_r := h_r.mono hle7
      replace hs_r := hs_r.mono hle7
      replace hc1 := hc1.mono hle7
      have hlh7 := hlh6.trans hle7
      replace hM := hM.trans hle7
      clear hst6 hfr6 hk7
      refine hK15 _ _ ?_; try clear hK15 K15
      refine cond_any hfr7 rfl rfl (fun hb22 => ?_) (fun hb22 => ?_)
      · try simp only [Bool.not_eq_true', Bool.not_eq_false', decide_eq_true_eq, decide_eq_false_iff_not, Bool.and_eq_true, Bool.or_eq_true, Bool.and_eq_false_iff, Bool.or_eq_false_iff, Bool.not_not, u8_eq] at hb22
        refine region_plain (fun h => by cases h) hst7 hfr7 (by kernel_rfl) (by kernel_rfl) (.cons rfl (ob_move rfl) <|
            .cons rfl (ob_sadd rfl rfl (by first | omega | (simp only [List.length_append, List.length_cons, List.length_nil, List.length_map]; omega))) <|
            .cons rfl (ob_assign rfl) <|
            .nil) ?_
        intro a8 w8 m8 hst8 hle8 hk8
        have hfr8 := hk8.fr (T' := [(4, _), (0, _), (2, _), (1, _), (3, _)]) (.old rfl rfl <| .old rfl rfl <| .old rfl rfl <| .old rfl rfl <| .new rfl <| .nil)
        replace h_r := h_r.mono hle8
        replace hs_r := hs_r.mono hle8
        replace hc1 := hc1.mono hle8
        have hlh8 := hlh7.trans hle8
        replace hM := hM.trans hle8
        clear hst7 hfr7 hk8
        refine hK14 _ _ ?_; try clear hK14 K14
        obtain ⟨p16, vs16, x16, ho16, hd16, hm_x16, ht16, hcv16, hl16, hv16⟩ := hs_r.nth (k := y) (by omega)
        cases ho16
        subst hv16
        have hlx16 := lensS_take r.labels (y + 1)
        rw [ht16, lensS_snoc] at hlx16
        refine region_plain (fun h => by cases h) hst8 hfr8 (by kernel_rfl) (by kernel_rfl) (.cons rfl (ob_move rfl) <|
            .cons rfl (ob_fieldAddr rfl Tryd.underlying25 rfl Tryd.sizeOf23 rfl) <|
            .cons rfl (ob_load1 rfl hc1 Tryd.isAgg23 rfl) <|
            .cons rfl (ob_move rfl) <|
            .cons rfl (ob_indexAddr (k := y) rfl rfl Tryd.underlying23 Tryd.sizeOf9 rfl (by omega)) <|
            .cons rfl (ob_load1' rfl hcv16 Tryd.isAgg9 rfl) <|
            .cons rfl (ob_sadd rfl rfl (by first | omega | (simp only [List.length_append, List.length_cons, List.length_nil, List.length_map]; omega))) <|
            .cons rfl (ob_assign rfl) <|
            .nil) ?_
        intro a9 w9 m9 hst9 hle9 hk9
        have hfr9 := hk9.fr (T' := [(4, _), (0, _), (2, _), (1, _), (3, _)]) (.old rfl rfl <| .old rfl rfl <| .old rfl rfl <| .old rfl rfl <| .new rfl <| .nil)
        replace h_r := h_r.mono hle9
        replace hs_r := hs_r.mono hle9
        replace hc1 := hc1.mono hle9
        replace hcv16 := hcv16.mono hle9
        have hlh9 := hlh8.trans hle9
        replace hM := hM.trans hle9
        clear hst8 hfr8 hk9
        refine hK13 _ _ ?_; try clear hK13 K13
        refine region_plain (fun h => by cases h) hst9 hfr9 (by kernel_rfl) (by kernel_rfl) (.cons rfl (ob_move rfl) <|
            .cons rfl (ob_add rfl rfl ⟨by omega, by omega⟩) <|
            .cons rfl (ob_assign rfl) <|
            .nil) ?_
        intro a10 w10 m10 hst10 hle10 hk10
        have hfr10 := hk10.fr (T' := [(0, _), (2, _), (1, _), (3, _), (4, _)]) (.old rfl rfl <| .old rfl rfl <| .old rfl rfl <| .old rfl rfl <| .new rfl <| .nil)
        replace h_r := h_r.mono hle10
        replace hs_r := hs_r.mono hle10
        replace hc1 := hc1.mono hle10
        replace hcv16 := hcv16.mono hle10
        have hlh10 := hlh9.trans hle10
        replace hM := hM.trans hle10
        clear hst9 hfr9 hk10
        exact ⟨(y + 1, _), m10, by show r.labels.length - (y + 1) < r.labels.length - y; omega, ⟨hst10, hlh10, hfr10.sub (.cons rfl <| .cons rfl <| .cons rfl <| .cons rfl <| .cons rfl <| .nil), ⟨by show y + 1 ≤ r.labels.length; omega, by rw [ht16, join_snoc1, hs]; first | (rw [show y = 0 by omega]; simp [Go.Lib.join]; done) | (rw [if_neg (c := r.labels.take y = []) (by rw [List.take_eq_nil_iff]; rintro (h | h); (exact absurd h (by omega)); (rw [h] at hyn; simp at hyn; omega))]; simp; done), by rw [ht16, lensS_snoc]; simp only [List.length_append, List.length_cons, List.length_nil]; omega⟩⟩⟩
      · try simp only [Bool.not_eq_true', Bool.not_eq_false', decide_eq_true_eq, decide_eq_false_iff_not, Bool.and_eq_true, Bool.or_eq_true, Bool.and_eq_false_iff, Bool.or_eq_false_iff, Bool.not_not, u8_eq] at hb22
        refine wp_skip ?_
        refine hK14 _ _ ?_; try clear hK14 K14
        obtain ⟨p17, vs17, x17, ho17, hd17, hm_x17, ht17, hcv17, hl17, hv17⟩ := hs_r.nth (k := y) (by omega)
        cases ho17
        subst hv17
        have hlx17 := lensS_take r.labels (y + 1)
        rw [ht17, lensS_snoc] at hlx17
        refine region_plain (fun h => by cases h) hst7 hfr7 (by kernel_rfl) (by kernel_rfl) (.cons rfl (ob_move rfl) <|
            .cons rfl (ob_fieldAddr rfl Tryd.underlying25 rfl Tryd.sizeOf23 rfl) <|
            .cons rfl (ob_load1 rfl hc1 Tryd.isAgg23 rfl) <|
            .cons rfl (ob_move rfl) <|
            .cons rfl (ob_indexAddr (k := y) rfl rfl Tryd.underlying23 Tryd.sizeOf9 rfl (by omega)) <|
            .cons rfl (ob_load1' rfl hcv17 Tryd.isAgg9 rfl) <|
            .cons rfl (ob_sadd rfl rfl (by first | omega | (simp only [List.length_append, List.length_cons, List.length_nil, List.length_map]; omega))) <|
            .cons rfl (ob_assign rfl) <|
            .nil) ?_
        intro a8 w8 m8 hst8 hle8 hk8
        have hfr8 := hk8.fr (T' := [(4, _), (0, _), (2, _), (1, _), (3, _)]) (.old rfl rfl <| .old rfl rfl <| .old rfl rfl <| .old rfl rfl <| .new rfl <| .nil)
        replace h_r := h_r.mono hle8
        replace hs_r := hs_r.mono hle8
        replace hc1 := hc1.mono hle8
        replace hcv17 := hcv17.mono hle8
        have hlh8 := hlh7.trans hle8
        replace hM := hM.trans hle8
        clear hst7 hfr7 hk8
        refine hK13 _ _ ?_; try clear hK13 K13
        refine region_plain (fun h => by cases h) hst8 hfr8 (by kernel_rfl) (by kernel_rfl) (.cons rfl (ob_move rfl) <|
            .cons rfl (ob_add rfl rfl ⟨by omega, by omega⟩) <|
            .cons rfl (ob_assign rfl) <|
            .nil) ?_
        intro a9 w9 m9 hst9 hle9 hk9
        have hfr9 := hk9.fr (T' := [(0, _), (2, _), (1, _), (3, _), (4, _)]) (.old rfl rfl <| .old rfl rfl <| .old rfl rfl <| .old rfl rfl <| .new rfl <| .nil)
        replace h_r := h_r.mono hle9
        replace hs_r := hs_r.mono hle9
        replace hc1 := hc1.mono hle9
        replace hcv17 := hcv17.mono hle9
        have hlh9 := hlh8.trans hle9
        replace hM := hM.trans hle9
        clear hst8 hfr8 hk9
        exact ⟨(y + 1, _), m9, by show r.labels.length - (y + 1) < r.labels.length - y; omega, ⟨hst9, hlh9, hfr9.sub (.cons rfl <| .cons rfl <| .cons rfl <| .cons rfl <| .cons rfl <| .nil), ⟨by show y + 1 ≤ r.labels.length; omega, by rw [ht17, join_snoc1, hs]; first | (rw [show y = 0 by omega]; simp [Go.Lib.join]; done) | (rw [if_neg (c := r.labels.take y = []) (by rw [List.take_eq_nil_iff]; rintro (h | h); (exact absurd h (by omega)); (rw [h] at hyn; simp at hyn; omega))]; simp; done), by rw [ht17, lensS_snoc]; simp only [List.length_append, List.length_cons, List.length_nil]; omega⟩⟩⟩
    · try simp only [Bool.not_eq_true', Bool.not_eq_false', decide_eq_true_eq, decide_eq_false_iff_not, Bool.and_eq_true, Bool.or_eq_true, Bool.and_eq_false_iff, Bool.or_eq_false_iff, Bool.not_not, u8_eq] at hb18
      have hge : y = r.labels.length := by omega
      rw [List.take_of_length_le (by omega)] at hs hsl
      refine wp_exit ?_
      refine hK8 _ _ ?_; try clear hK8 K8
      refine seq_any fun K18 hK18 => ?_
      refine seq_any fun K19 hK19 => ?_
      refine region_plain (fun h => by cases h) hst6 hfr6 (by kernel_rfl) (by kernel_rfl) (.cons rfl (ob_fieldAddr rfl Tryd.underlying25 rfl Tryd.sizeOf3 rfl) <|
          .cons rfl (ob_load1 rfl hc1 Tryd.isAgg3 rfl) <|
          .cons rfl (ob_gtr rfl rfl) <|
          .nil) ?_
      intro a7 w7 m7 hst7 hle7 hk7
      have hfr7 := hk7.fr (T' := [(3, _), (4, _), (0, _), (2, _), (1, _), (34, _)]) (.old rfl rfl <| .old rfl rfl <| .old rfl rfl <| .old rfl rfl <| .old rfl rfl <| .new rfl <| .nil)
      replace h_r := h_r.mono hle7
      replace hs_r := hs_r.mono hle7
      replace hc1 := hc1.mono hle7
      have hlh7 := hlh6.trans hle7
      replace hM := hM.trans hle7
      clear hst6 hfr6 hk7
      refine hK19 _ _ ?_; try clear hK19 K19
      refine cond_any hfr7 rfl rfl (fun hb34 => ?_) (fun hb34 => ?_)
      · try simp only [Bool.not_eq_true', Bool.not_eq_false', decide_eq_true_eq, decide_eq_false_iff_not, Bool.and_eq_true, Bool.or_eq_true, Bool.and_eq_false_iff, Bool.or_eq_false_iff, Bool.not_not, u8_eq] at hb34
        refine region_plain (fun h => by cases h) hst7 hfr7 (by kernel_rfl) (by kernel_rfl) (.cons rfl (ob_move rfl) <|
            .cons rfl (ob_sadd rfl rfl (by first | omega | (simp only [List.length_append, List.length_cons, List.length_nil, List.length_map]; omega))) <|
            .cons rfl (ob_fieldAddr rfl Tryd.underlying25 rfl Tryd.sizeOf3 rfl) <|
            .cons rfl (ob_load1 rfl hc1 Tryd.isAgg3 rfl) <|
            .cons rfl (ob_callE rfl (.cons rfl <| .nil) Tryd.call36 (fun w m hK => by have hle_ := KC.le hK; have hA := KC.agree hK; have hM := hM.trans hle_; exact (show FnV Tryd.prog 36 #[.int .i64 r.var] _ _ (fun _ _ v => v = S (itoa r.var)) from by rw [hiv, hvn]; exact numR_c (n := vn) hA (by omega)))) <|
            .cons rfl (ob_sadd rfl rfl (by first | omega | (simp only [List.length_append, List.length_cons, List.length_nil, List.length_map]; omega))) <|
            .cons rfl (ob_assign rfl) <|
            .nil) ?_
        intro a8 w8 m8 hst8 hle8 hk8
        have hfr8 := hk8.fr (T' := [(4, _), (0, _), (2, _), (1, _), (3, _)]) (.old rfl rfl <| .old rfl rfl <| .old rfl rfl <| .old rfl rfl <| .new rfl <| .nil)
        replace h_r := h_r.mono hle8
        replace hs_r := hs_r.mono hle8
        replace hc1 := hc1.mono hle8
        have hlh8 := hlh7.trans hle8
        replace hM := hM.trans hle8
        clear hst7 hfr7 hk8
        refine hK18 _ _ ?_; try clear hK18 K18
        refine seq_any fun K20 hK20 => ?_
        refine region_plain (fun h => by cases h) hst8 hfr8 (by kernel_rfl) (by kernel_rfl) (.cons rfl (ob_move rfl) <|
            .cons rfl (ob_sadd rfl rfl (by first | omega | (simp only [List.length_append, List.length_cons, List.length_nil, List.length_map]; omega))) <|
            .cons rfl (ob_assign rfl) <|
            .nil) ?_
        intro a9 w9 m9 hst9 hle9 hk9
        have hfr9 := hk9.fr (T' := [(4, _), (0, _), (1, _), (3, _), (2, _)]) (.old rfl rfl <| .old rfl rfl <| .old rfl rfl <| .old rfl rfl <| .new rfl <| .nil)
        replace h_r := h_r.mono hle9
        replace hs_r := hs_r.mono hle9
        replace hc1 := hc1.mono hle9
        have hlh9 := hlh8.trans hle9
        replace hM := hM.trans hle9
        clear hst8 hfr8 hk9
        refine hK20 _ _ ?_; try clear hK20 K20
        refine wp_ret ?_
        repeat (with_reducible first | refine then_ret ?_ | refine block_ret ?_)
        exact fn_ret hst9 hfr9 rfl (.tmp rfl <| .nil) (by refine congrArg S ?_; unfold rowTextS; rw [if_neg hcc, hs]; first | (rw [if_pos hb34]; simp; done) | (rw [if_neg hb34]; simp; done))
      · try simp only [Bool.not_eq_true', Bool.not_eq_false', decide_eq_true_eq, decide_eq_false_iff_not, Bool.and_eq_true, Bool.or_eq_true, Bool.and_eq_false_iff, Bool.or_eq_false_iff, Bool.not_not, u8_eq] at hb34
        refine wp_skip ?_
        refine hK18 _ _ ?_; try clear hK18 K18
        refine seq_any fun K22 hK22 => ?_
        refine region_plain (fun h => by cases h) hst7 hfr7 (by kernel_rfl) (by kernel_rfl) (.cons rfl (ob_move rfl) <|
            .cons rfl (ob_sadd rfl rfl (by first | omega | (simp only [List.length_append, List.length_cons, List.length_nil, List.length_map]; omega))) <|
            .cons rfl (ob_assign rfl) <|
            .nil) ?_
        intro a8 w8 m8 hst8 hle8 hk8
        have hfr8 := hk8.fr (T' := [(3, _), (4, _), (0, _), (1, _), (2, _)]) (.old rfl rfl <| .old rfl rfl <| .old rfl rfl <| .old rfl rfl <| .new rfl <| .nil)
        replace h_r := h_r.mono hle8
        replace hs_r := hs_r.mono hle8
        replace hc1 := hc1.mono hle8
        have hlh8 := hlh7.trans hle8
        replace hM := hM.trans hle8
        clear hst7 hfr7 hk8
        refine hK22 _ _ ?_; try clear hK22 K22
        refine wp_ret ?_
        repeat (with_reducible first | refine then_ret ?_ | refine block_ret ?_)
        exact fn_ret hst8 hfr8 rfl (.tmp rfl <| .nil) (by refine congrArg S ?_; unfold rowTextS; rw [if_neg hcc, hs]; first | (rw [if_pos hb34]; simp; done) | (rw [if_neg hb34]; simp; done))

abbrev rtext_G (t : Ty) : Prop := ∀ {w : World} {m : Mem} {vs_t : List Value} (hA : Agree w m) (h_t : TyR m t vs_t) (hr : rightT t = true) (hb : bulkT t ≤ 1073741824), FnV Tryd.prog 15 #[.agg vs_t.toArray] w m (fun _ _ v => v = S (textT t))
set_option maxHeartbeats 400000 in
theorem rtext_s {t : Ty} (ih : ∀ u ∈ t.args, rtext_G u) {w : World} {m : Mem} {vs_t : List Value} (hA : Agree w m) (h_t : TyR m t vs_t) (hr : rightT t = true) (hb : bulkT t ≤ 1073741824) : FnV Tryd.prog 15 #[.agg vs_t.toArray] w m (fun _ _ v => v = S (textT t)) := by
  obtain ⟨o_t, c_t, oL_t, cL_t, rfl, hk_t, hs_t, hi_t, hj_t, hr_t⟩ := h_t.open_
  have hbg_t := hk_t.big; have hcp_t := hk_t.cap; have hbs_t := hs_t.big; have hcs_t := hs_t.cap
  have hrw_t : RwR _ ⟨t.labels, t.rv⟩ _ := ⟨_, _, rfl, hs_t, hr_t⟩
  refine fn_enter (vs := [_]) Tryd.func15 rfl rfl rfl fun a0 hfr0 => ?_
  have hst0 := st_enter hA (loc_nil [] _ w m)
  have hM : MLe m m := MLe.refl m
  have hbk := fun u (hu : u ∈ t.args) => bulkT_arg hu
  have hil := itoa_len hj_t
  have htl := TyR.text_len t h_t
  have hbe := bulkT_eq t
  have hrc := right_cases hr
  obtain ⟨hj1, hj2⟩ := hj_t
  refine seq_any fun K1 hK1 => ?_
  refine region_plain (fun h => by cases h) hst0 hfr0 (by kernel_rfl) (by kernel_rfl) (.cons rfl (ob_box rfl rfl) <|
      .cons rfl (ob_assign rfl) <|
      .nil) ?_
  intro a1 w1 m1 hst1 hle1 hk1
  have hfr1 := hk1.fr (T' := [(0, _), (2, _)]) (.old rfl rfl <| .new rfl <| .nil)
  obtain ⟨g2, e2, hc1⟩ := hk1.ex 1 rfl
  replace hfr1 := hfr1.cons e2
  replace h_t := h_t.mono hle1
  replace hk_t := hk_t.mono hle1
  replace hs_t := hs_t.mono hle1
  replace hrw_t := hrw_t.mono hle1
  replace hM := hM.trans hle1
  clear hst0 hfr0 hk1
  refine hK1 _ _ ?_; try clear hK1 K1
  refine seq_any fun K3 hK3 => ?_
  refine seq_any fun K4 hK4 => ?_
  refine region_plain (fun h => by cases h) hst1 hfr1 (by kernel_rfl) (by kernel_rfl) (.cons rfl (ob_fieldAddr rfl Tryd.underlying27 rfl Tryd.sizeOf3 rfl) <|
      .cons rfl (ob_load1 rfl hc1 Tryd.isAgg3 rfl) <|
      .nil) ?_
  intro a2 w2 m2 hst2 hle2 hk2
  have hfr2 := hk2.fr (T' := [(0, _), (2, _), (1, _), (6, _)]) (.old rfl rfl <| .old rfl rfl <| .old rfl rfl <| .new rfl <| .nil)
  replace h_t := h_t.mono hle2
  replace hk_t := hk_t.mono hle2
  replace hs_t := hs_t.mono hle2
  replace hrw_t := hrw_t.mono hle2
  replace hc1 := hc1.mono hle2
  replace hM := hM.trans hle2
  clear hst1 hfr1 hk2
  refine hK4 _ _ ?_; try clear hK4 K4
  refine wp_block ?_
  refine seq_any fun K5 hK5 => ?_
  refine region_plain (fun h => by cases h) hst2 hfr2 (by kernel_rfl) (by kernel_rfl) (.cons rfl (ob_eql rfl rfl) <|
      .cons rfl (ob_assign rfl) <|
      .nil) ?_
  intro a3 w3 m3 hst3 hle3 hk3
  have hfr3 := hk3.fr (T' := [(0, _), (2, _), (1, _), (6, _), (7, _)]) (.old rfl rfl <| .old rfl rfl <| .old rfl rfl <| .old rfl rfl <| .new rfl <| .nil)
  replace h_t := h_t.mono hle3
  replace hk_t := hk_t.mono hle3
  replace hs_t := hs_t.mono hle3
  replace hrw_t := hrw_t.mono hle3
  replace hc1 := hc1.mono hle3
  replace hM := hM.trans hle3
  clear hst2 hfr2 hk3
  refine hK5 _ _ ?_; try clear hK5 K5
  refine cond_any hfr3 rfl rfl (fun hb7 => ?_) (fun hb7 => ?_)
  · try simp only [Bool.not_eq_true', Bool.not_eq_false', decide_eq_true_eq, decide_eq_false_iff_not, Bool.and_eq_true, Bool.or_eq_true, Bool.and_eq_false_iff, Bool.or_eq_false_iff, Bool.not_not, u8_eq] at hb7
    refine seq_any fun K6 hK6 => ?_
    refine region_plain (fun h => by cases h) hst3 hfr3 (by kernel_rfl) (by kernel_rfl) (.cons rfl (ob_assign rfl) <|
        .nil) ?_
    intro a4 w4 m4 hst4 hle4 hk4
    have hfr4 := hk4.fr (T' := [(0, _), (1, _), (6, _), (2, _)]) (.old rfl rfl <| .old rfl rfl <| .old rfl rfl <| .new rfl <| .nil)
    replace h_t := h_t.mono hle4
    replace hk_t := hk_t.mono hle4
    replace hs_t := hs_t.mono hle4
    replace hrw_t := hrw_t.mono hle4
    replace hc1 := hc1.mono hle4
    replace hM := hM.trans hle4
    clear hst3 hfr3 hk4
    refine hK6 _ _ ?_; try clear hK6 K6
    refine wp_ret ?_
    repeat (with_reducible first | refine then_ret ?_ | refine block_ret ?_)
    exact fn_ret hst4 hfr4 rfl (.tmp rfl <| .nil) (by rw [textT_eq t, if_pos hb7]; rfl)
  · try simp only [Bool.not_eq_true', Bool.not_eq_false', decide_eq_true_eq, decide_eq_false_iff_not, Bool.and_eq_true, Bool.or_eq_true, Bool.and_eq_false_iff, Bool.or_eq_false_iff, Bool.not_not, u8_eq] at hb7
    refine seq_any fun K8 hK8 => ?_
    refine region_plain (fun h => by cases h) hst3 hfr3 (by kernel_rfl) (by kernel_rfl) (.cons rfl (ob_eql rfl rfl) <|
        .cons rfl (ob_assign rfl) <|
        .nil) ?_
    intro a4 w4 m4 hst4 hle4 hk4
    have hfr4 := hk4.fr (T' := [(0, _), (2, _), (1, _), (6, _), (9, _)]) (.old rfl rfl <| .old rfl rfl <| .old rfl rfl <| .old rfl rfl <| .new rfl <| .nil)
    replace h_t := h_t.mono hle4
    replace hk_t := hk_t.mono hle4
    replace hs_t := hs_t.mono hle4
    replace hrw_t := hrw_t.mono hle4
    replace hc1 := hc1.mono hle4
    replace hM := hM.trans hle4
    clear hst3 hfr3 hk4
    refine hK8 _ _ ?_; try clear hK8 K8
    refine cond_any hfr4 rfl rfl (fun hb9 => ?_) (fun hb9 => ?_)
    · try simp only [Bool.not_eq_true', Bool.not_eq_false', decide_eq_true_eq, decide_eq_false_iff_not, Bool.and_eq_true, Bool.or_eq_true, Bool.and_eq_false_iff, Bool.or_eq_false_iff, Bool.not_not, u8_eq] at hb9
      refine seq_any fun K9 hK9 => ?_
      refine region_plain (fun h => by cases h) hst4 hfr4 (by kernel_rfl) (by kernel_rfl) (.cons rfl (ob_assign rfl) <|
          .nil) ?_
      intro a5 w5 m5 hst5 hle5 hk5
      have hfr5 := hk5.fr (T' := [(0, _), (1, _), (6, _), (2, _)]) (.old rfl rfl <| .old rfl rfl <| .old rfl rfl <| .new rfl <| .nil)
      replace h_t := h_t.mono hle5
      replace hk_t := hk_t.mono hle5
      replace hs_t := hs_t.mono hle5
      replace hrw_t := hrw_t.mono hle5
      replace hc1 := hc1.mono hle5
      replace hM := hM.trans hle5
      clear hst4 hfr4 hk5
      refine hK9 _ _ ?_; try clear hK9 K9
      refine wp_ret ?_
      repeat (with_reducible first | refine then_ret ?_ | refine block_ret ?_)
      exact fn_ret hst5 hfr5 rfl (.tmp rfl <| .nil) (by rw [textT_eq t, if_neg hb7, if_pos hb9]; rfl)
    · try simp only [Bool.not_eq_true', Bool.not_eq_false', decide_eq_true_eq, decide_eq_false_iff_not, Bool.and_eq_true, Bool.or_eq_true, Bool.and_eq_false_iff, Bool.or_eq_false_iff, Bool.not_not, u8_eq] at hb9
      refine seq_any fun K11 hK11 => ?_
      refine region_plain (fun h => by cases h) hst4 hfr4 (by kernel_rfl) (by kernel_rfl) (.cons rfl (ob_eql rfl rfl) <|
          .cons rfl (ob_assign rfl) <|
          .nil) ?_
      intro a5 w5 m5 hst5 hle5 hk5
      have hfr5 := hk5.fr (T' := [(0, _), (2, _), (1, _), (6, _), (11, _)]) (.old rfl rfl <| .old rfl rfl <| .old rfl rfl <| .old rfl rfl <| .new rfl <| .nil)
      replace h_t := h_t.mono hle5
      replace hk_t := hk_t.mono hle5
      replace hs_t := hs_t.mono hle5
      replace hrw_t := hrw_t.mono hle5
      replace hc1 := hc1.mono hle5
      replace hM := hM.trans hle5
      clear hst4 hfr4 hk5
      refine hK11 _ _ ?_; try clear hK11 K11
      refine cond_any hfr5 rfl rfl (fun hb11 => ?_) (fun hb11 => ?_)
      · try simp only [Bool.not_eq_true', Bool.not_eq_false', decide_eq_true_eq, decide_eq_false_iff_not, Bool.and_eq_true, Bool.or_eq_true, Bool.and_eq_false_iff, Bool.or_eq_false_iff, Bool.not_not, u8_eq] at hb11
        refine seq_any fun K12 hK12 => ?_
        refine region_plain (fun h => by cases h) hst5 hfr5 (by kernel_rfl) (by kernel_rfl) (.cons rfl (ob_assign rfl) <|
            .nil) ?_
        intro a6 w6 m6 hst6 hle6 hk6
        have hfr6 := hk6.fr (T' := [(0, _), (1, _), (6, _), (2, _)]) (.old rfl rfl <| .old rfl rfl <| .old rfl rfl <| .new rfl <| .nil)
        replace h_t := h_t.mono hle6
        replace hk_t := hk_t.mono hle6
        replace hs_t := hs_t.mono hle6
        replace hrw_t := hrw_t.mono hle6
        replace hc1 := hc1.mono hle6
        replace hM := hM.trans hle6
        clear hst5 hfr5 hk6
        refine hK12 _ _ ?_; try clear hK12 K12
        refine wp_ret ?_
        repeat (with_reducible first | refine then_ret ?_ | refine block_ret ?_)
        exact fn_ret hst6 hfr6 rfl (.tmp rfl <| .nil) (by rw [textT_eq t, if_neg hb7, if_neg hb9, if_pos hb11]; rfl)
      · try simp only [Bool.not_eq_true', Bool.not_eq_false', decide_eq_true_eq, decide_eq_false_iff_not, Bool.and_eq_true, Bool.or_eq_true, Bool.and_eq_false_iff, Bool.or_eq_false_iff, Bool.not_not, u8_eq] at hb11
        refine seq_any fun K14 hK14 => ?_
        refine region_plain (fun h => by cases h) hst5 hfr5 (by kernel_rfl) (by kernel_rfl) (.cons rfl (ob_eql rfl rfl) <|
            .cons rfl (ob_assign rfl) <|
            .nil) ?_
        intro a6 w6 m6 hst6 hle6 hk6
        have hfr6 := hk6.fr (T' := [(0, _), (2, _), (1, _), (6, _), (13, _)]) (.old rfl rfl <| .old rfl rfl <| .old rfl rfl <| .old rfl rfl <| .new rfl <| .nil)
        replace h_t := h_t.mono hle6
        replace hk_t := hk_t.mono hle6
        replace hs_t := hs_t.mono hle6
        replace hrw_t := hrw_t.mono hle6
        replace hc1 := hc1.mono hle6
        replace hM := hM.trans hle6
        clear hst5 hfr5 hk6
        refine hK14 _ _ ?_; try clear hK14 K14
        refine cond_any hfr6 rfl rfl (fun hb13 => ?_) (fun hb13 => ?_)
        · try simp only [Bool.not_eq_true', Bool.not_eq_false', decide_eq_true_eq, decide_eq_false_iff_not, Bool.and_eq_true, Bool.or_eq_true, Bool.and_eq_false_iff, Bool.or_eq_false_iff, Bool.not_not, u8_eq] at hb13
          refine seq_any fun K15 hK15 => ?_
          refine region_plain (fun h => by cases h) hst6 hfr6 (by kernel_rfl) (by kernel_rfl) (.cons rfl (ob_fieldAddr rfl Tryd.underlying27 rfl Tryd.sizeOf9 rfl) <|
              .cons rfl (ob_load1 rfl hc1 Tryd.isAgg9 rfl) <|
              .cons rfl (ob_assign rfl) <|
              .nil) ?_
          intro a7 w7 m7 hst7 hle7 hk7
          have hfr7 := hk7.fr (T' := [(0, _), (1, _), (6, _), (2, _)]) (.old rfl rfl <| .old rfl rfl <| .old rfl rfl <| .new rfl <| .nil)
          replace h_t := h_t.mono hle7
          replace hk_t := hk_t.mono hle7
          replace hs_t := hs_t.mono hle7
          replace hrw_t := hrw_t.mono hle7
          replace hc1 := hc1.mono hle7
          replace hM := hM.trans hle7
          clear hst6 hfr6 hk7
          refine hK15 _ _ ?_; try clear hK15 K15
          refine wp_ret ?_
          repeat (with_reducible first | refine then_ret ?_ | refine block_ret ?_)
          exact fn_ret hst7 hfr7 rfl (.tmp rfl <| .nil) (by rw [textT_eq t, if_neg hb7, if_neg hb9, if_neg hb11, if_neg (by omega), textTs_other (by omega) (by omega)]; rfl)
        · try simp only [Bool.not_eq_true', Bool.not_eq_false', decide_eq_true_eq, decide_eq_false_iff_not, Bool.and_eq_true, Bool.or_eq_true, Bool.and_eq_false_iff, Bool.or_eq_false_iff, Bool.not_not, u8_eq] at hb13
          refine seq_any fun K17 hK17 => ?_
          refine region_plain (fun h => by cases h) hst6 hfr6 (by kernel_rfl) (by kernel_rfl) (.cons rfl (ob_eql rfl rfl) <|
              .cons rfl (ob_assign rfl) <|
              .nil) ?_
          intro a7 w7 m7 hst7 hle7 hk7
          have hfr7 := hk7.fr (T' := [(0, _), (2, _), (1, _), (6, _), (17, _)]) (.old rfl rfl <| .old rfl rfl <| .old rfl rfl <| .old rfl rfl <| .new rfl <| .nil)
          replace h_t := h_t.mono hle7
          replace hk_t := hk_t.mono hle7
          replace hs_t := hs_t.mono hle7
          replace hrw_t := hrw_t.mono hle7
          replace hc1 := hc1.mono hle7
          replace hM := hM.trans hle7
          clear hst6 hfr6 hk7
          refine hK17 _ _ ?_; try clear hK17 K17
          refine cond_any hfr7 rfl rfl (fun hb17 => ?_) (fun hb17 => ?_)
          · try simp only [Bool.not_eq_true', Bool.not_eq_false', decide_eq_true_eq, decide_eq_false_iff_not, Bool.and_eq_true, Bool.or_eq_true, Bool.and_eq_false_iff, Bool.or_eq_false_iff, Bool.not_not, u8_eq] at hb17
            refine seq_any fun K18 hK18 => ?_
            have hv1 : 1 ≤ t.var := by rcases hrc with h | h | h | h | h <;> first | exact h.2.2 | omega
            obtain ⟨vn, hvn⟩ : ∃ vn : Nat, t.var = (vn : Int) := ⟨t.var.toNat, by omega⟩
            have hiv : itoa t.var = decDigits vn := by unfold itoa; rw [hvn, if_neg (by omega)]; rfl
            refine region_plain (fun h => by cases h) hst7 hfr7 (by kernel_rfl) (by kernel_rfl) (.cons rfl (ob_fieldAddr rfl Tryd.underlying27 rfl Tryd.sizeOf3 rfl) <|
                .cons rfl (ob_load1 rfl hc1 Tryd.isAgg3 rfl) <|
                .cons rfl (ob_callE rfl (.cons rfl <| .nil) Tryd.call36 (fun w m hK => by have hle_ := KC.le hK; have hA := KC.agree hK; have hM := hM.trans hle_; exact (show FnV Tryd.prog 36 #[.int .i64 t.var] _ _ (fun _ _ v => v = S (itoa t.var)) from by rw [hiv, hvn]; exact numR_c (n := vn) hA (by omega)))) <|
                .cons rfl (ob_sadd rfl rfl (by first | omega | (simp only [List.length_append, List.length_cons, List.length_nil, List.length_map]; omega))) <|
                .cons rfl (ob_assign rfl) <|
                .nil) ?_
            intro a8 w8 m8 hst8 hle8 hk8
            have hfr8 := hk8.fr (T' := [(0, _), (1, _), (6, _), (2, _)]) (.old rfl rfl <| .old rfl rfl <| .old rfl rfl <| .new rfl <| .nil)
            replace h_t := h_t.mono hle8
            replace hk_t := hk_t.mono hle8
            replace hs_t := hs_t.mono hle8
            replace hrw_t := hrw_t.mono hle8
            replace hc1 := hc1.mono hle8
            replace hM := hM.trans hle8
            clear hst7 hfr7 hk8
            refine hK18 _ _ ?_; try clear hK18 K18
            refine wp_ret ?_
            repeat (with_reducible first | refine then_ret ?_ | refine block_ret ?_)
            exact fn_ret hst8 hfr8 rfl (.tmp rfl <| .nil) (by rw [textT_eq t, if_neg hb7, if_neg hb9, if_neg hb11, if_pos hb17]; rfl)
          · try simp only [Bool.not_eq_true', Bool.not_eq_false', decide_eq_true_eq, decide_eq_false_iff_not, Bool.and_eq_true, Bool.or_eq_true, Bool.and_eq_false_iff, Bool.or_eq_false_iff, Bool.not_not, u8_eq] at hb17
            refine seq_any fun K20 hK20 => ?_
            refine region_plain (fun h => by cases h) hst7 hfr7 (by kernel_rfl) (by kernel_rfl) (.cons rfl (ob_eql rfl rfl) <|
                .cons rfl (ob_assign rfl) <|
                .nil) ?_
            intro a8 w8 m8 hst8 hle8 hk8
            have hfr8 := hk8.fr (T' := [(0, _), (2, _), (1, _), (6, _), (23, _)]) (.old rfl rfl <| .old rfl rfl <| .old rfl rfl <| .old rfl rfl <| .new rfl <| .nil)
            replace h_t := h_t.mono hle8
            replace hk_t := hk_t.mono hle8
            replace hs_t := hs_t.mono hle8
            replace hrw_t := hrw_t.mono hle8
            replace hc1 := hc1.mono hle8
            replace hM := hM.trans hle8
            clear hst7 hfr7 hk8
            refine hK20 _ _ ?_; try clear hK20 K20
            refine cond_any hfr8 rfl rfl (fun hb23 => ?_) (fun hb23 => ?_)
            · try simp only [Bool.not_eq_true', Bool.not_eq_false', decide_eq_true_eq, decide_eq_false_iff_not, Bool.and_eq_true, Bool.or_eq_true, Bool.and_eq_false_iff, Bool.or_eq_false_iff, Bool.not_not, u8_eq] at hb23
              refine seq_any fun K21 hK21 => ?_
              refine seq_any fun K22 hK22 => ?_
              obtain ⟨x0, hx0, hrx⟩ : ∃ x, t.args = [x] ∧ rightT x = true := by rcases hrc with h | h | h | h | h <;> first | exact h.2 | omega
              have hl1 : t.args.length = 1 := by rw [hx0]; rfl
              refine region_plain (fun h => by cases h) hst8 hfr8 (by kernel_rfl) (by kernel_rfl) (.cons rfl (ob_fieldAddr rfl Tryd.underlying27 rfl Tryd.sizeOf22 rfl) <|
                  .cons rfl (ob_load1 rfl hc1 Tryd.isAgg22 rfl) <|
                  .cons rfl (ob_len rfl Tryd.underlying22) <|
                  .cons rfl (ob_eql rfl rfl) <|
                  .nil) ?_
              intro a9 w9 m9 hst9 hle9 hk9
              have hfr9 := hk9.fr (T' := [(0, _), (2, _), (1, _), (6, _), (28, _)]) (.old rfl rfl <| .old rfl rfl <| .old rfl rfl <| .old rfl rfl <| .new rfl <| .nil)
              replace h_t := h_t.mono hle9
              replace hk_t := hk_t.mono hle9
              replace hs_t := hs_t.mono hle9
              replace hrw_t := hrw_t.mono hle9
              replace hc1 := hc1.mono hle9
              replace hM := hM.trans hle9
              clear hst8 hfr8 hk9
              refine hK22 _ _ ?_; try clear hK22 K22
              refine cond_any hfr9 rfl rfl (fun hb28 => ?_) (fun hb28 => ?_)
              · simp only [decide_eq_true_eq] at hb28; omega
              · try simp only [Bool.not_eq_true', Bool.not_eq_false', decide_eq_true_eq, decide_eq_false_iff_not, Bool.and_eq_true, Bool.or_eq_true, Bool.and_eq_false_iff, Bool.or_eq_false_iff, Bool.not_not, u8_eq] at hb28
                refine wp_skip ?_
                refine hK21 _ _ ?_; try clear hK21 K21
                refine seq_any fun K23 hK23 => ?_
                obtain ⟨p24, vs24, x24, ho24, hd24, hm_x24, ht24, hcv24, hl24, hv24⟩ := hk_t.nth (k := 0) (by omega)
                cases ho24
                obtain ⟨o24, c24, oL24, cL24, rfl, hkd24, hs24, hi24, hj24, hr24⟩ := hv24.open_
                have hbg24 := hkd24.big; have hcp24 := hkd24.cap; have hbs24 := hs24.big; have hcs24 := hs24.cap
                have hrw24 : RwR _ ⟨x24.labels, x24.rv⟩ _ := ⟨_, _, rfl, hs24, hr24⟩
                refine region_plain (fun h => by cases h) hst9 hfr9 (by kernel_rfl) (by kernel_rfl) (.cons rfl (ob_fieldAddr rfl Tryd.underlying27 rfl Tryd.sizeOf22 rfl) <|
                    .cons rfl (ob_load1 rfl hc1 Tryd.isAgg22 rfl) <|
                    .cons rfl (ob_indexAddr (k := 0) rfl rfl Tryd.underlying22 Tryd.sizeOf27 rfl (by omega)) <|
                    .cons rfl (ob_loadS' rfl hcv24 Tryd.isAgg27 Tryd.sizeOf27 rfl rfl) <|
                    .cons rfl (ob_callE rfl (.cons rfl <| .nil) Tryd.call15 (fun w m hK => by have hle_ := KC.le hK; have hA := KC.agree hK; have hM := hM.trans hle_; have h_t := h_t.mono hle_; have hk_t := hk_t.mono hle_; have hs_t := hs_t.mono hle_; have hrw_t := hrw_t.mono hle_; have hc1 := hc1.mono hle_; have hcv24 := hcv24.mono hle_; have hv24 := hv24.mono hle_; have hkd24 := hkd24.mono hle_; have hs24 := hs24.mono hle_; have hrw24 := hrw24.mono hle_; exact ih _ (by assumption) hA (by assumption) (by have h := hd24; rw [hx0] at h; simp at h; rw [← h]; exact hrx) (Nat.le_trans (hbk _ (by assumption)) hb))) <|
                    .cons rfl (ob_assign rfl) <|
                    .nil) ?_
                intro a10 w10 m10 hst10 hle10 hk10
                have hfr10 := hk10.fr (T' := [(0, _), (2, _), (1, _), (6, _), (3, _)]) (.old rfl rfl <| .old rfl rfl <| .old rfl rfl <| .old rfl rfl <| .new rfl <| .nil)
                replace h_t := h_t.mono hle10
                replace hk_t := hk_t.mono hle10
                replace hs_t := hs_t.mono hle10
                replace hrw_t := hrw_t.mono hle10
                replace hc1 := hc1.mono hle10
                replace hcv24 := hcv24.mono hle10
                replace hv24 := hv24.mono hle10
                replace hkd24 := hkd24.mono hle10
                replace hs24 := hs24.mono hle10
                replace hrw24 := hrw24.mono hle10
                replace hM := hM.trans hle10
                clear hst9 hfr9 hk10
                have e0 : x0 = x24 := by have h := hd24; rw [hx0] at h; simpa using h
                subst e0
                have h2 := TyR.text_len _ hv24
                have h3 := hbk _ hm_x24
                refine hK23 _ _ ?_; try clear hK23 K23
                refine seq_any fun K25 hK25 => ?_
                refine seq_any fun K26 hK26 => ?_
                refine region_plain (fun h => by cases h) hst10 hfr10 (by kernel_rfl) (by kernel_rfl) (.cons rfl (ob_fieldAddr rfl Tryd.underlying27 rfl Tryd.sizeOf22 rfl) <|
                    .cons rfl (ob_load1 rfl hc1 Tryd.isAgg22 rfl) <|
                    .cons rfl (ob_indexAddr (k := 0) rfl rfl Tryd.underlying22 Tryd.sizeOf27 rfl (by omega)) <|
                    .cons rfl (ob_fieldAddr rfl Tryd.underlying27 rfl Tryd.sizeOf3 rfl) <|
                    .cons rfl (ob_load1 rfl hcv24 Tryd.isAgg3 rfl) <|
                    .cons rfl (ob_eql rfl rfl) <|
                    .cons rfl (ob_move rfl) <|
                    .cons rfl (ob_fieldAddr rfl Tryd.underlying27 rfl Tryd.sizeOf22 rfl) <|
                    .cons rfl (ob_load1 rfl hc1 Tryd.isAgg22 rfl) <|
                    .cons rfl (ob_indexAddr (k := 0) rfl rfl Tryd.underlying22 Tryd.sizeOf27 rfl (by omega)) <|
                    .cons rfl (ob_fieldAddr rfl Tryd.underlying27 rfl Tryd.sizeOf3 rfl) <|
                    .cons rfl (ob_load1 rfl hcv24 Tryd.isAgg3 rfl) <|
                    .cons rfl (ob_eql rfl rfl) <|
                    .cons rfl (ob_or rfl rfl rfl) <|
                    .nil) ?_
                intro a11 w11 m11 hst11 hle11 hk11
                have hfr11 := hk11.fr (T' := [(0, _), (2, _), (1, _), (6, _), (3, _), (47, _)]) (.old rfl rfl <| .old rfl rfl <| .old rfl rfl <| .old rfl rfl <| .old rfl rfl <| .new rfl <| .nil)
                replace h_t := h_t.mono hle11
                replace hk_t := hk_t.mono hle11
                replace hs_t := hs_t.mono hle11
                replace hrw_t := hrw_t.mono hle11
                replace hc1 := hc1.mono hle11
                replace hcv24 := hcv24.mono hle11
                replace hv24 := hv24.mono hle11
                replace hkd24 := hkd24.mono hle11
                replace hs24 := hs24.mono hle11
                replace hrw24 := hrw24.mono hle11
                replace hM := hM.trans hle11
                clear hst10 hfr10 hk11
                refine hK26 _ _ ?_; try clear hK26 K26
                refine cond_any hfr11 rfl rfl (fun hb47 => ?_) (fun hb47 => ?_)
                · try simp only [Bool.not_eq_true', Bool.not_eq_false', decide_eq_true_eq, decide_eq_false_iff_not, Bool.and_eq_true, Bool.or_eq_true, Bool.and_eq_false_iff, Bool.or_eq_false_iff, Bool.not_not, u8_eq] at hb47
                  refine region_plain (fun h => by cases h) hst11 hfr11 (by kernel_rfl) (by kernel_rfl) (.cons rfl (ob_move rfl) <|
                      .cons rfl (ob_sadd rfl rfl (by first | omega | (simp only [List.length_append, List.length_cons, List.length_nil, List.length_map]; omega))) <|
                      .cons rfl (ob_sadd rfl rfl (by first | omega | (simp only [List.length_append, List.length_cons, List.length_nil, List.length_map]; omega))) <|
                      .cons rfl (ob_assign rfl) <|
                      .nil) ?_
                  intro a12 w12 m12 hst12 hle12 hk12
                  have hfr12 := hk12.fr (T' := [(0, _), (2, _), (1, _), (6, _), (3, _)]) (.old rfl rfl <| .old rfl rfl <| .old rfl rfl <| .old rfl rfl <| .new rfl <| .nil)
                  replace h_t := h_t.mono hle12
                  replace hk_t := hk_t.mono hle12
                  replace hs_t := hs_t.mono hle12
                  replace hrw_t := hrw_t.mono hle12
                  replace hc1 := hc1.mono hle12
                  replace hcv24 := hcv24.mono hle12
                  replace hv24 := hv24.mono hle12
                  replace hkd24 := hkd24.mono hle12
                  replace hs24 := hs24.mono hle12
                  replace hrw24 := hrw24.mono hle12
                  replace hM := hM.trans hle12
                  clear hst11 hfr11 hk12
                  refine hK25 _ _ ?_; try clear hK25 K25
                  refine seq_any fun K27 hK27 => ?_
                  refine region_plain (fun h => by cases h) hst12 hfr12 (by kernel_rfl) (by kernel_rfl) (.cons rfl (ob_move rfl) <|
                      .cons rfl (ob_sadd rfl rfl (by first | omega | (simp only [List.length_append, List.length_cons, List.length_nil, List.length_map]; omega))) <|
                      .cons rfl (ob_assign rfl) <|
                      .nil) ?_
                  intro a13 w13 m13 hst13 hle13 hk13
                  have hfr13 := hk13.fr (T' := [(0, _), (1, _), (6, _), (3, _), (2, _)]) (.old rfl rfl <| .old rfl rfl <| .old rfl rfl <| .old rfl rfl <| .new rfl <| .nil)
                  replace h_t := h_t.mono hle13
                  replace hk_t := hk_t.mono hle13
                  replace hs_t := hs_t.mono hle13
                  replace hrw_t := hrw_t.mono hle13
                  replace hc1 := hc1.mono hle13
                  replace hcv24 := hcv24.mono hle13
                  replace hv24 := hv24.mono hle13
                  replace hkd24 := hkd24.mono hle13
                  replace hs24 := hs24.mono hle13
                  replace hrw24 := hrw24.mono hle13
                  replace hM := hM.trans hle13
                  clear hst12 hfr12 hk13
                  refine hK27 _ _ ?_; try clear hK27 K27
                  refine wp_ret ?_
                  repeat (with_reducible first | refine then_ret ?_ | refine block_ret ?_)
                  exact fn_ret hst13 hfr13 rfl (.tmp rfl <| .nil) (by rw [textT_eq t, if_neg hb7, if_neg hb9, if_neg hb11, if_neg hb17, hx0, textTs_one, if_pos hb23]; refine congrArg S ?_; unfold parS; simp_all)
                · try simp only [Bool.not_eq_true', Bool.not_eq_false', decide_eq_true_eq, decide_eq_false_iff_not, Bool.and_eq_true, Bool.or_eq_true, Bool.and_eq_false_iff, Bool.or_eq_false_iff, Bool.not_not, u8_eq] at hb47
                  refine wp_skip ?_
                  refine hK25 _ _ ?_; try clear hK25 K25
                  refine seq_any fun K29 hK29 => ?_
                  refine region_plain (fun h => by cases h) hst11 hfr11 (by kernel_rfl) (by kernel_rfl) (.cons rfl (ob_move rfl) <|
                      .cons rfl (ob_sadd rfl rfl (by first | omega | (simp only [List.length_append, List.length_cons, List.length_nil, List.length_map]; omega))) <|
                      .cons rfl (ob_assign rfl) <|
                      .nil) ?_
                  intro a12 w12 m12 hst12 hle12 hk12
                  have hfr12 := hk12.fr (T' := [(0, _), (1, _), (6, _), (3, _), (2, _)]) (.old rfl rfl <| .old rfl rfl <| .old rfl rfl <| .old rfl rfl <| .new rfl <| .nil)
                  replace h_t := h_t.mono hle12
                  replace hk_t := hk_t.mono hle12
                  replace hs_t := hs_t.mono hle12
                  replace hrw_t := hrw_t.mono hle12
                  replace hc1 := hc1.mono hle12
                  replace hcv24 := hcv24.mono hle12
                  replace hv24 := hv24.mono hle12
                  replace hkd24 := hkd24.mono hle12
                  replace hs24 := hs24.mono hle12
                  replace hrw24 := hrw24.mono hle12
                  replace hM := hM.trans hle12
                  clear hst11 hfr11 hk12
                  refine hK29 _ _ ?_; try clear hK29 K29
                  refine wp_ret ?_
                  repeat (with_reducible first | refine then_ret ?_ | refine block_ret ?_)
                  exact fn_ret hst12 hfr12 rfl (.tmp rfl <| .nil) (by rw [textT_eq t, if_neg hb7, if_neg hb9, if_neg hb11, if_neg hb17, hx0, textTs_one, if_pos hb23]; refine congrArg S ?_; unfold parS; simp_all)
            · try simp only [Bool.not_eq_true', Bool.not_eq_false', decide_eq_true_eq, decide_eq_false_iff_not, Bool.and_eq_true, Bool.or_eq_true, Bool.and_eq_false_iff, Bool.or_eq_false_iff, Bool.not_not, u8_eq] at hb23
              refine wp_skip ?_
              refine hK3 _ _ ?_; try clear hK3 K3
              refine seq_any fun K31 hK31 => ?_
              refine seq_any fun K32 hK32 => ?_
              obtain ⟨x0, z0, hx0, hrx, hrz, hro⟩ : ∃ x z, t.args = [x, z] ∧ rightT x = true ∧ rightT z = true ∧ rowOk t.labels t.rv = true := by rcases hrc with h | h | h | h | h <;> first | exact h.2 | omega
              have hk5 : t.kind = 5 := by rcases hrc with h | h | h | h | h <;> first | exact h.1 | omega
              have hl1 : t.args.length = 2 := by rw [hx0]; rfl
              have hrv0 : 0 ≤ t.rv := by unfold rowOk at hro; simp only [Bool.and_eq_true, decide_eq_true_eq] at hro; exact hro.1.1
              refine region_plain (fun h => by cases h) hst8 hfr8 (by kernel_rfl) (by kernel_rfl) (.cons rfl (ob_fieldAddr rfl Tryd.underlying27 rfl Tryd.sizeOf22 rfl) <|
                  .cons rfl (ob_load1 rfl hc1 Tryd.isAgg22 rfl) <|
                  .cons rfl (ob_len rfl Tryd.underlying22) <|
                  .cons rfl (ob_lss rfl rfl) <|
                  .nil) ?_
              intro a9 w9 m9 hst9 hle9 hk9
              have hfr9 := hk9.fr (T' := [(0, _), (2, _), (1, _), (6, _), (56, _)]) (.old rfl rfl <| .old rfl rfl <| .old rfl rfl <| .old rfl rfl <| .new rfl <| .nil)
              replace h_t := h_t.mono hle9
              replace hk_t := hk_t.mono hle9
              replace hs_t := hs_t.mono hle9
              replace hrw_t := hrw_t.mono hle9
              replace hc1 := hc1.mono hle9
              replace hM := hM.trans hle9
              clear hst8 hfr8 hk9
              refine hK32 _ _ ?_; try clear hK32 K32
              refine cond_any hfr9 rfl rfl (fun hb56 => ?_) (fun hb56 => ?_)
              · simp only [decide_eq_true_eq] at hb56; omega
              · try simp only [Bool.not_eq_true', Bool.not_eq_false', decide_eq_true_eq, decide_eq_false_iff_not, Bool.and_eq_true, Bool.or_eq_true, Bool.and_eq_false_iff, Bool.or_eq_false_iff, Bool.not_not, u8_eq] at hb56
                refine wp_skip ?_
                refine hK31 _ _ ?_; try clear hK31 K31
                refine seq_any fun K33 hK33 => ?_
                obtain ⟨p34, vs34, x34, ho34, hd34, hm_x34, ht34, hcv34, hl34, hv34⟩ := hk_t.nth (k := 0) (by omega)
                cases ho34
                obtain ⟨o34, c34, oL34, cL34, rfl, hkd34, hs34, hi34, hj34, hr34⟩ := hv34.open_
                have hbg34 := hkd34.big; have hcp34 := hkd34.cap; have hbs34 := hs34.big; have hcs34 := hs34.cap
                have hrw34 : RwR _ ⟨x34.labels, x34.rv⟩ _ := ⟨_, _, rfl, hs34, hr34⟩
                refine region_plain (fun h => by cases h) hst9 hfr9 (by kernel_rfl) (by kernel_rfl) (.cons rfl (ob_fieldAddr rfl Tryd.underlying27 rfl Tryd.sizeOf22 rfl) <|
                    .cons rfl (ob_load1 rfl hc1 Tryd.isAgg22 rfl) <|
                    .cons rfl (ob_indexAddr (k := 0) rfl rfl Tryd.underlying22 Tryd.sizeOf27 rfl (by omega)) <|
                    .cons rfl (ob_loadS' rfl hcv34 Tryd.isAgg27 Tryd.sizeOf27 rfl rfl) <|
                    .cons rfl (ob_callE rfl (.cons rfl <| .nil) Tryd.call15 (fun w m hK => by have hle_ := KC.le hK; have hA := KC.agree hK; have hM := hM.trans hle_; have h_t := h_t.mono hle_; have hk_t := hk_t.mono hle_; have hs_t := hs_t.mono hle_; have hrw_t := hrw_t.mono hle_; have hc1 := hc1.mono hle_; have hcv34 := hcv34.mono hle_; have hv34 := hv34.mono hle_; have hkd34 := hkd34.mono hle_; have hs34 := hs34.mono hle_; have hrw34 := hrw34.mono hle_; exact ih _ (by assumption) hA (by assumption) (by have h := hd34; rw [hx0] at h; simp at h; rw [← h]; exact hrx) (Nat.le_trans (hbk _ (by assumption)) hb))) <|
                    .cons rfl (ob_assign rfl) <|
                    .nil) ?_
                intro a10 w10 m10 hst10 hle10 hk10
                have hfr10 := hk10.fr (T' := [(0, _), (2, _), (1, _), (6, _), (4, _)]) (.old rfl rfl <| .old rfl rfl <| .old rfl rfl <| .old rfl rfl <| .new rfl <| .nil)
                replace h_t := h_t.mono hle10
                replace hk_t := hk_t.mono hle10
                replace hs_t := hs_t.mono hle10
                replace hrw_t := hrw_t.mono hle10
                replace hc1 := hc1.mono hle10
                replace hcv34 := hcv34.mono hle10
                replace hv34 := hv34.mono hle10
                replace hkd34 := hkd34.mono hle10
                replace hs34 := hs34.mono hle10
                replace hrw34 := hrw34.mono hle10
                replace hM := hM.trans hle10
                clear hst9 hfr9 hk10
                have e0 : x0 = x34 := by have h := hd34; rw [hx0] at h; simp at h; exact h
                have h2 := TyR.text_len x34 hv34
                have h3 := hbk _ hm_x34
                have h4 := rowTextS_len (ls := t.labels) hr_t
                refine hK33 _ _ ?_; try clear hK33 K33
                refine seq_any fun K35 hK35 => ?_
                refine seq_any fun K36 hK36 => ?_
                refine region_plain (fun h => by cases h) hst10 hfr10 (by kernel_rfl) (by kernel_rfl) (.cons rfl (ob_fieldAddr rfl Tryd.underlying27 rfl Tryd.sizeOf22 rfl) <|
                    .cons rfl (ob_load1 rfl hc1 Tryd.isAgg22 rfl) <|
                    .cons rfl (ob_indexAddr (k := 0) rfl rfl Tryd.underlying22 Tryd.sizeOf27 rfl (by omega)) <|
                    .cons rfl (ob_fieldAddr rfl Tryd.underlying27 rfl Tryd.sizeOf3 rfl) <|
                    .cons rfl (ob_load1 rfl hcv34 Tryd.isAgg3 rfl) <|
                    .cons rfl (ob_eql rfl rfl) <|
                    .nil) ?_
                intro a11 w11 m11 hst11 hle11 hk11
                have hfr11 := hk11.fr (T' := [(0, _), (2, _), (1, _), (6, _), (4, _), (67, _)]) (.old rfl rfl <| .old rfl rfl <| .old rfl rfl <| .old rfl rfl <| .old rfl rfl <| .new rfl <| .nil)
                replace h_t := h_t.mono hle11
                replace hk_t := hk_t.mono hle11
                replace hs_t := hs_t.mono hle11
                replace hrw_t := hrw_t.mono hle11
                replace hc1 := hc1.mono hle11
                replace hcv34 := hcv34.mono hle11
                replace hv34 := hv34.mono hle11
                replace hkd34 := hkd34.mono hle11
                replace hs34 := hs34.mono hle11
                replace hrw34 := hrw34.mono hle11
                replace hM := hM.trans hle11
                clear hst10 hfr10 hk11
                refine hK36 _ _ ?_; try clear hK36 K36
                refine cond_any hfr11 rfl rfl (fun hb67 => ?_) (fun hb67 => ?_)
                · try simp only [Bool.not_eq_true', Bool.not_eq_false', decide_eq_true_eq, decide_eq_false_iff_not, Bool.and_eq_true, Bool.or_eq_true, Bool.and_eq_false_iff, Bool.or_eq_false_iff, Bool.not_not, u8_eq] at hb67
                  refine region_plain (fun h => by cases h) hst11 hfr11 (by kernel_rfl) (by kernel_rfl) (.cons rfl (ob_move rfl) <|
                      .cons rfl (ob_sadd rfl rfl (by first | omega | (simp only [List.length_append, List.length_cons, List.length_nil, List.length_map]; omega))) <|
                      .cons rfl (ob_sadd rfl rfl (by first | omega | (simp only [List.length_append, List.length_cons, List.length_nil, List.length_map]; omega))) <|
                      .cons rfl (ob_assign rfl) <|
                      .nil) ?_
                  intro a12 w12 m12 hst12 hle12 hk12
                  have hfr12 := hk12.fr (T' := [(0, _), (2, _), (1, _), (6, _), (4, _)]) (.old rfl rfl <| .old rfl rfl <| .old rfl rfl <| .old rfl rfl <| .new rfl <| .nil)
                  replace h_t := h_t.mono hle12
                  replace hk_t := hk_t.mono hle12
                  replace hs_t := hs_t.mono hle12
                  replace hrw_t := hrw_t.mono hle12
                  replace hc1 := hc1.mono hle12
                  replace hcv34 := hcv34.mono hle12
                  replace hv34 := hv34.mono hle12
                  replace hkd34 := hkd34.mono hle12
                  replace hs34 := hs34.mono hle12
                  replace hrw34 := hrw34.mono hle12
                  replace hM := hM.trans hle12
                  clear hst11 hfr11 hk12
                  refine hK35 _ _ ?_; try clear hK35 K35
                  refine seq_any fun K37 hK37 => ?_
                  obtain ⟨p38, vs38, x38, ho38, hd38, hm_x38, ht38, hcv38, hl38, hv38⟩ := hk_t.nth (k := 1) (by omega)
                  cases ho38
                  obtain ⟨o38, c38, oL38, cL38, rfl, hkd38, hs38, hi38, hj38, hr38⟩ := hv38.open_
                  have hbg38 := hkd38.big; have hcp38 := hkd38.cap; have hbs38 := hs38.big; have hcs38 := hs38.cap
                  have hrw38 : RwR _ ⟨x38.labels, x38.rv⟩ _ := ⟨_, _, rfl, hs38, hr38⟩
                  refine region_plain (fun _ => mixed) hst12 hfr12 (by kernel_rfl) (by kernel_rfl) (.cons rfl (ob_move rfl) <|
                      .cons rfl (ob_sadd rfl rfl (by first | omega | (simp only [List.length_append, List.length_cons, List.length_nil, List.length_map]; omega))) <|
                      .cons rfl (ob_fieldAddr rfl Tryd.underlying27 rfl Tryd.sizeOf25 rfl) <|
                      .cons rfl (ob_loadS rfl hc1 Tryd.isAgg25 Tryd.sizeOf25 rfl rfl) <|
                      .cons rfl (ob_callE rfl (.cons rfl <| .nil) Tryd.call37 (fun w m hK => by have hle_ := KC.le hK; have hA := KC.agree hK; have hM := hM.trans hle_; have hrw_t := hrw_t.mono hle_; exact rrow_c (r := ⟨t.labels, t.rv⟩) hA hrw_t hrv0 (by show lensS t.labels ≤ _; omega))) <|
                      .cons rfl (ob_sadd rfl rfl (by first | omega | (simp only [List.length_append, List.length_cons, List.length_nil, List.length_map]; omega))) <|
                      .cons rfl (ob_fieldAddr rfl Tryd.underlying27 rfl Tryd.sizeOf22 rfl) <|
                      .cons rfl (ob_load1 rfl hc1 Tryd.isAgg22 rfl) <|
                      .cons rfl (ob_indexAddr (k := 1) rfl rfl Tryd.underlying22 Tryd.sizeOf27 rfl (by omega)) <|
                      .cons rfl (ob_loadS' rfl hcv38 Tryd.isAgg27 Tryd.sizeOf27 rfl rfl) <|
                      .cons rfl (ob_callE rfl (.cons rfl <| .nil) Tryd.call15 (fun w m hK => by have hle_ := KC.le hK; have hA := KC.agree hK; have hM := hM.trans hle_; have h_t := h_t.mono hle_; have hk_t := hk_t.mono hle_; have hs_t := hs_t.mono hle_; have hrw_t := hrw_t.mono hle_; have hc1 := hc1.mono hle_; have hcv34 := hcv34.mono hle_; have hv34 := hv34.mono hle_; have hkd34 := hkd34.mono hle_; have hs34 := hs34.mono hle_; have hrw34 := hrw34.mono hle_; have hcv38 := hcv38.mono hle_; have hv38 := hv38.mono hle_; have hkd38 := hkd38.mono hle_; have hs38 := hs38.mono hle_; have hrw38 := hrw38.mono hle_; exact ih _ (by assumption) hA hv38 (by have h := hd38; rw [hx0] at h; simp at h; rw [← h]; exact hrz) (Nat.le_trans (hbk _ (by assumption)) hb))) <|
                      .cons rfl (ob_sadd rfl rfl (by have h5 := TyR.text_len x38 hv38; have h6 := hbk _ hm_x38; simp only [List.length_append, List.length_cons, List.length_nil]; omega)) <|
                      .cons rfl (ob_assign rfl) <|
                      .nil) ?_
                  intro a13 w13 m13 hst13 hle13 hk13
                  have hfr13 := hk13.fr (T' := [(0, _), (1, _), (6, _), (4, _), (2, _)]) (.old rfl rfl <| .old rfl rfl <| .old rfl rfl <| .old rfl rfl <| .new rfl <| .nil)
                  replace h_t := h_t.mono hle13
                  replace hk_t := hk_t.mono hle13
                  replace hs_t := hs_t.mono hle13
                  replace hrw_t := hrw_t.mono hle13
                  replace hc1 := hc1.mono hle13
                  replace hcv34 := hcv34.mono hle13
                  replace hv34 := hv34.mono hle13
                  replace hkd34 := hkd34.mono hle13
                  replace hs34 := hs34.mono hle13
                  replace hrw34 := hrw34.mono hle13
                  replace hcv38 := hcv38.mono hle13
                  replace hv38 := hv38.mono hle13
                  replace hkd38 := hkd38.mono hle13
                  replace hs38 := hs38.mono hle13
                  replace hrw38 := hrw38.mono hle13
                  replace hM := hM.trans hle13
                  clear hst12 hfr12 hk13
                  have e1_ : z0 = x38 := by have h := hd38; rw [hx0] at h; simp at h; exact h
                  refine hK37 _ _ ?_; try clear hK37 K37
                  refine wp_ret ?_
                  repeat (with_reducible first | refine then_ret ?_ | refine block_ret ?_)
                  exact fn_ret hst13 hfr13 rfl (.tmp rfl <| .nil) (by rw [textT_eq t, if_neg hb7, if_neg hb9, if_neg hb11, if_neg hb17, hx0, textTs_two, if_pos hk5, e0, e1_]; refine congrArg S ?_; unfold parS; simp_all)
                · try simp only [Bool.not_eq_true', Bool.not_eq_false', decide_eq_true_eq, decide_eq_false_iff_not, Bool.and_eq_true, Bool.or_eq_true, Bool.and_eq_false_iff, Bool.or_eq_false_iff, Bool.not_not, u8_eq] at hb67
                  refine wp_skip ?_
                  refine hK35 _ _ ?_; try clear hK35 K35
                  refine seq_any fun K40 hK40 => ?_
                  obtain ⟨p41, vs41, x41, ho41, hd41, hm_x41, ht41, hcv41, hl41, hv41⟩ := hk_t.nth (k := 1) (by omega)
                  cases ho41
                  obtain ⟨o41, c41, oL41, cL41, rfl, hkd41, hs41, hi41, hj41, hr41⟩ := hv41.open_
                  have hbg41 := hkd41.big; have hcp41 := hkd41.cap; have hbs41 := hs41.big; have hcs41 := hs41.cap
                  have hrw41 : RwR _ ⟨x41.labels, x41.rv⟩ _ := ⟨_, _, rfl, hs41, hr41⟩
                  refine region_plain (fun _ => mixed) hst11 hfr11 (by kernel_rfl) (by kernel_rfl) (.cons rfl (ob_move rfl) <|
                      .cons rfl (ob_sadd rfl rfl (by first | omega | (simp only [List.length_append, List.length_cons, List.length_nil, List.length_map]; omega))) <|
                      .cons rfl (ob_fieldAddr rfl Tryd.underlying27 rfl Tryd.sizeOf25 rfl) <|
                      .cons rfl (ob_loadS rfl hc1 Tryd.isAgg25 Tryd.sizeOf25 rfl rfl) <|
                      .cons rfl (ob_callE rfl (.cons rfl <| .nil) Tryd.call37 (fun w m hK => by have hle_ := KC.le hK; have hA := KC.agree hK; have hM := hM.trans hle_; have hrw_t := hrw_t.mono hle_; exact rrow_c (r := ⟨t.labels, t.rv⟩) hA hrw_t hrv0 (by show lensS t.labels ≤ _; omega))) <|
                      .cons rfl (ob_sadd rfl rfl (by first | omega | (simp only [List.length_append, List.length_cons, List.length_nil, List.length_map]; omega))) <|
                      .cons rfl (ob_fieldAddr rfl Tryd.underlying27 rfl Tryd.sizeOf22 rfl) <|
                      .cons rfl (ob_load1 rfl hc1 Tryd.isAgg22 rfl) <|
                      .cons rfl (ob_indexAddr (k := 1) rfl rfl Tryd.underlying22 Tryd.sizeOf27 rfl (by omega)) <|
                      .cons rfl (ob_loadS' rfl hcv41 Tryd.isAgg27 Tryd.sizeOf27 rfl rfl) <|
                      .cons rfl (ob_callE rfl (.cons rfl <| .nil) Tryd.call15 (fun w m hK => by have hle_ := KC.le hK; have hA := KC.agree hK; have hM := hM.trans hle_; have h_t := h_t.mono hle_; have hk_t := hk_t.mono hle_; have hs_t := hs_t.mono hle_; have hrw_t := hrw_t.mono hle_; have hc1 := hc1.mono hle_; have hcv34 := hcv34.mono hle_; have hv34 := hv34.mono hle_; have hkd34 := hkd34.mono hle_; have hs34 := hs34.mono hle_; have hrw34 := hrw34.mono hle_; have hcv41 := hcv41.mono hle_; have hv41 := hv41.mono hle_; have hkd41 := hkd41.mono hle_; have hs41 := hs41.mono hle_; have hrw41 := hrw41.mono hle_; exact ih _ (by assumption) hA hv41 (by have h := hd41; rw [hx0] at h; simp at h; rw [← h]; exact hrz) (Nat.le_trans (hbk _ (by assumption)) hb))) <|
                      .cons rfl (ob_sadd rfl rfl (by have h5 := TyR.text_len x41 hv41; have h6 := hbk _ hm_x41; simp only [List.length_append, List.length_cons, List.length_nil]; omega)) <|
                      .cons rfl (ob_assign rfl) <|
                      .nil) ?_
                  intro a12 w12 m12 hst12 hle12 hk12
                  have hfr12 := hk12.fr (T' := [(0, _), (1, _), (6, _), (4, _), (2, _)]) (.old rfl rfl <| .old rfl rfl <| .old rfl rfl <| .old rfl rfl <| .new rfl <| .nil)
                  replace h_t := h_t.mono hle12
                  replace hk_t := hk_t.mono hle12
                  replace hs_t := hs_t.mono hle12
                  replace hrw_t := hrw_t.mono hle12
                  replace hc1 := hc1.mono hle12
                  replace hcv34 := hcv34.mono hle12
                  replace hv34 := hv34.mono hle12
                  replace hkd34 := hkd34.mono hle12
                  replace hs34 := hs34.mono hle12
                  replace hrw34 := hrw34.mono hle12
                  replace hcv41 := hcv41.mono hle12
                  replace hv41 := hv41.mono hle12
                  replace hkd41 := hkd41.mono hle12
                  replace hs41 := hs41.mono hle12
                  replace hrw41 := hrw41.mono hle12
                  replace hM := hM.trans hle12
                  clear hst11 hfr11 hk12
                  have e1_ : z0 = x41 := by have h := hd41; rw [hx0] at h; simp at h; exact h
                  refine hK40 _ _ ?_; try clear hK40 K40
                  refine wp_ret ?_
                  repeat (with_reducible first | refine then_ret ?_ | refine block_ret ?_)
                  exact fn_ret hst12 hfr12 rfl (.tmp rfl <| .nil) (by rw [textT_eq t, if_neg hb7, if_neg hb9, if_neg hb11, if_neg hb17, hx0, textTs_two, if_pos hk5, e0, e1_]; refine congrArg S ?_; unfold parS; simp_all)
theorem rtext_c (t : Ty) : rtext_G t := Ty.rec_ (p := rtext_G) (fun t ih => rtext_s ih) t

end Go.Proofs.YtembdjghbphcdaaDoor
