/-
  The document's answers on values. Conditions: those of each theorem.
-/
import Derived.Test.YtineijefefjpeaaDoorTexts
namespace Go.Proofs.YtineijefefjpeaaDoor
set_option linter.all false
open Go.RowKit
open Go.Lib (itoa formatBool decDigits)
mutual
def depthV (left : Nat) : VT → Nat
  | ⟨_, _, _, ks⟩ => if left ≤ 1 then left else depthL (left - 1) ks + 1
def depthL (left : Nat) : List VT → Nat
  | [] => 0
  | t :: ts => max (depthV left t) (depthL left ts)
end
theorem depthV_eq (left : Nat) (t : VT) : depthV left t = if left ≤ 1 then left else depthL (left - 1) t.kids + 1 := by obtain ⟨k, n, s, ks⟩ := t; rw [depthV]; rfl
theorem depthL_snoc (left : Nat) : ∀ (l : List VT) (x : VT), depthL left (l ++ [x]) = max (depthL left l) (depthV left x)
  | [], x => by simp [depthL]
  | t :: ts, x => by simp only [List.cons_append, depthL, depthL_snoc left ts x]; omega
theorem depthV_le (left : Nat) (t : VT) : depthV left t ≤ left := by
  induction t using VT.rec_ generalizing left with
  | h t ih =>
    rw [depthV_eq]
    split
    · omega
    · have key : ∀ l : List VT, (∀ u ∈ l, u ∈ t.kids) → depthL (left - 1) l ≤ left - 1 := by
        intro l
        induction l with
        | nil => intro _; simp [depthL]
        | cons x xs ihx => intro hl; simp only [depthL]; have := ih x (hl x (.head _)) (left - 1); have := ihx fun u hu => hl u (.tail _ hu); omega
      have := key t.kids fun u hu => hu
      omega
theorem depthL_le (left : Nat) (l : List VT) : depthL left l ≤ left := by
  induction l with
  | nil => simp [depthL]
  | cons x xs ih => simp only [depthL]; have := depthV_le left x; omega
def shapeB (all : Bool) (k n : Int) (s : Str) (len : Nat) (ko : Bool) : Bool :=
  if k = 4 then decide (s ≠ []) && decide (n = 0) && ko
  else decide (s = []) && decide (len = 0) && (decide (k = 1) || decide (k = 2 ∧ (n = 0 ∨ n = 1)) || decide (k = 3 ∧ n = 0) || all && decide (k = 5 ∧ 0 ≤ n ∨ k = 6 ∧ n = 0))
mutual
def shapeV (all : Bool) : VT → Bool
  | ⟨k, n, s, ks⟩ => shapeB all k n s ks.length (shapeL all ks)
def shapeL (all : Bool) : List VT → Bool
  | [] => true
  | t :: ts => shapeV all t && shapeL all ts
end
theorem shapeV_eq (all : Bool) (t : VT) : shapeV all t = shapeB all t.kind t.n t.name t.kids.length (shapeL all t.kids) := by obtain ⟨k, n, s, ks⟩ := t; rw [shapeV]; rfl
def pre (l : List VT) : Str := if l = [] then [] else 40 :: Go.Lib.join (l.map textV) [44, 32]
theorem pre_snoc (l : List VT) (x : VT) : pre (l ++ [x]) = pre l ++ (if l = [] then [40] else [44, 32]) ++ textV x := by
  unfold pre
  by_cases h : l = []
  · subst h; simp [Go.Lib.join]
  · simp only [h, if_false, List.append_eq_nil_iff, List.cons_ne_nil, and_self]
    rw [List.map_append, List.map_cons, List.map_nil, join_snoc _ _ (by simpa using h)]; simp
theorem bulkL_snoc : ∀ (l : List VT) (x : VT), bulkL (l ++ [x]) = bulkL l + bulkV x
  | [], x => by simp [bulkL]
  | t :: ts, x => by simp only [List.cons_append, bulkL, bulkL_snoc ts x]; omega
theorem bulkL_take (l : List VT) (k : Nat) : bulkL (l.take k) ≤ bulkL l := by
  induction l generalizing k with
  | nil => simp [bulkL]
  | cons x xs ih =>
    cases k with
    | zero => simp [bulkL]
    | succ k => simp only [List.take_succ_cons, bulkL]; have := ih k; omega
theorem itoa_neg {n : Int} (h : n ≤ -10) : itoa n = itoa (n.tdiv 10) ++ [UInt8.ofNat (48 + n.natAbs % 10)] := by
  have e : (n.tdiv 10).natAbs = n.natAbs / 10 := by rw [Int.natAbs_tdiv]; rfl
  have h2 : n.tdiv 10 < 0 := by
    have : n.natAbs / 10 ≥ 1 := by omega
    rcases Int.lt_or_le (n.tdiv 10) 0 with h | h
    · exact h
    · have h3 : 0 ≤ (-n).tdiv 10 := Int.tdiv_nonneg (by omega) (by omega)
      rw [Int.neg_tdiv] at h3
      omega
  unfold itoa
  rw [if_pos (by omega), if_pos h2, e, dec_eq n.natAbs, if_neg (by omega)]; rfl
theorem rem_neg {n : Int} (h : n < 0) : UInt8.ofNat (IntKind.u8.wrap (48 - n.tmod 10)).toNat = UInt8.ofNat (48 + n.natAbs % 10) := by
  have e : n.tmod 10 = -((n.natAbs % 10 : Nat) : Int) := by
    have h1 : n = -(n.natAbs : Int) := by omega
    rw [h1, Int.neg_tmod]
    simp only [Int.natAbs_neg, Int.natAbs_natCast]; rfl
  rw [e, Int.sub_neg]
  exact digit_byte (by omega)
theorem tmod_neg {n : Int} (h : n < 0) : n.tmod 10 = -((n.natAbs % 10 : Nat) : Int) := by
  obtain ⟨k, rfl⟩ : ∃ k : Nat, n = -(k : Int) := ⟨n.natAbs, by omega⟩
  rw [Int.neg_tmod]; simp only [Int.natAbs_neg, Int.natAbs_natCast]; rfl
theorem tdiv_neg {n : Int} (h : n < 0) : n.tdiv 10 = -((n.natAbs / 10 : Nat) : Int) := by
  obtain ⟨k, rfl⟩ : ∃ k : Nat, n = -(k : Int) := ⟨n.natAbs, by omega⟩
  rw [Int.neg_tdiv]; simp only [Int.natAbs_neg, Int.natAbs_natCast]; rfl
def isIn (c : UInt8) (l : Str) : Bool := l.contains c
def digs : Str := [48, 49, 50, 51, 52, 53, 54, 55, 56, 57]
def bigs : Str := [65, 66, 67, 68, 69, 70, 71, 72, 73, 74, 75, 76, 77, 78, 79, 80, 81, 82, 83, 84, 85, 86, 87, 88, 89, 90]
def smalls : Str := [97, 98, 99, 100, 101, 102, 103, 104, 105, 106, 107, 108, 109, 110, 111, 112, 113, 114, 115, 116, 117, 118, 119, 120, 121, 122, 95]
def okB (b : UInt8) : Bool := digs.contains b || bigs.contains b || smalls.contains b
def nameS : Str → Bool
  | [] => false
  | b :: r => !digs.contains b && (b :: r).all okB
def largeS : Str → Bool
  | [] => false
  | b :: r => nameS (b :: r) && bigs.contains b && decide ((b :: r).length ≤ 60)
mutual
def namedV : VT → Bool
  | ⟨k, _, s, ks⟩ => !(decide (k = 4) && !largeS s) && namedL ks
def namedL : List VT → Bool
  | [] => true
  | t :: ts => namedV t && namedL ts
end
theorem namedV_eq (t : VT) : namedV t = (!(decide (t.kind = 4) && !largeS t.name) && namedL t.kids) := by obtain ⟨k, n, s, ks⟩ := t; rw [namedV]; rfl
mutual
def deepV : VT → Nat
  | ⟨_, _, _, ks⟩ => deepL ks + 1
def deepL : List VT → Nat
  | [] => 0
  | t :: ts => max (deepV t) (deepL ts)
end
theorem deepV_eq (t : VT) : deepV t = deepL t.kids + 1 := by obtain ⟨k, n, s, ks⟩ := t; rw [deepV]; rfl
theorem deepL_snoc : ∀ (l : List VT) (x : VT), deepL (l ++ [x]) = max (deepL l) (deepV x)
  | [], x => by simp [deepL]
  | t :: ts, x => by simp only [List.cons_append, deepL, deepL_snoc ts x]; omega
theorem deepL_mem : ∀ {l : List VT} {x : VT}, x ∈ l → deepV x ≤ deepL l
  | t :: ts, x, h => by
    rw [deepL]
    rcases List.mem_cons.1 h with rfl | h
    · omega
    · have := deepL_mem h; omega
theorem deep_bulk (t : VT) : deepV t ≤ bulkV t := by
  induction t using VT.rec_ with
  | h t ih =>
    have key : ∀ l : List VT, (∀ u ∈ l, u ∈ t.kids) → deepL l ≤ bulkL l := by
      intro l
      induction l with
      | nil => intro _; simp [deepL]
      | cons x xs ihx => intro hl; simp only [deepL, bulkL]; have := ih x (hl x (.head _)); have := ihx fun u hu => hl u (.tail _ hu); omega
    have := key t.kids fun u hu => hu
    rw [deepV_eq, bulkV_eq]; omega
def magI (n : Int) : Int := if n < 0 then IntKind.u64.wrap (0 - IntKind.u64.wrap n) else IntKind.u64.wrap n
abbrev num_G (n : Nat) : Prop := ∀ {w : World} {m : Mem}  (hA : Agree w m) (hn : n ≤ 9223372036854775807), FnV Tryd.prog 56 #[.int .i64 (n : Int)] w m (fun _ _ v => v = S (decDigits n))
set_option maxHeartbeats 400000 in
theorem num_s {n : Nat} (ih : ∀ k, k < n → num_G k) {w : World} {m : Mem}  (hA : Agree w m) (hn : n ≤ 9223372036854775807) : FnV Tryd.prog 56 #[.int .i64 (n : Int)] w m (fun _ _ v => v = S (decDigits n)) := by
  refine fn_enter (vs := [_]) Tryd.func56 rfl rfl rfl fun a0 hfr0 => ?_
  have hst0 := st_enter hA (loc_nil [] _ w m)
  have hM : MLe m m := MLe.refl m
  have htd : (n : Int).tdiv 10 = ((n / 10 : Nat) : Int) := rfl
  have htm : (n : Int).tmod 10 = ((n % 10 : Nat) : Int) := rfl
  have hl := dec_len20 (n := n / 10) (by omega)
  have hd := @digit_byte (n % 10) (by omega)
  have hq := dec_eq n
  refine seq_any fun K1 hK1 => ?_
  refine region_plain (fun h => by cases h) hst0 hfr0 (by kernel_rfl) (by kernel_rfl) (.cons rfl (ob_assign rfl) <|
      .nil) ?_
  intro a1 w1 m1 hst1 hle1 hk1
  have hfr1 := hk1.fr (T' := [(0, _), (2, _)]) (.old rfl rfl <| .new rfl <| .nil)
  replace hM := hM.trans hle1
  clear hst0 hfr0 hk1
  refine hK1 _ _ ?_; try clear hK1 K1
  refine seq_any fun K2 hK2 => ?_
  refine seq_any fun K3 hK3 => ?_
  refine region_plain (fun h => by cases h) hst1 hfr1 (by kernel_rfl) (by kernel_rfl) (.cons rfl (ob_move rfl) <|
      .cons rfl (ob_lss rfl rfl) <|
      .nil) ?_
  intro a2 w2 m2 hst2 hle2 hk2
  have hfr2 := hk2.fr (T' := [(0, _), (2, _), (4, _)]) (.old rfl rfl <| .old rfl rfl <| .new rfl <| .nil)
  replace hM := hM.trans hle2
  clear hst1 hfr1 hk2
  refine hK3 _ _ ?_; try clear hK3 K3
  refine cond_any hfr2 rfl rfl (fun hb4 => ?_) (fun hb4 => ?_)
  · try simp only [Bool.not_eq_true', Bool.not_eq_false', decide_eq_true_eq, decide_eq_false_iff_not, Bool.and_eq_true, Bool.or_eq_true, Bool.and_eq_false_iff, Bool.or_eq_false_iff, Bool.not_not, u8_eq] at hb4
    refine seq_any fun K4 hK4 => ?_
    refine region_plain (fun h => by cases h) hst2 hfr2 (by kernel_rfl) (by kernel_rfl) (.cons rfl (ob_move rfl) <|
        .cons rfl (ob_add rfl rfl ⟨by omega, by omega⟩) <|
        .cons rfl (ob_conv_int rfl Tryd.underlying3 Tryd.underlying5) <|
        .cons rfl (ob_buildSlice (.cons rfl <| .nil) Tryd.underlying60 Tryd.sizeOf5 Tryd.zeroValue5 rfl rfl rfl rfl) <|
        .cons rfl (ob_imgE 8 rfl rfl rfl fun y8 => ob_conv_bs (ns := [_]) rfl Tryd.underlying60 Tryd.underlying5 Tryd.underlying9 (fun w m hK => hK.2)) <|
        .cons rfl (ob_assign rfl) <|
        .nil) ?_
    intro a3 w3 m3 hst3 hle3 hk3
    have hfr3 := hk3.fr (T' := [(0, _), (2, _)]) (.old rfl rfl <| .new rfl <| .nil)
    replace hM := hM.trans hle3
    clear hst2 hfr2 hk3
    refine hK4 _ _ ?_; try clear hK4 K4
    refine wp_ret ?_
    repeat (with_reducible first | refine then_ret ?_ | refine block_ret ?_)
    exact fn_ret hst3 hfr3 rfl (.tmp rfl <| .nil) (by refine congrArg S ?_; rw [hq, if_pos (by omega)]; exact congrArg (fun b => [b]) (digit_byte (by omega)))
  · try simp only [Bool.not_eq_true', Bool.not_eq_false', decide_eq_true_eq, decide_eq_false_iff_not, Bool.and_eq_true, Bool.or_eq_true, Bool.and_eq_false_iff, Bool.or_eq_false_iff, Bool.not_not, u8_eq] at hb4
    refine wp_skip ?_
    refine hK2 _ _ ?_; try clear hK2 K2
    refine seq_any fun K6 hK6 => ?_
    refine region_plain (fun _ => mixed) hst2 hfr2 (by kernel_rfl) (by kernel_rfl) (.cons rfl (ob_move rfl) <|
        .cons rfl (ob_quo rfl rfl (by omega) ⟨by omega, by omega⟩) <|
        .cons rfl (ob_callE rfl (.cons rfl <| .nil) Tryd.call56 (fun w m hK => by have hle_ := KC.le hK; have hA := KC.agree hK; have hM := hM.trans hle_; exact ih (n / 10) (by omega) hA (by omega))) <|
        .cons rfl (ob_move rfl) <|
        .cons rfl (ob_rem rfl rfl (by omega)) <|
        .cons rfl (ob_add rfl rfl ⟨by omega, by omega⟩) <|
        .cons rfl (ob_conv_int rfl Tryd.underlying3 Tryd.underlying5) <|
        .cons rfl (ob_buildSlice (.cons rfl <| .nil) Tryd.underlying60 Tryd.sizeOf5 Tryd.zeroValue5 rfl rfl rfl rfl) <|
        .cons rfl (ob_imgE 17 rfl rfl rfl fun y17 => ob_conv_bs (ns := [_]) rfl Tryd.underlying60 Tryd.underlying5 Tryd.underlying9 (fun w m hK => hK.2)) <|
        .cons rfl (ob_sadd rfl rfl (by first | omega | (simp only [List.length_append, List.length_cons, List.length_nil, List.length_map]; omega))) <|
        .cons rfl (ob_assign rfl) <|
        .nil) ?_
    intro a3 w3 m3 hst3 hle3 hk3
    have hfr3 := hk3.fr (T' := [(0, _), (2, _)]) (.old rfl rfl <| .new rfl <| .nil)
    replace hM := hM.trans hle3
    clear hst2 hfr2 hk3
    refine hK6 _ _ ?_; try clear hK6 K6
    refine wp_ret ?_
    repeat (with_reducible first | refine then_ret ?_ | refine block_ret ?_)
    exact fn_ret hst3 hfr3 rfl (.tmp rfl <| .nil) (by refine congrArg S ?_; rw [hq, if_neg (by omega)]; exact congrArg (fun b => decDigits (n / 10) ++ [b]) hd)
theorem num_c (n : Nat) : num_G n := num_s fun k _ => num_c k
termination_by n
decreasing_by assumption

abbrev digits_G (n : Int) : Prop := ∀ {w : World} {m : Mem}  (hA : Agree w m) (hn : InI64 n), FnV Tryd.prog 45 #[.int .i64 n] w m (fun _ _ v => v = S (itoa n))
set_option maxHeartbeats 400000 in
theorem digits_s {n : Int} (ih : ∀ k : Int, k.natAbs < n.natAbs → digits_G k) {w : World} {m : Mem}  (hA : Agree w m) (hn : InI64 n) : FnV Tryd.prog 45 #[.int .i64 n] w m (fun _ _ v => v = S (itoa n)) := by
  refine fn_enter (vs := [_]) Tryd.func45 rfl rfl rfl fun a0 hfr0 => ?_
  have hst0 := st_enter hA (loc_nil [] _ w m)
  have hM : MLe m m := MLe.refl m
  obtain ⟨hn1, hn2⟩ := hn
  refine seq_any fun K1 hK1 => ?_
  refine region_plain (fun h => by cases h) hst0 hfr0 (by kernel_rfl) (by kernel_rfl) (.cons rfl (ob_assign rfl) <|
      .nil) ?_
  intro a1 w1 m1 hst1 hle1 hk1
  have hfr1 := hk1.fr (T' := [(0, _), (2, _)]) (.old rfl rfl <| .new rfl <| .nil)
  replace hM := hM.trans hle1
  clear hst0 hfr0 hk1
  refine hK1 _ _ ?_; try clear hK1 K1
  refine seq_any fun K2 hK2 => ?_
  refine seq_any fun K3 hK3 => ?_
  refine region_plain (fun h => by cases h) hst1 hfr1 (by kernel_rfl) (by kernel_rfl) (.cons rfl (ob_move rfl) <|
      .cons rfl (ob_geq rfl rfl) <|
      .nil) ?_
  intro a2 w2 m2 hst2 hle2 hk2
  have hfr2 := hk2.fr (T' := [(0, _), (2, _), (5, _)]) (.old rfl rfl <| .old rfl rfl <| .new rfl <| .nil)
  replace hM := hM.trans hle2
  clear hst1 hfr1 hk2
  refine hK3 _ _ ?_; try clear hK3 K3
  refine cond_any hfr2 rfl rfl (fun hb5 => ?_) (fun hb5 => ?_)
  · try simp only [Bool.not_eq_true', Bool.not_eq_false', decide_eq_true_eq, decide_eq_false_iff_not, Bool.and_eq_true, Bool.or_eq_true, Bool.and_eq_false_iff, Bool.or_eq_false_iff, Bool.not_not, u8_eq] at hb5
    refine seq_any fun K4 hK4 => ?_
    obtain ⟨k, rfl⟩ : ∃ k : Nat, n = (k : Int) := ⟨n.toNat, by omega⟩
    refine region_plain (fun h => by cases h) hst2 hfr2 (by kernel_rfl) (by kernel_rfl) (.cons rfl (ob_move rfl) <|
        .cons rfl (ob_callE rfl (.cons rfl <| .nil) Tryd.call56 (fun w m hK => by have hle_ := KC.le hK; have hA := KC.agree hK; have hM := hM.trans hle_; exact num_c k hA (by omega))) <|
        .cons rfl (ob_assign rfl) <|
        .nil) ?_
    intro a3 w3 m3 hst3 hle3 hk3
    have hfr3 := hk3.fr (T' := [(0, _), (2, _)]) (.old rfl rfl <| .new rfl <| .nil)
    replace hM := hM.trans hle3
    clear hst2 hfr2 hk3
    refine hK4 _ _ ?_; try clear hK4 K4
    refine wp_ret ?_
    repeat (with_reducible first | refine then_ret ?_ | refine block_ret ?_)
    exact fn_ret hst3 hfr3 rfl (.tmp rfl <| .nil) (by refine congrArg S ?_; unfold itoa; rw [if_neg (by omega)]; try rfl)
  · try simp only [Bool.not_eq_true', Bool.not_eq_false', decide_eq_true_eq, decide_eq_false_iff_not, Bool.and_eq_true, Bool.or_eq_true, Bool.and_eq_false_iff, Bool.or_eq_false_iff, Bool.not_not, u8_eq] at hb5
    refine wp_skip ?_
    refine hK2 _ _ ?_; try clear hK2 K2
    refine seq_any fun K6 hK6 => ?_
    have hr := @rem_neg n (by omega)
    have hm1 := @tmod_neg n (by omega)
    have hd1 := @tdiv_neg n (by omega)
    refine region_plain (fun h => by cases h) hst2 hfr2 (by kernel_rfl) (by kernel_rfl) (.cons rfl (ob_move rfl) <|
        .cons rfl (ob_rem rfl rfl (by omega)) <|
        .cons rfl (ob_sub rfl rfl ⟨by omega, by omega⟩) <|
        .cons rfl (ob_conv_int rfl Tryd.underlying3 Tryd.underlying5) <|
        .cons rfl (ob_buildSlice (.cons rfl <| .nil) Tryd.underlying60 Tryd.sizeOf5 Tryd.zeroValue5 rfl rfl rfl rfl) <|
        .cons rfl (ob_imgE 12 rfl rfl rfl fun y12 => ob_conv_bs (ns := [_]) rfl Tryd.underlying60 Tryd.underlying5 Tryd.underlying9 (fun w m hK => hK.2)) <|
        .cons rfl (ob_assign rfl) <|
        .nil) ?_
    intro a3 w3 m3 hst3 hle3 hk3
    have hfr3 := hk3.fr (T' := [(0, _), (2, _), (3, _)]) (.old rfl rfl <| .old rfl rfl <| .new rfl <| .nil)
    replace hM := hM.trans hle3
    clear hst2 hfr2 hk3
    refine hK6 _ _ ?_; try clear hK6 K6
    refine seq_any fun K7 hK7 => ?_
    refine seq_any fun K8 hK8 => ?_
    refine region_plain (fun h => by cases h) hst3 hfr3 (by kernel_rfl) (by kernel_rfl) (.cons rfl (ob_move rfl) <|
        .cons rfl (ob_gtr rfl rfl) <|
        .nil) ?_
    intro a4 w4 m4 hst4 hle4 hk4
    have hfr4 := hk4.fr (T' := [(0, _), (2, _), (3, _), (15, _)]) (.old rfl rfl <| .old rfl rfl <| .old rfl rfl <| .new rfl <| .nil)
    replace hM := hM.trans hle4
    clear hst3 hfr3 hk4
    refine hK8 _ _ ?_; try clear hK8 K8
    refine cond_any hfr4 rfl rfl (fun hb15 => ?_) (fun hb15 => ?_)
    · try simp only [Bool.not_eq_true', Bool.not_eq_false', decide_eq_true_eq, decide_eq_false_iff_not, Bool.and_eq_true, Bool.or_eq_true, Bool.and_eq_false_iff, Bool.or_eq_false_iff, Bool.not_not, u8_eq] at hb15
      refine seq_any fun K9 hK9 => ?_
      refine region_plain (fun h => by cases h) hst4 hfr4 (by kernel_rfl) (by kernel_rfl) (.cons rfl (ob_move rfl) <|
          .cons rfl (ob_sadd rfl rfl (by first | omega | (simp only [List.length_append, List.length_cons, List.length_nil, List.length_map]; omega))) <|
          .cons rfl (ob_assign rfl) <|
          .nil) ?_
      intro a5 w5 m5 hst5 hle5 hk5
      have hfr5 := hk5.fr (T' := [(0, _), (3, _), (2, _)]) (.old rfl rfl <| .old rfl rfl <| .new rfl <| .nil)
      replace hM := hM.trans hle5
      clear hst4 hfr4 hk5
      refine hK9 _ _ ?_; try clear hK9 K9
      refine wp_ret ?_
      repeat (with_reducible first | refine then_ret ?_ | refine block_ret ?_)
      exact fn_ret hst5 hfr5 rfl (.tmp rfl <| .nil) (by refine congrArg S ?_; unfold itoa; rw [if_pos (by omega), dec_eq, if_pos (by omega)]; rw [Nat.mod_eq_of_lt (by omega)] at hr; exact congrArg (fun b => [45, b]) hr)
    · try simp only [Bool.not_eq_true', Bool.not_eq_false', decide_eq_true_eq, decide_eq_false_iff_not, Bool.and_eq_true, Bool.or_eq_true, Bool.and_eq_false_iff, Bool.or_eq_false_iff, Bool.not_not, u8_eq] at hb15
      refine wp_skip ?_
      refine hK7 _ _ ?_; try clear hK7 K7
      refine seq_any fun K11 hK11 => ?_
      have hq := @itoa_neg n (by omega)
      have hab : (n.tdiv 10).natAbs = n.natAbs / 10 := by rw [Int.natAbs_tdiv]; rfl
      have hin : InI64 (n.tdiv 10) := ⟨by omega, by omega⟩
      have hil := itoa_len hin
      refine region_plain (fun h => by cases h) hst4 hfr4 (by kernel_rfl) (by kernel_rfl) (.cons rfl (ob_move rfl) <|
          .cons rfl (ob_quo rfl rfl (by omega) ⟨by omega, by omega⟩) <|
          .cons rfl (ob_callE rfl (.cons rfl <| .nil) Tryd.call45 (fun w m hK => by have hle_ := KC.le hK; have hA := KC.agree hK; have hM := hM.trans hle_; exact ih (n.tdiv 10) (by omega) hA hin)) <|
          .cons rfl (ob_move rfl) <|
          .cons rfl (ob_sadd rfl rfl (by simp only [List.map_cons, List.map_nil, List.length_cons, List.length_nil]; omega)) <|
          .cons rfl (ob_assign rfl) <|
          .nil) ?_
      intro a5 w5 m5 hst5 hle5 hk5
      have hfr5 := hk5.fr (T' := [(0, _), (3, _), (2, _)]) (.old rfl rfl <| .old rfl rfl <| .new rfl <| .nil)
      replace hM := hM.trans hle5
      clear hst4 hfr4 hk5
      refine hK11 _ _ ?_; try clear hK11 K11
      refine wp_ret ?_
      repeat (with_reducible first | refine then_ret ?_ | refine block_ret ?_)
      exact fn_ret hst5 hfr5 rfl (.tmp rfl <| .nil) (by refine congrArg S ?_; rw [hq]; exact congrArg (fun b => itoa (n.tdiv 10) ++ [b]) hr)
theorem digits_c (n : Int) : digits_G n := digits_s fun k _ => digits_c k
termination_by n.natAbs
decreasing_by assumption

abbrev depth_G (t : VT) : Prop := ∀ {w : World} {m : Mem} {vs_t : List Value} {left : Nat} (hA : Agree w m) (h_t : VR m t vs_t) (hl : left ≤ 1001), FnV Tryd.prog 29 #[.agg vs_t.toArray, .int .i64 (left : Int)] w m (fun _ _ v => v = .int .i64 (depthV left t : Int))
set_option maxHeartbeats 400000 in
theorem depth_s {t : VT} (ih : ∀ u ∈ t.kids, depth_G u) {w : World} {m : Mem} {vs_t : List Value} {left : Nat} (hA : Agree w m) (h_t : VR m t vs_t) (hl : left ≤ 1001) : FnV Tryd.prog 29 #[.agg vs_t.toArray, .int .i64 (left : Int)] w m (fun _ _ v => v = .int .i64 (depthV left t : Int)) := by
  obtain ⟨o_t, c_t, rfl, hk_t, hi_t, hj_t⟩ := h_t.open_
  have hbg_t := hk_t.big; have hcp_t := hk_t.cap
  refine fn_enter (vs := [_, _]) Tryd.func29 rfl rfl rfl fun a0 hfr0 => ?_
  have hst0 := st_enter hA (loc_nil [] _ w m)
  have hM : MLe m m := MLe.refl m
  refine seq_any fun K1 hK1 => ?_
  refine region_plain (fun h => by cases h) hst0 hfr0 (by kernel_rfl) (by kernel_rfl) (.cons rfl (ob_box rfl rfl) <|
      .cons rfl (ob_assign rfl) <|
      .nil) ?_
  intro a1 w1 m1 hst1 hle1 hk1
  have hfr1 := hk1.fr (T' := [(0, _), (1, _), (4, _)]) (.old rfl rfl <| .old rfl rfl <| .new rfl <| .nil)
  obtain ⟨g2, e2, hc2⟩ := hk1.ex 2 rfl
  replace hfr1 := hfr1.cons e2
  replace h_t := h_t.mono hle1
  replace hk_t := hk_t.mono hle1
  replace hM := hM.trans hle1
  clear hst0 hfr0 hk1
  refine hK1 _ _ ?_; try clear hK1 K1
  refine seq_any fun K3 hK3 => ?_
  refine seq_any fun K4 hK4 => ?_
  refine region_plain (fun h => by cases h) hst1 hfr1 (by kernel_rfl) (by kernel_rfl) (.cons rfl (ob_move rfl) <|
      .cons rfl (ob_leq rfl rfl) <|
      .nil) ?_
  intro a2 w2 m2 hst2 hle2 hk2
  have hfr2 := hk2.fr (T' := [(0, _), (1, _), (4, _), (2, _), (9, _)]) (.old rfl rfl <| .old rfl rfl <| .old rfl rfl <| .old rfl rfl <| .new rfl <| .nil)
  replace h_t := h_t.mono hle2
  replace hk_t := hk_t.mono hle2
  replace hc2 := hc2.mono hle2
  replace hM := hM.trans hle2
  clear hst1 hfr1 hk2
  refine hK4 _ _ ?_; try clear hK4 K4
  refine cond_any hfr2 rfl rfl (fun hb9 => ?_) (fun hb9 => ?_)
  · try simp only [Bool.not_eq_true', Bool.not_eq_false', decide_eq_true_eq, decide_eq_false_iff_not, Bool.and_eq_true, Bool.or_eq_true, Bool.and_eq_false_iff, Bool.or_eq_false_iff, Bool.not_not, u8_eq] at hb9
    refine seq_any fun K5 hK5 => ?_
    refine region_plain (fun h => by cases h) hst2 hfr2 (by kernel_rfl) (by kernel_rfl) (.cons rfl (ob_move rfl) <|
        .cons rfl (ob_assign rfl) <|
        .nil) ?_
    intro a3 w3 m3 hst3 hle3 hk3
    have hfr3 := hk3.fr (T' := [(0, _), (1, _), (2, _), (4, _)]) (.old rfl rfl <| .old rfl rfl <| .old rfl rfl <| .new rfl <| .nil)
    replace h_t := h_t.mono hle3
    replace hk_t := hk_t.mono hle3
    replace hc2 := hc2.mono hle3
    replace hM := hM.trans hle3
    clear hst2 hfr2 hk3
    refine hK5 _ _ ?_; try clear hK5 K5
    refine wp_ret ?_
    repeat (with_reducible first | refine then_ret ?_ | refine block_ret ?_)
    exact fn_ret hst3 hfr3 rfl (.tmp rfl <| .nil) (by refine congrArg (Value.int _) ?_; rw [depthV_eq]; split <;> omega)
  · try simp only [Bool.not_eq_true', Bool.not_eq_false', decide_eq_true_eq, decide_eq_false_iff_not, Bool.and_eq_true, Bool.or_eq_true, Bool.and_eq_false_iff, Bool.or_eq_false_iff, Bool.not_not, u8_eq] at hb9
    refine wp_skip ?_
    refine hK3 _ _ ?_; try clear hK3 K3
    refine seq_any fun K7 hK7 => ?_
    refine region_plain (fun h => by cases h) hst2 hfr2 (by kernel_rfl) (by kernel_rfl) (.cons rfl (ob_assign rfl) <|
        .nil) ?_
    intro a3 w3 m3 hst3 hle3 hk3
    have hfr3 := hk3.fr (T' := [(0, _), (1, _), (4, _), (2, _), (5, _)]) (.old rfl rfl <| .old rfl rfl <| .old rfl rfl <| .old rfl rfl <| .new rfl <| .nil)
    replace h_t := h_t.mono hle3
    replace hk_t := hk_t.mono hle3
    replace hc2 := hc2.mono hle3
    replace hM := hM.trans hle3
    clear hst2 hfr2 hk3
    refine hK7 _ _ ?_; try clear hK7 K7
    refine seq_any fun K8 hK8 => ?_
    refine seq_any fun K9 hK9 => ?_
    refine region_plain (fun h => by cases h) hst3 hfr3 (by kernel_rfl) (by kernel_rfl) (.cons rfl (ob_assign rfl) <|
        .nil) ?_
    intro a4 w4 m4 hst4 hle4 hk4
    have hfr4 := hk4.fr (T' := [(0, _), (1, _), (4, _), (2, _), (5, _), (6, _)]) (.old rfl rfl <| .old rfl rfl <| .old rfl rfl <| .old rfl rfl <| .old rfl rfl <| .new rfl <| .nil)
    replace h_t := h_t.mono hle4
    replace hk_t := hk_t.mono hle4
    replace hc2 := hc2.mono hle4
    replace hM := hM.trans hle4
    clear hst3 hfr3 hk4
    refine hK9 _ _ ?_; try clear hK9 K9
    refine wp_block ?_
    refine loop_any (T := [(0, _), (1, _), (4, _), (2, _)]) (fun (y : Nat × Int) => ([(5, .int .i64 y.2), (6, .int .i64 (y.1 : Int))] : List (Nat × Value))) (fun _ => _) (fun (y : Nat × Int) m => (fun (y : Nat) (a : Int) => (y ≤ t.kids.length) ∧ (a = (depthL (left - 1) (t.kids.take y) : Int))) y.1 y.2) (fun y => t.kids.length - y.1) ((0, 0)) ⟨hst4, MLe.refl _, hfr4.sub (.cons rfl <| .cons rfl <| .cons rfl <| .cons rfl <| .cons rfl <| .cons rfl <| .nil), ⟨Nat.zero_le _, rfl⟩⟩ fun y a5 w5 m5 hh5 => ?_
    have hst5 := hh5.st; have hle5 := hh5.le; have hfr5 := hh5.fr; have hrel := hh5.rel; clear hh5
    replace h_t := h_t.mono hle5
    replace hk_t := hk_t.mono hle5
    replace hc2 := hc2.mono hle5
    clear hst4 hfr4
    replace hM := hM.trans hle5
    obtain ⟨y, a⟩ := y
    dsimp only at hrel hfr5 hst5
    obtain ⟨hyn, ha⟩ := hrel
    have hlh5 := hle5
    refine seq_any fun K11 hK11 => ?_
    refine seq_any fun K12 hK12 => ?_
    refine region_plain (fun h => by cases h) hst5 hfr5 (by kernel_rfl) (by kernel_rfl) (.cons rfl (ob_move rfl) <|
        .cons rfl (ob_fieldAddr rfl Tryd.underlying24 rfl Tryd.sizeOf22 rfl) <|
        .cons rfl (ob_load1 rfl hc2 Tryd.isAgg22 rfl) <|
        .cons rfl (ob_len rfl Tryd.underlying22) <|
        .cons rfl (ob_lss rfl rfl) <|
        .nil) ?_
    intro a6 w6 m6 hst6 hle6 hk6
    have hfr6 := hk6.fr (T' := [(5, _), (6, _), (0, _), (1, _), (4, _), (2, _), (15, _)]) (.old rfl rfl <| .old rfl rfl <| .old rfl rfl <| .old rfl rfl <| .old rfl rfl <| .old rfl rfl <| .new rfl <| .nil)
    replace h_t := h_t.mono hle6
    replace hk_t := hk_t.mono hle6
    replace hc2 := hc2.mono hle6
    have hlh6 := hlh5.trans hle6
    replace hM := hM.trans hle6
    clear hst5 hfr5 hk6
    refine hK12 _ _ ?_; try clear hK12 K12
    refine cond_any hfr6 rfl rfl (fun hb15 => ?_) (fun hb15 => ?_)
    · try simp only [Bool.not_eq_true', Bool.not_eq_false', decide_eq_true_eq, decide_eq_false_iff_not, Bool.and_eq_true, Bool.or_eq_true, Bool.and_eq_false_iff, Bool.or_eq_false_iff, Bool.not_not, u8_eq] at hb15
      refine wp_skip ?_
      refine hK11 _ _ ?_; try clear hK11 K11
      refine seq_any fun K13 hK13 => ?_
      refine wp_block ?_
      refine seq_any fun K14 hK14 => ?_
      have el : ((left - 1 : Nat) : Int) = (left : Int) - 1 := by omega
      obtain ⟨p15, vs15, x15, ho15, hd15, hm_x15, ht15, hcv15, hl15, hv15⟩ := hk_t.nth (k := y) (by omega)
      cases ho15
      obtain ⟨o15, c15, rfl, hkd15, hi15, hj15⟩ := hv15.open_
      have hbg15 := hkd15.big; have hcp15 := hkd15.cap
      refine region_plain (fun h => by cases h) hst6 hfr6 (by kernel_rfl) (by kernel_rfl) (.cons rfl (ob_fieldAddr rfl Tryd.underlying24 rfl Tryd.sizeOf22 rfl) <|
          .cons rfl (ob_load1 rfl hc2 Tryd.isAgg22 rfl) <|
          .cons rfl (ob_move rfl) <|
          .cons rfl (ob_indexAddr (k := y) rfl rfl Tryd.underlying22 Tryd.sizeOf24 rfl (by omega)) <|
          .cons rfl (ob_loadS' rfl hcv15 Tryd.isAgg24 Tryd.sizeOf24 rfl rfl) <|
          .cons rfl (ob_move rfl) <|
          .cons rfl (ob_sub rfl rfl ⟨by omega, by omega⟩) <|
          .cons rfl (ob_callE rfl (.cons rfl <| .cons rfl <| .nil) Tryd.call29 (fun w m hK => by have hle_ := KC.le hK; have hA := KC.agree hK; have hM := hM.trans hle_; have h_t := h_t.mono hle_; have hk_t := hk_t.mono hle_; have hc2 := hc2.mono hle_; have hcv15 := hcv15.mono hle_; have hv15 := hv15.mono hle_; have hkd15 := hkd15.mono hle_; exact (show FnV Tryd.prog 29 #[_, .int .i64 ((left : Int) - 1)] _ _ _ from by rw [← el]; exact ih _ (by assumption) hA (by assumption) (by omega)))) <|
          .cons rfl (ob_assign rfl) <|
          .nil) ?_
      intro a7 w7 m7 hst7 hle7 hk7
      have hfr7 := hk7.fr (T' := [(5, _), (6, _), (0, _), (1, _), (4, _), (2, _), (7, _)]) (.old rfl rfl <| .old rfl rfl <| .old rfl rfl <| .old rfl rfl <| .old rfl rfl <| .old rfl rfl <| .new rfl <| .nil)
      replace h_t := h_t.mono hle7
      replace hk_t := hk_t.mono hle7
      replace hc2 := hc2.mono hle7
      replace hcv15 := hcv15.mono hle7
      replace hv15 := hv15.mono hle7
      replace hkd15 := hkd15.mono hle7
      have hlh7 := hlh6.trans hle7
      replace hM := hM.trans hle7
      clear hst6 hfr6 hk7
      refine hK14 _ _ ?_; try clear hK14 K14
      refine region_plain (fun h => by cases h) hst7 hfr7 (by kernel_rfl) (by kernel_rfl) (.cons rfl (ob_move rfl) <|
          .cons rfl (ob_move rfl) <|
          .cons rfl (ob_max2 rfl rfl) <|
          .cons rfl (ob_assign rfl) <|
          .nil) ?_
      intro a8 w8 m8 hst8 hle8 hk8
      have hfr8 := hk8.fr (T' := [(6, _), (0, _), (1, _), (4, _), (2, _), (7, _), (5, _)]) (.old rfl rfl <| .old rfl rfl <| .old rfl rfl <| .old rfl rfl <| .old rfl rfl <| .old rfl rfl <| .new rfl <| .nil)
      replace h_t := h_t.mono hle8
      replace hk_t := hk_t.mono hle8
      replace hc2 := hc2.mono hle8
      replace hcv15 := hcv15.mono hle8
      replace hv15 := hv15.mono hle8
      replace hkd15 := hkd15.mono hle8
      have hlh8 := hlh7.trans hle8
      replace hM := hM.trans hle8
      clear hst7 hfr7 hk8
      refine hK13 _ _ ?_; try clear hK13 K13
      refine region_plain (fun h => by cases h) hst8 hfr8 (by kernel_rfl) (by kernel_rfl) (.cons rfl (ob_move rfl) <|
          .cons rfl (ob_add rfl rfl ⟨by omega, by omega⟩) <|
          .cons rfl (ob_assign rfl) <|
          .nil) ?_
      intro a9 w9 m9 hst9 hle9 hk9
      have hfr9 := hk9.fr (T' := [(0, _), (1, _), (4, _), (2, _), (7, _), (5, _), (6, _)]) (.old rfl rfl <| .old rfl rfl <| .old rfl rfl <| .old rfl rfl <| .old rfl rfl <| .old rfl rfl <| .new rfl <| .nil)
      replace h_t := h_t.mono hle9
      replace hk_t := hk_t.mono hle9
      replace hc2 := hc2.mono hle9
      replace hcv15 := hcv15.mono hle9
      replace hv15 := hv15.mono hle9
      replace hkd15 := hkd15.mono hle9
      have hlh9 := hlh8.trans hle9
      replace hM := hM.trans hle9
      clear hst8 hfr8 hk9
      have hz : (if ((depthV (left - 1) x15 : Nat) : Int) > a then ((depthV (left - 1) x15 : Nat) : Int) else a) = ((depthL (left - 1) (t.kids.take (y + 1)) : Nat) : Int) := by rw [ht15, depthL_snoc, ha]; split <;> omega
      rw [hz] at hfr9
      exact ⟨(y + 1, _), m9, by show t.kids.length - (y + 1) < t.kids.length - y; omega, ⟨hst9, hlh9, hfr9.sub (.cons rfl <| .cons rfl <| .cons rfl <| .cons rfl <| .cons rfl <| .cons rfl <| .nil), ⟨by show y + 1 ≤ t.kids.length; omega, rfl⟩⟩⟩
    · try simp only [Bool.not_eq_true', Bool.not_eq_false', decide_eq_true_eq, decide_eq_false_iff_not, Bool.and_eq_true, Bool.or_eq_true, Bool.and_eq_false_iff, Bool.or_eq_false_iff, Bool.not_not, u8_eq] at hb15
      have hge : y = t.kids.length := by omega
      rw [List.take_of_length_le (by omega)] at ha
      have hdl := depthL_le (left - 1) t.kids
      refine wp_exit ?_
      refine hK8 _ _ ?_; try clear hK8 K8
      refine seq_any fun K16 hK16 => ?_
      refine region_plain (fun h => by cases h) hst6 hfr6 (by kernel_rfl) (by kernel_rfl) (.cons rfl (ob_move rfl) <|
          .cons rfl (ob_add rfl rfl ⟨by omega, by omega⟩) <|
          .cons rfl (ob_assign rfl) <|
          .nil) ?_
      intro a7 w7 m7 hst7 hle7 hk7
      have hfr7 := hk7.fr (T' := [(5, _), (6, _), (0, _), (1, _), (2, _), (4, _)]) (.old rfl rfl <| .old rfl rfl <| .old rfl rfl <| .old rfl rfl <| .old rfl rfl <| .new rfl <| .nil)
      replace h_t := h_t.mono hle7
      replace hk_t := hk_t.mono hle7
      replace hc2 := hc2.mono hle7
      have hlh7 := hlh6.trans hle7
      replace hM := hM.trans hle7
      clear hst6 hfr6 hk7
      refine hK16 _ _ ?_; try clear hK16 K16
      refine wp_ret ?_
      repeat (with_reducible first | refine then_ret ?_ | refine block_ret ?_)
      exact fn_ret hst7 hfr7 rfl (.tmp rfl <| .nil) (by refine congrArg (Value.int _) ?_; rw [depthV_eq]; split <;> omega)
theorem depth_c (t : VT) : depth_G t := VT.rec_ (p := depth_G) (fun t ih => depth_s ih) t

abbrev shape_G (t : VT) : Prop := ∀ {w : World} {m : Mem} {vs_t : List Value} {all : Bool} (hA : Agree w m) (h_t : VR m t vs_t), FnV Tryd.prog 30 #[.agg vs_t.toArray, .bool all] w m (fun _ _ v => v = .bool (shapeV all t))
set_option maxHeartbeats 400000 in
theorem shape_s {t : VT} (ih : ∀ u ∈ t.kids, shape_G u) {w : World} {m : Mem} {vs_t : List Value} {all : Bool} (hA : Agree w m) (h_t : VR m t vs_t) : FnV Tryd.prog 30 #[.agg vs_t.toArray, .bool all] w m (fun _ _ v => v = .bool (shapeV all t)) := by
  obtain ⟨o_t, c_t, rfl, hk_t, hi_t, hj_t⟩ := h_t.open_
  have hbg_t := hk_t.big; have hcp_t := hk_t.cap
  refine fn_enter (vs := [_, _]) Tryd.func30 rfl rfl rfl fun a0 hfr0 => ?_
  have hst0 := st_enter hA (loc_nil [] _ w m)
  have hM : MLe m m := MLe.refl m
  refine seq_any fun K1 hK1 => ?_
  refine region_plain (fun h => by cases h) hst0 hfr0 (by kernel_rfl) (by kernel_rfl) (.cons rfl (ob_box rfl rfl) <|
      .cons rfl (ob_assign rfl) <|
      .nil) ?_
  intro a1 w1 m1 hst1 hle1 hk1
  have hfr1 := hk1.fr (T' := [(0, _), (1, _), (4, _)]) (.old rfl rfl <| .old rfl rfl <| .new rfl <| .nil)
  obtain ⟨g2, e2, hc2⟩ := hk1.ex 2 rfl
  replace hfr1 := hfr1.cons e2
  replace h_t := h_t.mono hle1
  replace hk_t := hk_t.mono hle1
  replace hM := hM.trans hle1
  clear hst0 hfr0 hk1
  refine hK1 _ _ ?_; try clear hK1 K1
  refine seq_any fun K3 hK3 => ?_
  refine seq_any fun K4 hK4 => ?_
  refine region_plain (fun h => by cases h) hst1 hfr1 (by kernel_rfl) (by kernel_rfl) (.cons rfl (ob_fieldAddr rfl Tryd.underlying24 rfl Tryd.sizeOf3 rfl) <|
      .cons rfl (ob_load1 rfl hc2 Tryd.isAgg3 rfl) <|
      .cons rfl (ob_eql rfl rfl) <|
      .nil) ?_
  intro a2 w2 m2 hst2 hle2 hk2
  have hfr2 := hk2.fr (T' := [(0, _), (1, _), (4, _), (2, _), (9, _)]) (.old rfl rfl <| .old rfl rfl <| .old rfl rfl <| .old rfl rfl <| .new rfl <| .nil)
  replace h_t := h_t.mono hle2
  replace hk_t := hk_t.mono hle2
  replace hc2 := hc2.mono hle2
  replace hM := hM.trans hle2
  clear hst1 hfr1 hk2
  refine hK4 _ _ ?_; try clear hK4 K4
  refine cond_any hfr2 rfl rfl (fun hb9 => ?_) (fun hb9 => ?_)
  · try simp only [Bool.not_eq_true', Bool.not_eq_false', decide_eq_true_eq, decide_eq_false_iff_not, Bool.and_eq_true, Bool.or_eq_true, Bool.and_eq_false_iff, Bool.or_eq_false_iff, Bool.not_not, u8_eq] at hb9
    refine seq_any fun K5 hK5 => ?_
    refine seq_any fun K6 hK6 => ?_
    refine region_plain (fun h => by cases h) hst2 hfr2 (by kernel_rfl) (by kernel_rfl) (.cons rfl (ob_fieldAddr rfl Tryd.underlying24 rfl Tryd.sizeOf9 rfl) <|
        .cons rfl (ob_load1 rfl hc2 Tryd.isAgg9 rfl) <|
        .cons rfl (ob_seql rfl rfl) <|
        .cons rfl (ob_move rfl) <|
        .cons rfl (ob_fieldAddr rfl Tryd.underlying24 rfl Tryd.sizeOf3 rfl) <|
        .cons rfl (ob_load1 rfl hc2 Tryd.isAgg3 rfl) <|
        .cons rfl (ob_neq rfl rfl) <|
        .cons rfl (ob_or rfl rfl rfl) <|
        .nil) ?_
    intro a3 w3 m3 hst3 hle3 hk3
    have hfr3 := hk3.fr (T' := [(0, _), (1, _), (4, _), (2, _), (17, _)]) (.old rfl rfl <| .old rfl rfl <| .old rfl rfl <| .old rfl rfl <| .new rfl <| .nil)
    replace h_t := h_t.mono hle3
    replace hk_t := hk_t.mono hle3
    replace hc2 := hc2.mono hle3
    replace hM := hM.trans hle3
    clear hst2 hfr2 hk3
    refine hK6 _ _ ?_; try clear hK6 K6
    refine cond_any hfr3 rfl rfl (fun hb17 => ?_) (fun hb17 => ?_)
    · try simp only [Bool.not_eq_true', Bool.not_eq_false', decide_eq_true_eq, decide_eq_false_iff_not, Bool.and_eq_true, Bool.or_eq_true, Bool.and_eq_false_iff, Bool.or_eq_false_iff, Bool.not_not, u8_eq] at hb17
      refine seq_any fun K7 hK7 => ?_
      refine region_plain (fun h => by cases h) hst3 hfr3 (by kernel_rfl) (by kernel_rfl) (.cons rfl (ob_assign rfl) <|
          .nil) ?_
      intro a4 w4 m4 hst4 hle4 hk4
      have hfr4 := hk4.fr (T' := [(0, _), (1, _), (2, _), (4, _)]) (.old rfl rfl <| .old rfl rfl <| .old rfl rfl <| .new rfl <| .nil)
      replace h_t := h_t.mono hle4
      replace hk_t := hk_t.mono hle4
      replace hc2 := hc2.mono hle4
      replace hM := hM.trans hle4
      clear hst3 hfr3 hk4
      refine hK7 _ _ ?_; try clear hK7 K7
      refine wp_ret ?_
      repeat (with_reducible first | refine then_ret ?_ | refine block_ret ?_)
      exact fn_ret hst4 hfr4 rfl (.tmp rfl <| .nil) (by refine congrArg Value.bool ?_; rw [shapeV_eq]; unfold shapeB; simp_all; try (intros; simp_all))
    · try simp only [Bool.not_eq_true', Bool.not_eq_false', decide_eq_true_eq, decide_eq_false_iff_not, Bool.and_eq_true, Bool.or_eq_true, Bool.and_eq_false_iff, Bool.or_eq_false_iff, Bool.not_not, u8_eq] at hb17
      refine wp_skip ?_
      refine hK5 _ _ ?_; try clear hK5 K5
      refine seq_any fun K9 hK9 => ?_
      refine seq_any fun K10 hK10 => ?_
      refine region_plain (fun h => by cases h) hst3 hfr3 (by kernel_rfl) (by kernel_rfl) (.cons rfl (ob_assign rfl) <|
          .nil) ?_
      intro a4 w4 m4 hst4 hle4 hk4
      have hfr4 := hk4.fr (T' := [(0, _), (1, _), (4, _), (2, _), (5, _)]) (.old rfl rfl <| .old rfl rfl <| .old rfl rfl <| .old rfl rfl <| .new rfl <| .nil)
      replace h_t := h_t.mono hle4
      replace hk_t := hk_t.mono hle4
      replace hc2 := hc2.mono hle4
      replace hM := hM.trans hle4
      clear hst3 hfr3 hk4
      refine hK10 _ _ ?_; try clear hK10 K10
      refine wp_block ?_
      refine loop_any (T := [(0, _), (1, _), (4, _), (2, _)]) (fun (y : Nat) => ([(5, .int .i64 (y : Int))] : List (Nat × Value))) (fun _ => _) (fun (y : Nat) m => (y ≤ t.kids.length) ∧ (shapeL all t.kids = shapeL all (t.kids.drop y))) (fun y => t.kids.length - y) (0) ⟨hst4, MLe.refl _, hfr4.sub (.cons rfl <| .cons rfl <| .cons rfl <| .cons rfl <| .cons rfl <| .nil), ⟨Nat.zero_le _, rfl⟩⟩ fun y a5 w5 m5 hh5 => ?_
      have hst5 := hh5.st; have hle5 := hh5.le; have hfr5 := hh5.fr; have hrel := hh5.rel; clear hh5
      replace h_t := h_t.mono hle5
      replace hk_t := hk_t.mono hle5
      replace hc2 := hc2.mono hle5
      clear hst4 hfr4
      replace hM := hM.trans hle5
      obtain ⟨hyn, hrem⟩ := hrel
      have hlh5 := hle5
      refine seq_any fun K12 hK12 => ?_
      refine seq_any fun K13 hK13 => ?_
      refine region_plain (fun h => by cases h) hst5 hfr5 (by kernel_rfl) (by kernel_rfl) (.cons rfl (ob_move rfl) <|
          .cons rfl (ob_fieldAddr rfl Tryd.underlying24 rfl Tryd.sizeOf22 rfl) <|
          .cons rfl (ob_load1 rfl hc2 Tryd.isAgg22 rfl) <|
          .cons rfl (ob_len rfl Tryd.underlying22) <|
          .cons rfl (ob_lss rfl rfl) <|
          .nil) ?_
      intro a6 w6 m6 hst6 hle6 hk6
      have hfr6 := hk6.fr (T' := [(5, _), (0, _), (1, _), (4, _), (2, _), (22, _)]) (.old rfl rfl <| .old rfl rfl <| .old rfl rfl <| .old rfl rfl <| .old rfl rfl <| .new rfl <| .nil)
      replace h_t := h_t.mono hle6
      replace hk_t := hk_t.mono hle6
      replace hc2 := hc2.mono hle6
      have hlh6 := hlh5.trans hle6
      replace hM := hM.trans hle6
      clear hst5 hfr5 hk6
      refine hK13 _ _ ?_; try clear hK13 K13
      refine cond_any hfr6 rfl rfl (fun hb22 => ?_) (fun hb22 => ?_)
      · try simp only [Bool.not_eq_true', Bool.not_eq_false', decide_eq_true_eq, decide_eq_false_iff_not, Bool.and_eq_true, Bool.or_eq_true, Bool.and_eq_false_iff, Bool.or_eq_false_iff, Bool.not_not, u8_eq] at hb22
        refine wp_skip ?_
        refine hK12 _ _ ?_; try clear hK12 K12
        refine seq_any fun K14 hK14 => ?_
        refine wp_block ?_
        refine seq_any fun K15 hK15 => ?_
        obtain ⟨p16, vs16, x16, ho16, hd16, hm_x16, ht16, hcv16, hl16, hv16⟩ := hk_t.nth (k := y) (by omega)
        cases ho16
        obtain ⟨o16, c16, rfl, hkd16, hi16, hj16⟩ := hv16.open_
        have hbg16 := hkd16.big; have hcp16 := hkd16.cap
        try rw [hd16] at hrem
        try simp only [shapeL] at hrem
        refine region_plain (fun h => by cases h) hst6 hfr6 (by kernel_rfl) (by kernel_rfl) (.cons rfl (ob_fieldAddr rfl Tryd.underlying24 rfl Tryd.sizeOf22 rfl) <|
            .cons rfl (ob_load1 rfl hc2 Tryd.isAgg22 rfl) <|
            .cons rfl (ob_move rfl) <|
            .cons rfl (ob_indexAddr (k := y) rfl rfl Tryd.underlying22 Tryd.sizeOf24 rfl (by omega)) <|
            .cons rfl (ob_loadS' rfl hcv16 Tryd.isAgg24 Tryd.sizeOf24 rfl rfl) <|
            .cons rfl (ob_move rfl) <|
            .cons rfl (ob_callE rfl (.cons rfl <| .cons rfl <| .nil) Tryd.call30 (fun w m hK => by have hle_ := KC.le hK; have hA := KC.agree hK; have hM := hM.trans hle_; have h_t := h_t.mono hle_; have hk_t := hk_t.mono hle_; have hc2 := hc2.mono hle_; have hcv16 := hcv16.mono hle_; have hv16 := hv16.mono hle_; have hkd16 := hkd16.mono hle_; exact ih _ (by assumption) hA (by first | assumption | omega | simp_all))) <|
            .cons rfl (ob_assign rfl) <|
            .nil) ?_
        intro a7 w7 m7 hst7 hle7 hk7
        have hfr7 := hk7.fr (T' := [(5, _), (0, _), (1, _), (4, _), (2, _), (6, _)]) (.old rfl rfl <| .old rfl rfl <| .old rfl rfl <| .old rfl rfl <| .old rfl rfl <| .new rfl <| .nil)
        replace h_t := h_t.mono hle7
        replace hk_t := hk_t.mono hle7
        replace hc2 := hc2.mono hle7
        replace hcv16 := hcv16.mono hle7
        replace hv16 := hv16.mono hle7
        replace hkd16 := hkd16.mono hle7
        have hlh7 := hlh6.trans hle7
        replace hM := hM.trans hle7
        clear hst6 hfr6 hk7
        refine hK15 _ _ ?_; try clear hK15 K15
        refine seq_any fun K17 hK17 => ?_
        refine region_plain (fun h => by cases h) hst7 hfr7 (by kernel_rfl) (by kernel_rfl) (.cons rfl (ob_move rfl) <|
            .cons rfl (ob_not rfl) <|
            .nil) ?_
        intro a8 w8 m8 hst8 hle8 hk8
        have hfr8 := hk8.fr (T' := [(5, _), (0, _), (1, _), (4, _), (2, _), (6, _), (33, _)]) (.old rfl rfl <| .old rfl rfl <| .old rfl rfl <| .old rfl rfl <| .old rfl rfl <| .old rfl rfl <| .new rfl <| .nil)
        replace h_t := h_t.mono hle8
        replace hk_t := hk_t.mono hle8
        replace hc2 := hc2.mono hle8
        replace hcv16 := hcv16.mono hle8
        replace hv16 := hv16.mono hle8
        replace hkd16 := hkd16.mono hle8
        have hlh8 := hlh7.trans hle8
        replace hM := hM.trans hle8
        clear hst7 hfr7 hk8
        refine hK17 _ _ ?_; try clear hK17 K17
        refine cond_any hfr8 rfl rfl (fun hb33 => ?_) (fun hb33 => ?_)
        · try simp only [Bool.not_eq_true', Bool.not_eq_false', decide_eq_true_eq, decide_eq_false_iff_not, Bool.and_eq_true, Bool.or_eq_true, Bool.and_eq_false_iff, Bool.or_eq_false_iff, Bool.not_not, u8_eq] at hb33
          refine seq_any fun K18 hK18 => ?_
          refine region_plain (fun h => by cases h) hst8 hfr8 (by kernel_rfl) (by kernel_rfl) (.cons rfl (ob_assign rfl) <|
              .nil) ?_
          intro a9 w9 m9 hst9 hle9 hk9
          have hfr9 := hk9.fr (T' := [(5, _), (0, _), (1, _), (2, _), (6, _), (4, _)]) (.old rfl rfl <| .old rfl rfl <| .old rfl rfl <| .old rfl rfl <| .old rfl rfl <| .new rfl <| .nil)
          replace h_t := h_t.mono hle9
          replace hk_t := hk_t.mono hle9
          replace hc2 := hc2.mono hle9
          replace hcv16 := hcv16.mono hle9
          replace hv16 := hv16.mono hle9
          replace hkd16 := hkd16.mono hle9
          have hlh9 := hlh8.trans hle9
          replace hM := hM.trans hle9
          clear hst8 hfr8 hk9
          refine hK18 _ _ ?_; try clear hK18 K18
          refine wp_ret ?_
          repeat (with_reducible first | refine then_ret ?_ | refine block_ret ?_)
          exact fn_ret hst9 hfr9 rfl (.tmp rfl <| .nil) (by refine congrArg Value.bool ?_; rw [shapeV_eq]; unfold shapeB; simp_all; try (intros; simp_all))
        · try simp only [Bool.not_eq_true', Bool.not_eq_false', decide_eq_true_eq, decide_eq_false_iff_not, Bool.and_eq_true, Bool.or_eq_true, Bool.and_eq_false_iff, Bool.or_eq_false_iff, Bool.not_not, u8_eq] at hb33
          refine wp_skip ?_
          refine hK14 _ _ ?_; try clear hK14 K14
          refine region_plain (fun h => by cases h) hst8 hfr8 (by kernel_rfl) (by kernel_rfl) (.cons rfl (ob_move rfl) <|
              .cons rfl (ob_add rfl rfl ⟨by omega, by omega⟩) <|
              .cons rfl (ob_assign rfl) <|
              .nil) ?_
          intro a9 w9 m9 hst9 hle9 hk9
          have hfr9 := hk9.fr (T' := [(0, _), (1, _), (4, _), (2, _), (6, _), (5, _)]) (.old rfl rfl <| .old rfl rfl <| .old rfl rfl <| .old rfl rfl <| .old rfl rfl <| .new rfl <| .nil)
          replace h_t := h_t.mono hle9
          replace hk_t := hk_t.mono hle9
          replace hc2 := hc2.mono hle9
          replace hcv16 := hcv16.mono hle9
          replace hv16 := hv16.mono hle9
          replace hkd16 := hkd16.mono hle9
          have hlh9 := hlh8.trans hle9
          replace hM := hM.trans hle9
          clear hst8 hfr8 hk9
          exact ⟨y + 1, m9, by show t.kids.length - (y + 1) < t.kids.length - y; omega, ⟨hst9, hlh9, hfr9.sub (.cons rfl <| .cons rfl <| .cons rfl <| .cons rfl <| .cons rfl <| .nil), ⟨by show y + 1 ≤ t.kids.length; omega, by simp_all⟩⟩⟩
      · try simp only [Bool.not_eq_true', Bool.not_eq_false', decide_eq_true_eq, decide_eq_false_iff_not, Bool.and_eq_true, Bool.or_eq_true, Bool.and_eq_false_iff, Bool.or_eq_false_iff, Bool.not_not, u8_eq] at hb22
        have hge : y = t.kids.length := by omega
        rw [List.drop_of_length_le (by omega)] at hrem
        simp only [shapeL] at hrem
        refine wp_exit ?_
        refine hK9 _ _ ?_; try clear hK9 K9
        refine seq_any fun K20 hK20 => ?_
        refine region_plain (fun h => by cases h) hst6 hfr6 (by kernel_rfl) (by kernel_rfl) (.cons rfl (ob_assign rfl) <|
            .nil) ?_
        intro a7 w7 m7 hst7 hle7 hk7
        have hfr7 := hk7.fr (T' := [(5, _), (0, _), (1, _), (2, _), (4, _)]) (.old rfl rfl <| .old rfl rfl <| .old rfl rfl <| .old rfl rfl <| .new rfl <| .nil)
        replace h_t := h_t.mono hle7
        replace hk_t := hk_t.mono hle7
        replace hc2 := hc2.mono hle7
        have hlh7 := hlh6.trans hle7
        replace hM := hM.trans hle7
        clear hst6 hfr6 hk7
        refine hK20 _ _ ?_; try clear hK20 K20
        refine wp_ret ?_
        repeat (with_reducible first | refine then_ret ?_ | refine block_ret ?_)
        exact fn_ret hst7 hfr7 rfl (.tmp rfl <| .nil) (by refine congrArg Value.bool ?_; rw [shapeV_eq]; unfold shapeB; simp_all; try (intros; simp_all))
  · try simp only [Bool.not_eq_true', Bool.not_eq_false', decide_eq_true_eq, decide_eq_false_iff_not, Bool.and_eq_true, Bool.or_eq_true, Bool.and_eq_false_iff, Bool.or_eq_false_iff, Bool.not_not, u8_eq] at hb9
    refine wp_skip ?_
    refine hK3 _ _ ?_; try clear hK3 K3
    refine seq_any fun K22 hK22 => ?_
    refine seq_any fun K23 hK23 => ?_
    refine region_plain (fun h => by cases h) hst2 hfr2 (by kernel_rfl) (by kernel_rfl) (.cons rfl (ob_fieldAddr rfl Tryd.underlying24 rfl Tryd.sizeOf9 rfl) <|
        .cons rfl (ob_load1 rfl hc2 Tryd.isAgg9 rfl) <|
        .cons rfl (ob_sneq rfl rfl) <|
        .cons rfl (ob_move rfl) <|
        .cons rfl (ob_fieldAddr rfl Tryd.underlying24 rfl Tryd.sizeOf22 rfl) <|
        .cons rfl (ob_load1 rfl hc2 Tryd.isAgg22 rfl) <|
        .cons rfl (ob_len rfl Tryd.underlying22) <|
        .cons rfl (ob_gtr rfl rfl) <|
        .cons rfl (ob_or rfl rfl rfl) <|
        .nil) ?_
    intro a3 w3 m3 hst3 hle3 hk3
    have hfr3 := hk3.fr (T' := [(0, _), (1, _), (4, _), (2, _), (42, _)]) (.old rfl rfl <| .old rfl rfl <| .old rfl rfl <| .old rfl rfl <| .new rfl <| .nil)
    replace h_t := h_t.mono hle3
    replace hk_t := hk_t.mono hle3
    replace hc2 := hc2.mono hle3
    replace hM := hM.trans hle3
    clear hst2 hfr2 hk3
    refine hK23 _ _ ?_; try clear hK23 K23
    refine cond_any hfr3 rfl rfl (fun hb42 => ?_) (fun hb42 => ?_)
    · try simp only [Bool.not_eq_true', Bool.not_eq_false', decide_eq_true_eq, decide_eq_false_iff_not, Bool.and_eq_true, Bool.or_eq_true, Bool.and_eq_false_iff, Bool.or_eq_false_iff, Bool.not_not, u8_eq] at hb42
      refine seq_any fun K24 hK24 => ?_
      refine region_plain (fun h => by cases h) hst3 hfr3 (by kernel_rfl) (by kernel_rfl) (.cons rfl (ob_assign rfl) <|
          .nil) ?_
      intro a4 w4 m4 hst4 hle4 hk4
      have hfr4 := hk4.fr (T' := [(0, _), (1, _), (2, _), (4, _)]) (.old rfl rfl <| .old rfl rfl <| .old rfl rfl <| .new rfl <| .nil)
      replace h_t := h_t.mono hle4
      replace hk_t := hk_t.mono hle4
      replace hc2 := hc2.mono hle4
      replace hM := hM.trans hle4
      clear hst3 hfr3 hk4
      refine hK24 _ _ ?_; try clear hK24 K24
      refine wp_ret ?_
      repeat (with_reducible first | refine then_ret ?_ | refine block_ret ?_)
      exact fn_ret hst4 hfr4 rfl (.tmp rfl <| .nil) (by refine congrArg Value.bool ?_; rw [shapeV_eq]; unfold shapeB; simp_all; try (intros; simp_all))
    · try simp only [Bool.not_eq_true', Bool.not_eq_false', decide_eq_true_eq, decide_eq_false_iff_not, Bool.and_eq_true, Bool.or_eq_true, Bool.and_eq_false_iff, Bool.or_eq_false_iff, Bool.not_not, u8_eq] at hb42
      refine wp_skip ?_
      refine hK22 _ _ ?_; try clear hK22 K22
      refine seq_any fun K26 hK26 => ?_
      refine region_plain (fun h => by cases h) hst3 hfr3 (by kernel_rfl) (by kernel_rfl) (.cons rfl (ob_fieldAddr rfl Tryd.underlying24 rfl Tryd.sizeOf3 rfl) <|
          .cons rfl (ob_load1 rfl hc2 Tryd.isAgg3 rfl) <|
          .cons rfl (ob_eql rfl rfl) <|
          .cons rfl (ob_move rfl) <|
          .cons rfl (ob_fieldAddr rfl Tryd.underlying24 rfl Tryd.sizeOf3 rfl) <|
          .cons rfl (ob_load1 rfl hc2 Tryd.isAgg3 rfl) <|
          .cons rfl (ob_eql rfl rfl) <|
          .cons rfl (ob_move rfl) <|
          .cons rfl (ob_fieldAddr rfl Tryd.underlying24 rfl Tryd.sizeOf3 rfl) <|
          .cons rfl (ob_load1 rfl hc2 Tryd.isAgg3 rfl) <|
          .cons rfl (ob_eql rfl rfl) <|
          .cons rfl (ob_move rfl) <|
          .cons rfl (ob_fieldAddr rfl Tryd.underlying24 rfl Tryd.sizeOf3 rfl) <|
          .cons rfl (ob_load1 rfl hc2 Tryd.isAgg3 rfl) <|
          .cons rfl (ob_eql rfl rfl) <|
          .cons rfl (ob_or rfl rfl rfl) <|
          .cons rfl (ob_and rfl rfl rfl) <|
          .cons rfl (ob_or rfl rfl rfl) <|
          .cons rfl (ob_move rfl) <|
          .cons rfl (ob_fieldAddr rfl Tryd.underlying24 rfl Tryd.sizeOf3 rfl) <|
          .cons rfl (ob_load1 rfl hc2 Tryd.isAgg3 rfl) <|
          .cons rfl (ob_eql rfl rfl) <|
          .cons rfl (ob_move rfl) <|
          .cons rfl (ob_fieldAddr rfl Tryd.underlying24 rfl Tryd.sizeOf3 rfl) <|
          .cons rfl (ob_load1 rfl hc2 Tryd.isAgg3 rfl) <|
          .cons rfl (ob_eql rfl rfl) <|
          .cons rfl (ob_and rfl rfl rfl) <|
          .cons rfl (ob_or rfl rfl rfl) <|
          .cons rfl (ob_move rfl) <|
          .cons rfl (ob_move rfl) <|
          .cons rfl (ob_move rfl) <|
          .cons rfl (ob_fieldAddr rfl Tryd.underlying24 rfl Tryd.sizeOf3 rfl) <|
          .cons rfl (ob_load1 rfl hc2 Tryd.isAgg3 rfl) <|
          .cons rfl (ob_eql rfl rfl) <|
          .cons rfl (ob_move rfl) <|
          .cons rfl (ob_fieldAddr rfl Tryd.underlying24 rfl Tryd.sizeOf3 rfl) <|
          .cons rfl (ob_load1 rfl hc2 Tryd.isAgg3 rfl) <|
          .cons rfl (ob_geq rfl rfl) <|
          .cons rfl (ob_and rfl rfl rfl) <|
          .cons rfl (ob_move rfl) <|
          .cons rfl (ob_fieldAddr rfl Tryd.underlying24 rfl Tryd.sizeOf3 rfl) <|
          .cons rfl (ob_load1 rfl hc2 Tryd.isAgg3 rfl) <|
          .cons rfl (ob_eql rfl rfl) <|
          .cons rfl (ob_move rfl) <|
          .cons rfl (ob_fieldAddr rfl Tryd.underlying24 rfl Tryd.sizeOf3 rfl) <|
          .cons rfl (ob_load1 rfl hc2 Tryd.isAgg3 rfl) <|
          .cons rfl (ob_eql rfl rfl) <|
          .cons rfl (ob_and rfl rfl rfl) <|
          .cons rfl (ob_or rfl rfl rfl) <|
          .cons rfl (ob_and rfl rfl rfl) <|
          .cons rfl (ob_or rfl rfl rfl) <|
          .cons rfl (ob_assign rfl) <|
          .nil) ?_
      intro a4 w4 m4 hst4 hle4 hk4
      have hfr4 := hk4.fr (T' := [(0, _), (1, _), (2, _), (4, _)]) (.old rfl rfl <| .old rfl rfl <| .old rfl rfl <| .new rfl <| .nil)
      replace h_t := h_t.mono hle4
      replace hk_t := hk_t.mono hle4
      replace hc2 := hc2.mono hle4
      replace hM := hM.trans hle4
      clear hst3 hfr3 hk4
      refine hK26 _ _ ?_; try clear hK26 K26
      refine wp_ret ?_
      repeat (with_reducible first | refine then_ret ?_ | refine block_ret ?_)
      exact fn_ret hst4 hfr4 rfl (.tmp rfl <| .nil) (by refine congrArg Value.bool ?_; rw [shapeV_eq]; unfold shapeB; simp_all; try (intros; simp_all))
theorem shape_c (t : VT) : shape_G t := VT.rec_ (p := shape_G) (fun t ih => shape_s ih) t

set_option maxHeartbeats 400000 in
theorem rright_c {w : World} {m : Mem} {t : VT} {vs_t : List Value} (hA : Agree w m) (h_t : VR m t vs_t) : FnV Tryd.prog 15 #[.agg vs_t.toArray] w m (fun _ _ v => v = .bool (decide (depthV 1001 t ≤ 1000) && shapeV true t)) := by
  obtain ⟨o_t, c_t, rfl, hk_t, hi_t, hj_t⟩ := h_t.open_
  have hbg_t := hk_t.big; have hcp_t := hk_t.cap
  refine fn_enter (vs := [_]) Tryd.func15 rfl rfl rfl fun a0 hfr0 => ?_
  have hst0 := st_enter hA (loc_nil [] _ w m)
  have hM : MLe m m := MLe.refl m
  refine seq_any fun K1 hK1 => ?_
  refine region_plain (fun h => by cases h) hst0 hfr0 (by kernel_rfl) (by kernel_rfl) (.cons rfl (ob_box rfl rfl) <|
      .cons rfl (ob_assign rfl) <|
      .nil) ?_
  intro a1 w1 m1 hst1 hle1 hk1
  have hfr1 := hk1.fr (T' := [(0, _), (2, _)]) (.old rfl rfl <| .new rfl <| .nil)
  obtain ⟨g2, e2, hc1⟩ := hk1.ex 1 rfl
  replace hfr1 := hfr1.cons e2
  replace h_t := h_t.mono hle1
  replace hk_t := hk_t.mono hle1
  replace hM := hM.trans hle1
  clear hst0 hfr0 hk1
  refine hK1 _ _ ?_; try clear hK1 K1
  refine seq_any fun K3 hK3 => ?_
  refine region_plain (fun h => by cases h) hst1 hfr1 (by kernel_rfl) (by kernel_rfl) (.cons rfl (ob_loadS' rfl hc1 Tryd.isAgg24 Tryd.sizeOf24 rfl rfl) <|
      .cons rfl (ob_callE rfl (.cons rfl <| .cons rfl <| .nil) Tryd.call29 (fun w m hK => by have hle_ := KC.le hK; have hA := KC.agree hK; have hM := hM.trans hle_; have h_t := h_t.mono hle_; exact depth_c t (left := 1001) hA h_t (by omega))) <|
      .cons rfl (ob_leq rfl rfl) <|
      .cons rfl (ob_move rfl) <|
      .cons rfl (ob_loadS' rfl hc1 Tryd.isAgg24 Tryd.sizeOf24 rfl rfl) <|
      .cons rfl (ob_callE rfl (.cons rfl <| .cons rfl <| .nil) Tryd.call30 (fun w m hK => by have hle_ := KC.le hK; have hA := KC.agree hK; have hM := hM.trans hle_; have h_t := h_t.mono hle_; have hk_t := hk_t.mono hle_; have hc1 := hc1.mono hle_; exact shape_c _ hA (by first | assumption | omega | simp_all))) <|
      .cons rfl (ob_and rfl rfl rfl) <|
      .cons rfl (ob_assign rfl) <|
      .nil) ?_
  intro a2 w2 m2 hst2 hle2 hk2
  have hfr2 := hk2.fr (T' := [(0, _), (1, _), (2, _)]) (.old rfl rfl <| .old rfl rfl <| .new rfl <| .nil)
  replace h_t := h_t.mono hle2
  replace hk_t := hk_t.mono hle2
  replace hc1 := hc1.mono hle2
  replace hM := hM.trans hle2
  clear hst1 hfr1 hk2
  refine hK3 _ _ ?_; try clear hK3 K3
  refine wp_ret ?_
  repeat (with_reducible first | refine then_ret ?_ | refine block_ret ?_)
  exact fn_ret hst2 hfr2 rfl (.tmp rfl <| .nil) (by rw [show decide (depthV 1001 t ≤ 1000) = decide ((depthV 1001 t : Int) ≤ 1000) from by rw [decide_eq_decide]; omega]; rfl)

set_option maxHeartbeats 400000 in
theorem rfirst_c {w : World} {m : Mem} {t : VT} {vs_t : List Value} (hA : Agree w m) (h_t : VR m t vs_t) : FnV Tryd.prog 17 #[.agg vs_t.toArray] w m (fun _ _ v => v = .bool (decide (depthV 1001 t ≤ 1000) && shapeV false t)) := by
  obtain ⟨o_t, c_t, rfl, hk_t, hi_t, hj_t⟩ := h_t.open_
  have hbg_t := hk_t.big; have hcp_t := hk_t.cap
  refine fn_enter (vs := [_]) Tryd.func17 rfl rfl rfl fun a0 hfr0 => ?_
  have hst0 := st_enter hA (loc_nil [] _ w m)
  have hM : MLe m m := MLe.refl m
  refine seq_any fun K1 hK1 => ?_
  refine region_plain (fun h => by cases h) hst0 hfr0 (by kernel_rfl) (by kernel_rfl) (.cons rfl (ob_box rfl rfl) <|
      .cons rfl (ob_assign rfl) <|
      .nil) ?_
  intro a1 w1 m1 hst1 hle1 hk1
  have hfr1 := hk1.fr (T' := [(0, _), (2, _)]) (.old rfl rfl <| .new rfl <| .nil)
  obtain ⟨g2, e2, hc1⟩ := hk1.ex 1 rfl
  replace hfr1 := hfr1.cons e2
  replace h_t := h_t.mono hle1
  replace hk_t := hk_t.mono hle1
  replace hM := hM.trans hle1
  clear hst0 hfr0 hk1
  refine hK1 _ _ ?_; try clear hK1 K1
  refine seq_any fun K3 hK3 => ?_
  refine region_plain (fun h => by cases h) hst1 hfr1 (by kernel_rfl) (by kernel_rfl) (.cons rfl (ob_loadS' rfl hc1 Tryd.isAgg24 Tryd.sizeOf24 rfl rfl) <|
      .cons rfl (ob_callE rfl (.cons rfl <| .cons rfl <| .nil) Tryd.call29 (fun w m hK => by have hle_ := KC.le hK; have hA := KC.agree hK; have hM := hM.trans hle_; have h_t := h_t.mono hle_; exact depth_c t (left := 1001) hA h_t (by omega))) <|
      .cons rfl (ob_leq rfl rfl) <|
      .cons rfl (ob_move rfl) <|
      .cons rfl (ob_loadS' rfl hc1 Tryd.isAgg24 Tryd.sizeOf24 rfl rfl) <|
      .cons rfl (ob_callE rfl (.cons rfl <| .cons rfl <| .nil) Tryd.call30 (fun w m hK => by have hle_ := KC.le hK; have hA := KC.agree hK; have hM := hM.trans hle_; have h_t := h_t.mono hle_; have hk_t := hk_t.mono hle_; have hc1 := hc1.mono hle_; exact shape_c _ hA (by first | assumption | omega | simp_all))) <|
      .cons rfl (ob_and rfl rfl rfl) <|
      .cons rfl (ob_assign rfl) <|
      .nil) ?_
  intro a2 w2 m2 hst2 hle2 hk2
  have hfr2 := hk2.fr (T' := [(0, _), (1, _), (2, _)]) (.old rfl rfl <| .old rfl rfl <| .new rfl <| .nil)
  replace h_t := h_t.mono hle2
  replace hk_t := hk_t.mono hle2
  replace hc1 := hc1.mono hle2
  replace hM := hM.trans hle2
  clear hst1 hfr1 hk2
  refine hK3 _ _ ?_; try clear hK3 K3
  refine wp_ret ?_
  repeat (with_reducible first | refine then_ret ?_ | refine block_ret ?_)
  exact fn_ret hst2 hfr2 rfl (.tmp rfl <| .nil) (by rw [show decide (depthV 1001 t ≤ 1000) = decide ((depthV 1001 t : Int) ≤ 1000) from by rw [decide_eq_decide]; omega]; rfl)

end Go.Proofs.YtineijefefjpeaaDoor
