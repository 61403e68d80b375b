/-
  Laws of values, no program in sight. Conditions: those of each theorem.
-/
import Derived.Test.YtineijefefjpeaaDoorRefs2
namespace Go.Proofs.YtineijefefjpeaaDoor
set_option linter.all false
open Go.RowKit
open Go.Lib (itoa formatBool decDigits)
/-- A byte of a number. -/
def digB (b : UInt8) : Prop := 48 ≤ b.toNat ∧ b.toNat ≤ 57
theorem byte_nat {k : Nat} (h : k < 10) : (UInt8.ofNat (48 + k)).toNat = 48 + k := by
  rw [UInt8.toNat_ofNat']; omega
theorem dec_dig (n : Nat) : ∀ b ∈ decDigits n, digB b := by
  induction n using Nat.strongRecOn with
  | ind n ih =>
    intro b hb
    rw [dec_eq] at hb
    split at hb
    · rename_i h
      rw [List.mem_singleton] at hb; subst hb
      have := byte_nat h
      exact ⟨by omega, by omega⟩
    · rw [List.mem_append, List.mem_singleton] at hb
      rcases hb with hb | hb
      · exact ih (n / 10) (by omega) b hb
      · subst hb
        have := byte_nat (k := n % 10) (by omega)
        exact ⟨by omega, by omega⟩
theorem dec_ne (n : Nat) : decDigits n ≠ [] := by rw [dec_eq]; split <;> simp
theorem byte_inj {j k : Nat} (hj : j < 10) (hk : k < 10) (h : UInt8.ofNat (48 + j) = UInt8.ofNat (48 + k)) : j = k := by
  have h1 := byte_nat hj; have h2 := byte_nat hk; rw [h] at h1; omega
theorem dec_inj (n : Nat) : ∀ m, decDigits n = decDigits m → n = m := by
  induction n using Nat.strongRecOn with
  | ind n ih =>
    intro m h
    rw [dec_eq n, dec_eq m] at h
    split at h <;> split at h
    · simp only [List.cons.injEq, and_true] at h; exact byte_inj (by omega) (by omega) h
    · have := congrArg List.length h
      simp only [List.length_append, List.length_cons, List.length_nil] at this
      have h2 := dec_ne (m / 10)
      have := List.length_pos_iff.2 h2; omega
    · have := congrArg List.length h
      simp only [List.length_append, List.length_cons, List.length_nil] at this
      have h2 := dec_ne (n / 10)
      have := List.length_pos_iff.2 h2; omega
    · obtain ⟨h1, h2⟩ := List.append_inj' h rfl
      have e1 := ih (n / 10) (by omega) _ h1
      simp only [List.cons.injEq, and_true] at h2
      have e2 := byte_inj (by omega) (by omega) h2
      omega
theorem itoa_inj {n m : Int} (h : itoa n = itoa m) : n = m := by
  unfold itoa at h
  have hh : ∀ (k : Nat) (l : List UInt8), 45 :: l ≠ decDigits k := fun k l e => by
    have := dec_dig k 45 (by rw [← e]; exact .head _)
    have h1 := this.1
    have : (45 : UInt8).toNat = 45 := rfl
    omega
  split at h <;> split at h
  · simp only [List.cons.injEq, true_and] at h; have := dec_inj _ _ h; omega
  · exact absurd h (hh _ _)
  · exact absurd h.symm (hh _ _)
  · have := dec_inj _ _ h; omega
/-- A byte that does not stand between values. -/
def wb (b : UInt8) : Bool := decide (b ≠ 40) && decide (b ≠ 41) && decide (b ≠ 44)
theorem wb_dig {b : UInt8} (h : digB b) : wb b = true := by
  obtain ⟨h1, h2⟩ := h
  unfold wb
  have : b ≠ 40 ∧ b ≠ 41 ∧ b ≠ 44 := ⟨fun e => by subst e; revert h1; decide, fun e => by subst e; revert h1; decide, fun e => by subst e; revert h1; decide⟩
  simp [this]
theorem itoa_wb (n : Int) : (itoa n).all wb = true := by
  rw [List.all_eq_true]; intro b hb
  unfold itoa at hb
  split at hb
  · rcases List.mem_cons.1 hb with rfl | hb
    · decide
    · exact wb_dig (dec_dig _ b hb)
  · exact wb_dig (dec_dig _ b hb)
theorem itoa_head (n : Int) : ∃ b l, itoa n = b :: l ∧ (b = 45 ∨ digB b) := by
  unfold itoa
  split
  · exact ⟨_, _, rfl, .inl rfl⟩
  · cases e : decDigits n.toNat with
    | nil => exact absurd e (dec_ne _)
    | cons b l => exact ⟨b, l, rfl, .inr (dec_dig n.toNat b (by rw [e]; exact .head _))⟩
theorem okB_wb {b : UInt8} (h : okB b = true) : wb b = true := by
  have key : ∀ l : List UInt8, l.all wb = true → l.contains b = true → wb b = true := fun l hl hb => by
    rw [List.all_eq_true] at hl; exact hl b (by simpa using hb)
  unfold okB at h
  simp only [Bool.or_eq_true] at h
  rcases h with (h | h) | h
  · exact key digs (by decide) h
  · exact key bigs (by decide) h
  · exact key smalls (by decide) h
theorem large_wb {s : Str} (h : largeS s = true) : s.all wb = true ∧ ∃ b l, s = b :: l ∧ bigs.contains b = true := by
  cases s with
  | nil => cases h
  | cons b l =>
    have h' : ((!digs.contains b && (b :: l).all okB) && bigs.contains b && decide ((b :: l).length ≤ 60)) = true := h
    simp only [Bool.and_eq_true] at h'
    refine ⟨?_, b, l, rfl, h'.1.2⟩
    rw [List.all_eq_true]; intro c hc
    exact okB_wb (List.all_eq_true.1 h'.1.1.2 c hc)
/-- What may follow behind a word: nothing, or a byte between values. -/
def stop : Str → Bool
  | [] => true
  | b :: _ => !wb b
theorem span_inj : ∀ (w w' r r' : Str), w.all wb = true → w'.all wb = true → stop r = true → stop r' = true → w ++ r = w' ++ r' → w = w' ∧ r = r'
  | [], [], r, r', _, _, _, _, h => ⟨rfl, h⟩
  | [], b :: w', r, r', _, hw, hr, _, h => by
    simp only [List.nil_append] at h; subst h
    simp only [List.all_cons, Bool.and_eq_true] at hw
    simp [stop, hw.1] at hr
  | b :: w, [], r, r', hw, _, _, hr, h => by
    simp only [List.nil_append] at h; subst h
    simp only [List.all_cons, Bool.and_eq_true] at hw
    simp [stop, hw.1] at hr
  | b :: w, c :: w', r, r', h1, h2, h3, h4, h => by
    simp only [List.cons_append, List.cons.injEq] at h
    simp only [List.all_cons, Bool.and_eq_true] at h1 h2
    obtain ⟨e1, e2⟩ := span_inj w w' r r' h1.2 h2.2 h3 h4 h.2
    exact ⟨by rw [h.1, e1], e2⟩
/-- A first-order value, its names large. -/
def fine (t : VT) : Bool := shapeV false t && namedV t
def wordV (t : VT) : Str := if t.kind = 1 then itoa t.n else if t.kind = 2 then formatBool (decide (t.n = 1)) else if t.kind = 3 then [] else t.name
def tailV (t : VT) : Str := if t.kind = 3 then [40, 41] else if t.kind = 4 ∧ t.kids ≠ [] then 40 :: Go.Lib.join (t.kids.map textV) [44, 32] ++ [41] else []
theorem fine_cases {t : VT} (h : fine t = true) : (t.kind = 1 ∧ t.name = [] ∧ t.kids = []) ∨ (t.kind = 2 ∧ t.name = [] ∧ t.kids = [] ∧ (t.n = 0 ∨ t.n = 1)) ∨ (t.kind = 3 ∧ t.name = [] ∧ t.kids = [] ∧ t.n = 0) ∨
    (t.kind = 4 ∧ t.n = 0 ∧ largeS t.name = true ∧ ∀ u ∈ t.kids, fine u = true) := by
  have key : ∀ l : List VT, shapeL false l = true → namedL l = true → ∀ u ∈ l, fine u = true := by
    intro l
    induction l with
    | nil => intro _ _ u hu; cases hu
    | cons x xs ih =>
      intro h1 h2 u hu
      simp only [shapeL, namedL, Bool.and_eq_true] at h1 h2
      rcases List.mem_cons.1 hu with rfl | hu
      · unfold fine; rw [h1.1, h2.1]; rfl
      · exact ih h1.2 h2.2 u hu
  unfold fine at h
  rw [shapeV_eq, namedV_eq, Bool.and_eq_true] at h
  obtain ⟨h1, h2⟩ := h
  unfold shapeB at h1
  by_cases h4 : t.kind = 4
  · rw [if_pos h4] at h1
    simp only [h4, decide_true, Bool.true_and, Bool.not_not, Bool.and_eq_true, decide_eq_true_eq] at h1 h2
    exact .inr (.inr (.inr ⟨h4, h1.1.2, h2.1, key _ h1.2 h2.2⟩))
  · rw [if_neg h4] at h1
    simp only [Bool.and_eq_true, decide_eq_true_eq, Bool.or_eq_true, Bool.false_and, Bool.or_false] at h1
    obtain ⟨⟨hs, hl⟩, h3⟩ := h1
    have hk := List.eq_nil_of_length_eq_zero hl
    rcases h3 with (h3 | h3) | h3
    · exact .inl ⟨h3, hs, hk⟩
    · exact .inr (.inl ⟨h3.1, hs, hk, h3.2⟩)
    · exact .inr (.inr (.inl ⟨h3.1, hs, hk, h3.2⟩))
theorem text_split {t : VT} (h : fine t = true) : textV t = wordV t ++ tailV t := by
  rw [textV_eq]; unfold textB wordV tailV
  rcases fine_cases h with ⟨hk, _, _⟩ | ⟨hk, _, _, _⟩ | ⟨hk, _, _, _⟩ | ⟨hk, _, _, _⟩
  · simp [hk]
  · simp [hk]
  · simp [hk]
  · simp only [hk]
    by_cases hks : t.kids = []
    · simp [hks]
    · have : ¬ (t.kids.map textV).length = 0 := by simpa using hks
      simp [hks]
theorem word_wb {t : VT} (h : fine t = true) : (wordV t).all wb = true := by
  unfold wordV
  rcases fine_cases h with ⟨hk, _, _⟩ | ⟨hk, _, _, hn⟩ | ⟨hk, _, _, _⟩ | ⟨hk, _, hl, _⟩
  · simp only [hk]; exact itoa_wb _
  · simp only [hk]; rcases hn with hn | hn <;> rw [hn, if_neg (by decide), if_pos trivial] <;> decide
  · simp [hk]
  · simp only [hk]; exact (large_wb hl).1
theorem tail_stop {t : VT} {r : Str} (hr : stop r = true) : stop (tailV t ++ r) = true := by
  unfold tailV
  split
  · rfl
  · split
    · rfl
    · exact hr
/-- What may follow behind a value: nothing, a comma, or what closes. -/
def ends : Str → Bool
  | [] => true
  | b :: _ => decide (b = 44) || decide (b = 41)
theorem ends_stop {r : Str} (h : ends r = true) : stop r = true := by
  cases r with
  | nil => rfl
  | cons b r =>
    simp only [ends, Bool.or_eq_true, decide_eq_true_eq] at h
    rcases h with rfl | rfl <;> rfl
theorem kids_inj {ks : List VT} (hk : ∀ u ∈ ks, ∀ u' r r', fine u' = true → ends r = true → ends r' = true → textV u ++ r = textV u' ++ r' → u = u' ∧ r = r') :
    ∀ (ks' : List VT) (r r' : Str), ks ≠ [] → ks' ≠ [] → (∀ u ∈ ks', fine u = true) → Go.Lib.join (ks.map textV) [44, 32] ++ 41 :: r = Go.Lib.join (ks'.map textV) [44, 32] ++ 41 :: r' → ks = ks' ∧ r = r' := by
  induction ks with
  | nil => intro _ _ _ h; exact absurd rfl h
  | cons x xs ih =>
    intro ks' r r' _ h0 hf h
    cases ks' with
    | nil => exact absurd rfl h0
    | cons y ys =>
      have hx := hk x (.head _) y
      have hy := hf y (.head _)
      have ih := ih fun u hu => hk u (.tail _ hu)
      cases xs with
      | nil =>
        cases ys with
        | nil =>
          simp only [List.map_cons, List.map_nil, Go.Lib.join_one] at h
          obtain ⟨e1, e2⟩ := hx _ _ hy rfl rfl h
          simp only [List.cons.injEq, true_and] at e2
          exact ⟨by rw [e1], e2⟩
        | cons y2 ys =>
          simp only [List.map_cons, List.map_nil, Go.Lib.join_one, join_two, List.append_assoc, List.cons_append, List.nil_append] at h
          obtain ⟨e1, e2⟩ := hx _ _ hy rfl rfl h
          simp at e2
      | cons x2 xs =>
        cases ys with
        | nil =>
          simp only [List.map_cons, List.map_nil, Go.Lib.join_one, join_two, List.append_assoc, List.cons_append, List.nil_append] at h
          obtain ⟨e1, e2⟩ := hx _ _ hy rfl rfl h
          simp at e2
        | cons y2 ys =>
          simp only [List.map_cons, join_two, List.append_assoc, List.cons_append, List.nil_append] at h
          obtain ⟨e1, e2⟩ := hx _ _ hy rfl rfl h
          simp only [List.cons.injEq, true_and] at e2
          obtain ⟨e3, e4⟩ := ih (y2 :: ys) r r' (by simp) (by simp) (fun u hu => hf u (.tail _ hu)) (by simpa only [List.map_cons] using e2)
          exact ⟨by rw [e1, e3], e4⟩
theorem head_ne {w w' : Str} {b c : UInt8} {l l' : Str} (h1 : w = b :: l) (h2 : w' = c :: l') (h : b ≠ c) : w ≠ w' := fun e => by
  rw [h1, h2] at e; injection e with e; exact h e
theorem text_inj (t : VT) : ∀ (u : VT) (r r' : Str), fine t = true → fine u = true → ends r = true → ends r' = true → textV t ++ r = textV u ++ r' → t = u ∧ r = r' := by
  induction t using VT.rec_ with
  | h t ih =>
    intro u r r' ht hu hr hr' h
    rw [text_split ht, text_split hu, List.append_assoc, List.append_assoc] at h
    obtain ⟨hw, htl⟩ := span_inj _ _ _ _ (word_wb ht) (word_wb hu) (tail_stop (ends_stop hr)) (tail_stop (ends_stop hr')) h
    have big : ∀ b : UInt8, bigs.contains b = true → ¬ digB b ∧ b ≠ 45 ∧ b ≠ 116 ∧ b ≠ 102 := fun b hb => by
      have key : ∀ l : List UInt8, (l.all fun b => !(decide (48 ≤ b.toNat) && decide (b.toNat ≤ 57)) && decide (b ≠ 45) && decide (b ≠ 116) && decide (b ≠ 102)) = true → l.contains b = true → ¬ digB b ∧ b ≠ 45 ∧ b ≠ 116 ∧ b ≠ 102 := fun l hl hb => by
        have := List.all_eq_true.1 hl b (by simpa using hb)
        simp only [Bool.and_eq_true, Bool.not_eq_true', Bool.and_eq_false_iff, decide_eq_true_eq, decide_eq_false_iff_not] at this
        exact ⟨fun ⟨h1, h2⟩ => by omega, this.1.1.2, this.1.2, this.2⟩
      exact key bigs (by decide) hb
    have ebool : ∀ n : Int, ∃ b l, formatBool (decide (n = 1)) = b :: l ∧ (b = 116 ∨ b = 102) := fun n => by
      by_cases hn : n = 1
      · exact ⟨116, [114, 117, 101], by simp only [hn]; decide, .inl rfl⟩
      · exact ⟨102, [97, 108, 115, 101], by simp only [hn]; decide, .inr rfl⟩
    have hd : ∀ b : UInt8, (b = 45 ∨ digB b) → b ≠ 116 ∧ b ≠ 102 := fun b hb => by
      rcases hb with rfl | hb
      · decide
      · exact ⟨fun e => by subst e; exact absurd hb.2 (by decide), fun e => by subst e; exact absurd hb.2 (by decide)⟩
    have mkeq : ∀ k n s ks, t = ⟨k, n, s, ks⟩ ↔ t.kind = k ∧ t.n = n ∧ t.name = s ∧ t.kids = ks := fun k n s ks => by obtain ⟨a, b, c, d⟩ := t; simp [VT.kind, VT.n, VT.name, VT.kids]
    have ueta : u = ⟨u.kind, u.n, u.name, u.kids⟩ := by obtain ⟨a, b, c, d⟩ := u; rfl
    obtain ⟨bt, lt, et, ht0⟩ := itoa_head t.n
    obtain ⟨bu, lu, eu, hu0⟩ := itoa_head u.n
    obtain ⟨ct, mt, ft, gt⟩ := ebool t.n
    obtain ⟨cu, mu, fu, gu⟩ := ebool u.n
    rcases fine_cases ht with ⟨k1, n1, s1⟩ | ⟨k1, n1, s1, b1⟩ | ⟨k1, n1, s1, b1⟩ | ⟨k1, n1, l1, f1⟩ <;>
    rcases fine_cases hu with ⟨k2, n2, s2⟩ | ⟨k2, n2, s2, b2⟩ | ⟨k2, n2, s2, b2⟩ | ⟨k2, n2, l2, f2⟩ <;>
    simp only [wordV, k1, k2] at hw <;> simp only [tailV, k1, k2] at htl
    · exact ⟨by rw [ueta, mkeq]; exact ⟨by rw [k1, k2], itoa_inj hw, by rw [n1, n2], by rw [s1, s2]⟩, by simpa using htl⟩
    · exfalso; simp at hw; rw [et, fu] at hw; injection hw with e _; have := hd bt ht0; rw [e] at this; rcases gu with rfl | rfl <;> simp at this
    · exfalso; simp at hw; rw [et] at hw; cases hw
    · exfalso; simp at hw; obtain ⟨_, b, l, e, hb⟩ := large_wb l2; rw [et, e] at hw; injection hw with e1 _; have := big b hb; rw [← e1] at this; rcases ht0 with h0 | h0; exact this.2.1 h0; exact this.1 h0
    · exfalso; simp at hw; rw [ft, eu] at hw; injection hw with e _; have := hd bu hu0; rw [← e] at this; rcases gt with rfl | rfl <;> simp at this
    · refine ⟨?_, by simpa using htl⟩
      rw [ueta, mkeq]; refine ⟨by rw [k1, k2], ?_, by rw [n1, n2], by rw [s1, s2]⟩
      rw [if_neg (by decide), if_pos trivial, if_neg (by decide), if_pos trivial] at hw
      rcases b1 with b1 | b1 <;> rcases b2 with b2 | b2 <;> rw [b1, b2] <;> rw [b1, b2] at hw <;> exact absurd hw (by decide)
    · exfalso; simp at hw; rw [ft] at hw; cases hw
    · exfalso; simp at hw; obtain ⟨_, b, l, e, hb⟩ := large_wb l2; rw [ft, e] at hw; injection hw with e1 _; have := big b hb; rw [← e1] at this; rcases gt with h0 | h0; exact this.2.2.1 h0; exact this.2.2.2 h0
    · exfalso; simp at hw; rw [eu] at hw; cases hw
    · exfalso; simp at hw; rw [fu] at hw; cases hw
    · refine ⟨?_, by simpa using htl⟩
      rw [ueta, mkeq]; exact ⟨by rw [k1, k2], by rw [b1, b2], by rw [n1, n2], by rw [s1, s2]⟩
    · exfalso; simp at hw; obtain ⟨_, b, l, e, hb⟩ := large_wb l2; rw [e] at hw; cases hw
    · exfalso; simp at hw; obtain ⟨_, b, l, e, hb⟩ := large_wb l1; rw [eu, e] at hw; injection hw with e1 _; have := big b hb; rw [e1] at this; rcases hu0 with h0 | h0; exact this.2.1 h0; exact this.1 h0
    · exfalso; simp at hw; obtain ⟨_, b, l, e, hb⟩ := large_wb l1; rw [fu, e] at hw; injection hw with e1 _; have := big b hb; rw [e1] at this; rcases gu with h0 | h0; exact this.2.2.1 h0; exact this.2.2.2 h0
    · exfalso; simp at hw; obtain ⟨_, b, l, e, hb⟩ := large_wb l1; rw [e] at hw; cases hw
    · simp at hw
      by_cases q1 : t.kids = [] <;> by_cases q2 : u.kids = []
      · refine ⟨?_, by simpa [q1, q2] using htl⟩
        rw [ueta, mkeq]; exact ⟨by rw [k1, k2], by rw [n1, n2], hw, by rw [q1, q2]⟩
      · exfalso; simp [q1, q2] at htl; subst htl; simp [ends] at hr
      · exfalso; simp [q1, q2] at htl; subst htl; simp [ends] at hr'
      · simp [q1, q2] at htl
        obtain ⟨e1, e2⟩ := kids_inj (fun x hx u' r r' hu' h1 h2 h3 => ih x hx u' r r' (f1 x hx) hu' h1 h2 h3) u.kids r r' q1 q2 f2 htl
        exact ⟨by rw [ueta, mkeq]; exact ⟨by rw [k1, k2], by rw [n1, n2], hw, e1⟩, e2⟩
theorem texts_same {t u : VT} (ht : fine t = true) (hu : fine u = true) (h : textV t = textV u) : t = u := (text_inj t u [] [] ht hu rfl rfl (by rw [h])).1

end Go.Proofs.YtineijefefjpeaaDoor
