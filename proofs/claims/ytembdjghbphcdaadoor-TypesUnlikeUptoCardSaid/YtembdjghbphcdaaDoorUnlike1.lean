/-
  Unlike right types with plain names have unlike texts: nothing but lists. Conditions: those of each theorem.
-/
import Derived.Test.YtembdjghbphcdaaDoorRefText
namespace Go.Proofs.YtembdjghbphcdaaDoor
set_option linter.all false
set_option maxRecDepth 4000
open Go.RowKit
open Go.Lib (itoa decDigits)
/-- A byte of a number. -/
def digB (b : UInt8) : Prop := 48 ≤ b.toNat ∧ b.toNat ≤ 57
theorem byte_nat {k : Nat} (h : k < 10) : (UInt8.ofNat (48 + k)).toNat = 48 + k := by
  rw [UInt8.toNat_ofNat']; omega
theorem dec_dig (n : Nat) : ∀ b ∈ decDigits n, digB b := by
  induction n using Nat.strongRecOn with
  | ind n ih =>
    intro b hb
    rw [dec_eq] at hb
    split at hb
    · rename_i h
      rw [List.mem_singleton] at hb; subst hb
      have := byte_nat h
      exact ⟨by omega, by omega⟩
    · rw [List.mem_append, List.mem_singleton] at hb
      rcases hb with hb | hb
      · exact ih (n / 10) (by omega) b hb
      · subst hb
        have := byte_nat (k := n % 10) (by omega)
        exact ⟨by omega, by omega⟩
theorem dec_ne (n : Nat) : decDigits n ≠ [] := by rw [dec_eq]; split <;> simp
theorem byte_inj {j k : Nat} (hj : j < 10) (hk : k < 10) (h : UInt8.ofNat (48 + j) = UInt8.ofNat (48 + k)) : j = k := by
  have h1 := byte_nat hj; have h2 := byte_nat hk; rw [h] at h1; omega
theorem dec_inj (n : Nat) : ∀ m, decDigits n = decDigits m → n = m := by
  induction n using Nat.strongRecOn with
  | ind n ih =>
    intro m h
    rw [dec_eq n, dec_eq m] at h
    split at h <;> split at h
    · simp only [List.cons.injEq, and_true] at h; exact byte_inj (by omega) (by omega) h
    · have := congrArg List.length h
      simp only [List.length_append, List.length_cons, List.length_nil] at this
      have h2 := dec_ne (m / 10)
      have := List.length_pos_iff.2 h2; omega
    · have := congrArg List.length h
      simp only [List.length_append, List.length_cons, List.length_nil] at this
      have h2 := dec_ne (n / 10)
      have := List.length_pos_iff.2 h2; omega
    · obtain ⟨h1, h2⟩ := List.append_inj' h rfl
      have e1 := ih (n / 10) (by omega) _ h1
      simp only [List.cons.injEq, and_true] at h2
      have e2 := byte_inj (by omega) (by omega) h2
      omega
theorem itoa_inj {n m : Int} (h : itoa n = itoa m) : n = m := by
  unfold itoa at h
  have hh : ∀ (k : Nat) (l : List UInt8), 45 :: l ≠ decDigits k := fun k l e => by
    have := dec_dig k 45 (by rw [← e]; exact .head _)
    have h1 := this.1
    have : (45 : UInt8).toNat = 45 := rfl
    omega
  split at h <;> split at h
  · simp only [List.cons.injEq, true_and] at h; have := dec_inj _ _ h; omega
  · exact absurd h (hh _ _)
  · exact absurd h.symm (hh _ _)
  · have := dec_inj _ _ h; omega
def upB (c : UInt8) : Bool := decide (65 ≤ c.toNat) && decide (c.toNat ≤ 90)
def upS (s : Str) : Bool := s.all upB
mutual
def plainT : Ty → Bool
  | ⟨_, nm, _, ts, ls, _⟩ => ls.all upS && upS nm && plainTs ts
def plainTs : List Ty → Bool
  | [] => true
  | t :: ts => plainT t && plainTs ts
end
theorem plainT_eq (t : Ty) : plainT t = (t.labels.all upS && upS t.name && plainTs t.args) := by obtain ⟨k, n, v, ts, ls, r⟩ := t; rw [plainT]; rfl
theorem right_full {t : Ty} (h : rightT t = true) : (t = ⟨1, [], 0, [], [], 0⟩ ∨ t = ⟨2, [], 0, [], [], 0⟩ ∨ t = ⟨3, [], 0, [], [], 0⟩) ∨ (∃ nm, nm ≠ [] ∧ t = ⟨4, nm, 0, [], [], 0⟩) ∨ (∃ v, 1 ≤ v ∧ t = ⟨7, [], v, [], [], 0⟩) ∨
    (∃ x, rightT x = true ∧ t = ⟨6, [], 0, [x], [], 0⟩) ∨ (∃ x z ls rv, rightT x = true ∧ rightT z = true ∧ rowOk ls rv = true ∧ t = ⟨5, [], 0, [x, z], ls, rv⟩) := by
  have hr := right_cases h
  rw [rightT_eq] at h
  unfold rightTB at h
  split at h
  · cases h
  · rename_i hc
    have hv : t.kind = 7 ∨ t.var = 0 := by
      split at h
      · rename_i h7; exact .inl h7
      · split at h
        · simp only [Bool.and_eq_true, decide_eq_true_eq] at h; exact .inr h.1.1.1
        · cases h
    clear h
    obtain ⟨k, nm, v, ts, ls, rv⟩ := t
    simp only [Ty.kind, Ty.name, Ty.var, Ty.args, Ty.labels, Ty.rv] at hc hv hr
    rcases hr with ⟨hk, rfl⟩ | ⟨rfl, rfl, hn⟩ | ⟨rfl, rfl, hv1⟩ | ⟨rfl, x, rfl, hx⟩ | ⟨rfl, x, z, rfl, hx, hz, hro⟩
    · left
      rcases hk with rfl | rfl | rfl <;> simp_all
    · right; left; exact ⟨nm, hn, by simp_all⟩
    · right; right; left; exact ⟨v, hv1, by simp_all⟩
    · right; right; right; left; exact ⟨x, hx, by simp_all⟩
    · right; right; right; right; exact ⟨x, z, ls, rv, hx, hz, hro, by simp_all⟩
theorem span (p : UInt8 → Bool) : ∀ (a b r s : Str), a.all p = true → b.all p = true → (∀ c ∈ r.head?, p c = false) → (∀ c ∈ s.head?, p c = false) → a ++ r = b ++ s → a = b ∧ r = s
  | [], [], r, s, _, _, _, _, h => ⟨rfl, h⟩
  | [], c :: b, r, s, _, hb, hr, _, h => by
    simp only [List.all_cons, Bool.and_eq_true] at hb
    simp only [List.nil_append] at h
    subst h
    have := hr c rfl
    rw [hb.1] at this; cases this
  | c :: a, [], r, s, ha, _, _, hs, h => by
    simp only [List.all_cons, Bool.and_eq_true] at ha
    simp only [List.nil_append] at h
    subst h
    have := hs c rfl
    rw [ha.1] at this; cases this
  | c :: a, d :: b, r, s, ha, hb, hr, hs, h => by
    simp only [List.all_cons, Bool.and_eq_true] at ha hb
    simp only [List.cons_append, List.cons.injEq] at h
    obtain ⟨h1, h2⟩ := span p a b r s ha.2 hb.2 hr hs h.2
    exact ⟨by rw [h.1, h1], h2⟩
theorem tail_inj : ∀ (l k : List Str), (∀ s ∈ l, upS s = true) → (∀ s ∈ k, upS s = true) → Go.Lib.joinTail [44] l = Go.Lib.joinTail [44] k → l = k
  | [], [], _, _, _ => rfl
  | [], y :: k, _, _, h => by simp [Go.Lib.joinTail] at h
  | x :: l, [], _, _, h => by simp [Go.Lib.joinTail] at h
  | x :: l, y :: k, hl, hk, h => by
    have h2 : x ++ Go.Lib.joinTail [44] l = y ++ Go.Lib.joinTail [44] k := by simpa [Go.Lib.joinTail] using h
    have hd : ∀ (q : List Str), ∀ c ∈ (Go.Lib.joinTail [44] q).head?, upB c = false := by
      intro q c hc
      cases q with
      | nil => simp [Go.Lib.joinTail] at hc
      | cons z q => simp [Go.Lib.joinTail] at hc; subst hc; decide
    obtain ⟨h3, h4⟩ := span upB _ _ _ _ (hl x (.head _)) (hk y (.head _)) (hd l) (hd k) h2
    rw [h3, tail_inj l k (fun s hs => hl s (.tail _ hs)) (fun s hs => hk s (.tail _ hs)) h4]
theorem join_head {x : Str} {l : List Str} (hx : x ≠ []) : Go.Lib.join (x :: l) [44] ≠ [] := by rw [Go.Lib.join_cons]; simp [hx]
theorem join_inj {l k : List Str} (hl : ∀ s ∈ l, upS s = true) (hk : ∀ s ∈ k, upS s = true) (hl0 : ∀ s ∈ l, s ≠ []) (hk0 : ∀ s ∈ k, s ≠ []) (h : Go.Lib.join l [44] = Go.Lib.join k [44]) : l = k := by
  cases l with
  | nil => cases k with
    | nil => rfl
    | cons y k => exact absurd h.symm (join_head (hk0 y (.head _)))
  | cons x l => cases k with
    | nil => exact absurd h (join_head (hl0 x (.head _)))
    | cons y k =>
      rw [Go.Lib.join_cons, Go.Lib.join_cons] at h
      have hd : ∀ (q : List Str), ∀ c ∈ (Go.Lib.joinTail [44] q).head?, upB c = false := by
        intro q c hc
        cases q with
        | nil => simp [Go.Lib.joinTail] at hc
        | cons z q => simp [Go.Lib.joinTail] at hc; subst hc; decide
      obtain ⟨h3, h4⟩ := span upB _ _ _ _ (hl x (.head _)) (hk y (.head _)) (hd l) (hd k) h
      rw [h3, tail_inj l k (fun s hs => hl s (.tail _ hs)) (fun s hs => hk s (.tail _ hs)) h4]
def digC (b : UInt8) : Bool := decide (48 ≤ b.toNat) && decide (b.toNat ≤ 57)
theorem itoa_dig {v : Int} (h : 0 ≤ v) : (itoa v).all digC = true := by
  unfold itoa; rw [if_neg (by omega), List.all_eq_true]
  intro b hb
  have := dec_dig _ b hb
  simp [digC, this.1, this.2]
theorem itoa_uniq {v u : Int} {r s : Str} (hv : 0 ≤ v) (hu : 0 ≤ u) (hr : ∀ c ∈ r.head?, digC c = false) (hs : ∀ c ∈ s.head?, digC c = false) (h : itoa v ++ r = itoa u ++ s) : v = u ∧ r = s := by
  obtain ⟨h1, h2⟩ := span digC _ _ _ _ (itoa_dig hv) (itoa_dig hu) hr hs h
  exact ⟨itoa_inj h1, h2⟩
def fol : Str → Bool
  | [] => true
  | c :: _ => decide (c = 41) || decide (c = 32)
def fol1 : Str → Bool
  | [] => true
  | c :: _ => decide (c = 41)
theorem fol_of {r : Str} (h : fol1 r = true) : fol r = true := by
  cases r with
  | nil => rfl
  | cons c r => simp only [fol1] at h; simp only [fol, h, Bool.true_or]
theorem fol_head {r : Str} (h : fol r = true) {p : UInt8 → Bool} (h1 : p 41 = false) (h2 : p 32 = false) : ∀ c ∈ r.head?, p c = false := by
  cases r with
  | nil => intro c hc; cases hc
  | cons d r =>
    intro c hc
    simp only [List.head?_cons, Option.mem_def, Option.some.injEq] at hc
    subst hc
    simp only [fol, Bool.or_eq_true, decide_eq_true_eq] at h
    rcases h with rfl | rfl
    · exact h1
    · exact h2
theorem tx1 : textT ⟨1, [], 0, [], [], 0⟩ = [105, 110, 116] := by simp [textT]
theorem tx2 : textT ⟨2, [], 0, [], [], 0⟩ = [98, 111, 111, 108] := by simp [textT]
theorem tx3 : textT ⟨3, [], 0, [], [], 0⟩ = [117, 110, 105, 116] := by simp [textT]
theorem tx4 (nm : Str) : textT ⟨4, nm, 0, [], [], 0⟩ = nm := by simp [textT, textTs]
theorem tx7 (v : Int) : textT ⟨7, [], v, [], [], 0⟩ = 39 :: itoa v := by simp [textT]
theorem tx6 (x : Ty) : textT ⟨6, [], 0, [x], [], 0⟩ = 114 :: 101 :: 102 :: 32 :: parS (decide (x.kind = 5 ∨ x.kind = 6)) (textT x) := by simp [textT, textTs]
theorem tx5 (x z : Ty) (ls : List Str) (rv : Int) : textT ⟨5, [], 0, [x, z], ls, rv⟩ = parS (decide (x.kind = 5)) (textT x) ++ (32 :: 45 :: 62 :: 32 :: (rowTextS ls rv ++ textT z)) := by simp [textT, textTs]
/-- What a type's text begins with. -/
theorem text_head {t : Ty} (h : rightT t = true) (hp : plainT t = true) : ∃ c l, textT t = c :: l ∧ c ≠ 60 ∧ (t.kind ≠ 5 → c ≠ 40) := by
  induction t using Ty.rec_ with
  | h t ih =>
    rcases right_full h with (rfl | rfl | rfl) | ⟨nm, hn, rfl⟩ | ⟨v, hv, rfl⟩ | ⟨x, hx, rfl⟩ | ⟨x, z, ls, rv, hx, hz, hro, rfl⟩
    · exact ⟨_, _, tx1, by decide, fun _ => by decide⟩
    · exact ⟨_, _, tx2, by decide, fun _ => by decide⟩
    · exact ⟨_, _, tx3, by decide, fun _ => by decide⟩
    · rw [tx4]
      rw [plainT_eq] at hp
      cases nm with
      | nil => exact absurd rfl hn
      | cons c nm =>
        simp only [Ty.name, upS, List.all_cons, Bool.and_eq_true] at hp
        refine ⟨c, nm, rfl, ?_, fun _ => ?_⟩
        · rintro rfl; exact absurd hp.1.2.1 (by decide)
        · rintro rfl; exact absurd hp.1.2.1 (by decide)
    · exact ⟨_, _, tx7 v, by decide, fun _ => by decide⟩
    · exact ⟨_, _, tx6 x, by decide, fun _ => by decide⟩
    · rw [tx5]
      rw [plainT_eq] at hp
      simp only [Ty.args, plainTs, Bool.and_eq_true] at hp
      obtain ⟨c, l, e, h1, h2⟩ := ih x (.head _) hx hp.2.1
      unfold parS
      split
      · exact ⟨40, _, rfl, by decide, fun h5 => absurd rfl h5⟩
      · exact ⟨c, _, by rw [e]; rfl, h1, fun h5 => absurd rfl h5⟩
theorem row_ok {ls : List Str} {rv : Int} (h : rowOk ls rv = true) : 0 ≤ rv ∧ ∀ s ∈ ls, s ≠ [] := by
  unfold rowOk at h
  simp only [Bool.and_eq_true, decide_eq_true_eq, Bool.not_eq_true', List.contains_eq_mem] at h
  refine ⟨h.1.1, fun s hs e => ?_⟩
  subst e
  simp [hs] at h
theorem join_all (l : List Str) (h : ∀ s ∈ l, upS s = true) : (Go.Lib.join l [44]).all (fun c => upB c || decide (c = 44)) = true := by
  have hu : ∀ s, upS s = true → s.all (fun c => upB c || decide (c = 44)) = true := fun s hs => by
    rw [List.all_eq_true] at *
    intro c hc
    have := (List.all_eq_true.1 hs) c hc
    simp [this]
  cases l with
  | nil => rfl
  | cons x l =>
    rw [Go.Lib.join_cons, List.all_append, hu x (h x (.head _)), Bool.true_and]
    unfold Go.Lib.joinTail
    rw [List.all_eq_true]
    intro c hc
    rw [List.mem_flatten] at hc
    obtain ⟨q, hq, hcq⟩ := hc
    rw [List.mem_map] at hq
    obtain ⟨s, hs, rfl⟩ := hq
    rw [List.mem_append, List.mem_singleton] at hcq
    rcases hcq with rfl | hcq
    · simp
    · exact List.all_eq_true.1 (hu s (h s (.tail _ hs))) c hcq
theorem row_uniq {ls k : List Str} {v u : Int} {r s : Str} (hl : rowOk ls v = true) (hk : rowOk k u = true) (pl : ∀ s ∈ ls, upS s = true) (pk : ∀ s ∈ k, upS s = true) (hr : ∀ c ∈ r.head?, c ≠ 60) (hs : ∀ c ∈ s.head?, c ≠ 60)
    (h : rowTextS ls v ++ r = rowTextS k u ++ s) : ls = k ∧ v = u ∧ r = s := by
  obtain ⟨hv, hl0⟩ := row_ok hl
  obtain ⟨hu, hk0⟩ := row_ok hk
  unfold rowTextS at h
  by_cases h1 : ls = [] ∧ v = 0 <;> by_cases h2 : k = [] ∧ u = 0 <;> simp only [h1, h2, and_self, if_true, if_false] at h
  · exact ⟨h1.1.trans h2.1.symm, h1.2.trans h2.2.symm, by simpa using h⟩
  · simp only [List.nil_append, List.append_assoc, List.cons_append] at h
    subst h
    exact absurd rfl (hr 60 rfl)
  · simp only [List.nil_append, List.append_assoc, List.cons_append] at h
    subst h
    exact absurd rfl (hs 60 rfl)
  · simp only [List.append_assoc, List.cons_append, List.nil_append, List.cons.injEq, true_and] at h
    have hd : ∀ (v : Int) (r : Str), ∀ c ∈ ((if 0 < v then 124 :: itoa v else ([] : Str)) ++ 62 :: 32 :: r).head?, (upB c || decide (c = 44)) = false := by
      intro v r c hc
      split at hc
      · simp only [List.cons_append, List.head?_cons, Option.mem_def, Option.some.injEq] at hc; subst hc; decide
      · simp only [List.nil_append, List.head?_cons, Option.mem_def, Option.some.injEq] at hc; subst hc; decide
    obtain ⟨h1, h2⟩ := span _ _ _ _ _ (join_all ls pl) (join_all k pk) (hd v r) (hd u s) h
    refine ⟨join_inj pl pk hl0 hk0 h1, ?_⟩
    split at h2 <;> split at h2
    · simp only [List.cons_append, List.cons.injEq, true_and] at h2
      obtain ⟨h3, h4⟩ := itoa_uniq hv hu (by intro c hc; simp at hc; subst hc; decide) (by intro c hc; simp at hc; subst hc; decide) h2
      exact ⟨h3, by simpa using h4⟩
    · simp at h2
    · simp at h2
    · exact ⟨by omega, by simpa using h2⟩
theorem kind_simple {t : Ty} (h : rightT t = true) : t.kind = 5 ∨ t.kind ≠ 5 := by omega
def Uniq (a : Ty) : Prop := ∀ (b : Ty) (r s : Str), rightT b = true → plainT b = true → textT a ++ r = textT b ++ s → ((a.kind ≠ 5 ∧ b.kind ≠ 5 ∧ fol r = true ∧ fol s = true) ∨ (fol1 r = true ∧ fol1 s = true)) → a = b ∧ r = s
theorem par_uniq {x y : Ty} {p q : Bool} {r s : Str} (hx : rightT x = true) (px : plainT x = true) (hy : rightT y = true) (py : plainT y = true) (hu : Uniq x) (hp : x.kind = 5 → p = true) (hq : y.kind = 5 → q = true) (hr : fol r = true) (hs : fol s = true)
    (h : parS p (textT x) ++ r = parS q (textT y) ++ s) : x = y ∧ r = s := by
  unfold parS at h
  split at h <;> split at h
  · simp only [List.append_assoc, List.cons_append, List.nil_append, List.cons.injEq, true_and] at h
    obtain ⟨h1, h2⟩ := hu y _ _ hy py h (.inr ⟨rfl, rfl⟩)
    exact ⟨h1, by simpa using h2⟩
  · rename_i h1 h2
    obtain ⟨c, l, e, -, hc⟩ := text_head hy py
    rw [e] at h
    simp only [List.append_assoc, List.cons_append, List.nil_append, List.cons.injEq] at h
    exact absurd h.1.symm (hc (fun h5 => h2 (hq h5)))
  · rename_i h1 h2
    obtain ⟨c, l, e, -, hc⟩ := text_head hx px
    rw [e] at h
    simp only [List.append_assoc, List.cons_append, List.nil_append, List.cons.injEq] at h
    exact absurd h.1 (hc (fun h5 => h1 (hp h5)))
  · rename_i h1 h2
    exact hu y _ _ hy py h (.inl ⟨fun h5 => h1 (hp h5), fun h5 => h2 (hq h5), hr, hs⟩)
theorem text_uniq (a : Ty) : rightT a = true → plainT a = true → Uniq a := by
  induction a using Ty.rec_ with
  | h a ih =>
    intro ra pa
    have simple : a.kind ≠ 5 → ∀ (b : Ty) (r s : Str), rightT b = true → plainT b = true → textT a ++ r = textT b ++ s → b.kind ≠ 5 → fol r = true → fol s = true → a = b ∧ r = s := by
      intro ka b r s rb pb h kb hr hs
      have hdr := fol_head hr (p := upB) (by decide) (by decide)
      have hds := fol_head hs (p := upB) (by decide) (by decide)
      have hnr := fol_head hr (p := digC) (by decide) (by decide)
      have hns := fol_head hs (p := digC) (by decide) (by decide)
      have up : ∀ {nm : Str}, nm ≠ [] → plainT ⟨4, nm, 0, [], [], 0⟩ = true → upS nm = true ∧ ∃ c l, nm = c :: l ∧ upB c = true := by
        intro nm hn hp
        rw [plainT_eq] at hp
        simp only [Ty.name, Bool.and_eq_true] at hp
        refine ⟨hp.1.2, ?_⟩
        cases nm with
        | nil => exact absurd rfl hn
        | cons c l => have := hp.1.2; simp only [upS, List.all_cons, Bool.and_eq_true] at this; exact ⟨c, l, rfl, this.1⟩
      rcases right_full ra with (rfl | rfl | rfl) | ⟨nm, hn, rfl⟩ | ⟨v, hv, rfl⟩ | ⟨x, hx, rfl⟩ | ⟨x, z, ls, rv, hx, hz, hro, rfl⟩
      · rcases right_full rb with (rfl | rfl | rfl) | ⟨nm', hn', rfl⟩ | ⟨v', hv', rfl⟩ | ⟨x', hx', rfl⟩ | ⟨x', z', ls', rv', hx', hz', hro', rfl⟩
        · simp only [tx1] at h; exact ⟨rfl, by simpa using h⟩
        · simp [tx1, tx2] at h
        · simp [tx1, tx3] at h
        · obtain ⟨-, c, l, rfl, hc⟩ := up hn' pb; simp [tx1, tx4] at h; rw [← h.1] at hc; exact absurd hc (by decide)
        · simp [tx1, tx7] at h
        · simp [tx1, tx6] at h
        · exact absurd rfl kb
      · rcases right_full rb with (rfl | rfl | rfl) | ⟨nm', hn', rfl⟩ | ⟨v', hv', rfl⟩ | ⟨x', hx', rfl⟩ | ⟨x', z', ls', rv', hx', hz', hro', rfl⟩
        · simp [tx1, tx2] at h
        · simp only [tx2] at h; exact ⟨rfl, by simpa using h⟩
        · simp [tx2, tx3] at h
        · obtain ⟨-, c, l, rfl, hc⟩ := up hn' pb; simp [tx2, tx4] at h; rw [← h.1] at hc; exact absurd hc (by decide)
        · simp [tx2, tx7] at h
        · simp [tx2, tx6] at h
        · exact absurd rfl kb
      · rcases right_full rb with (rfl | rfl | rfl) | ⟨nm', hn', rfl⟩ | ⟨v', hv', rfl⟩ | ⟨x', hx', rfl⟩ | ⟨x', z', ls', rv', hx', hz', hro', rfl⟩
        · simp [tx1, tx3] at h
        · simp [tx2, tx3] at h
        · simp only [tx3] at h; exact ⟨rfl, by simpa using h⟩
        · obtain ⟨-, c, l, rfl, hc⟩ := up hn' pb; simp [tx3, tx4] at h; rw [← h.1] at hc; exact absurd hc (by decide)
        · simp [tx3, tx7] at h
        · simp [tx3, tx6] at h
        · exact absurd rfl kb
      · obtain ⟨hu, c, l, hcl, hc⟩ := up hn pa
        rcases right_full rb with (rfl | rfl | rfl) | ⟨nm', hn', rfl⟩ | ⟨v', hv', rfl⟩ | ⟨x', hx', rfl⟩ | ⟨x', z', ls', rv', hx', hz', hro', rfl⟩
        · subst hcl; simp [tx1, tx4] at h; rw [h.1] at hc; exact absurd hc (by decide)
        · subst hcl; simp [tx2, tx4] at h; rw [h.1] at hc; exact absurd hc (by decide)
        · subst hcl; simp [tx3, tx4] at h; rw [h.1] at hc; exact absurd hc (by decide)
        · obtain ⟨hu', -⟩ := up hn' pb
          rw [tx4, tx4] at h
          obtain ⟨e1, e2⟩ := span upB _ _ _ _ hu hu' hdr hds h
          exact ⟨by rw [e1], e2⟩
        · subst hcl; simp [tx7, tx4] at h; rw [h.1] at hc; exact absurd hc (by decide)
        · subst hcl; simp [tx6, tx4] at h; rw [h.1] at hc; exact absurd hc (by decide)
        · exact absurd rfl kb
      · rcases right_full rb with (rfl | rfl | rfl) | ⟨nm', hn', rfl⟩ | ⟨v', hv', rfl⟩ | ⟨x', hx', rfl⟩ | ⟨x', z', ls', rv', hx', hz', hro', rfl⟩
        · simp [tx1, tx7] at h
        · simp [tx2, tx7] at h
        · simp [tx3, tx7] at h
        · obtain ⟨-, c, l, rfl, hc⟩ := up hn' pb; simp [tx7, tx4] at h; rw [← h.1] at hc; exact absurd hc (by decide)
        · simp only [tx7, List.cons_append, List.cons.injEq, true_and] at h
          obtain ⟨e1, e2⟩ := itoa_uniq (by omega) (by omega) hnr hns h
          exact ⟨by rw [e1], e2⟩
        · simp [tx7, tx6] at h
        · exact absurd rfl kb
      · rcases right_full rb with (rfl | rfl | rfl) | ⟨nm', hn', rfl⟩ | ⟨v', hv', rfl⟩ | ⟨x', hx', rfl⟩ | ⟨x', z', ls', rv', hx', hz', hro', rfl⟩
        · simp [tx1, tx6] at h
        · simp [tx2, tx6] at h
        · simp [tx3, tx6] at h
        · obtain ⟨-, c, l, rfl, hc⟩ := up hn' pb; simp [tx6, tx4] at h; rw [← h.1] at hc; exact absurd hc (by decide)
        · simp [tx7, tx6] at h
        · simp only [tx6, List.cons_append, List.cons.injEq, true_and] at h
          rw [plainT_eq] at pa pb
          simp only [Ty.args, plainTs, Bool.and_eq_true] at pa pb
          obtain ⟨e1, e2⟩ := par_uniq hx pa.2.1 hx' pb.2.1 (ih x (.head _) hx pa.2.1) (fun h5 => by simp [h5]) (fun h5 => by simp [h5]) hr hs h
          exact ⟨by rw [e1], e2⟩
        · exact absurd rfl kb
      · exact absurd rfl ka
    intro b r s rb pb h hh
    by_cases ka : a.kind = 5
    · have hf : fol1 r = true ∧ fol1 s = true := by
        rcases hh with h1 | h1
        · exact absurd ka h1.1
        · exact h1
      rcases right_full ra with (rfl | rfl | rfl) | ⟨nm, hn, rfl⟩ | ⟨v, hv, rfl⟩ | ⟨x, hx, rfl⟩ | ⟨x, z, ls, rv, hx, hz, hro, rfl⟩
      all_goals first | (exfalso; simp [Ty.kind] at ka; done) | skip
      rw [plainT_eq] at pa
      simp only [Ty.args, Ty.labels, plainTs, Bool.and_eq_true, List.all_eq_true] at pa
      have ux := ih x (.head _) hx pa.2.1
      have uz := ih z (.tail _ (.head _)) hz pa.2.2.1
      rw [tx5] at h
      simp only [List.append_assoc, List.cons_append] at h
      by_cases kb : b.kind = 5
      · rcases right_full rb with (rfl | rfl | rfl) | ⟨nm', hn', rfl⟩ | ⟨v', hv', rfl⟩ | ⟨x', hx', rfl⟩ | ⟨x', z', ls', rv', hx', hz', hro', rfl⟩
        all_goals first | (exfalso; simp [Ty.kind] at kb; done) | skip
        rw [plainT_eq] at pb
        simp only [Ty.args, Ty.labels, plainTs, Bool.and_eq_true, List.all_eq_true] at pb
        rw [tx5] at h
        simp only [List.append_assoc, List.cons_append] at h
        obtain ⟨e1, e2⟩ := par_uniq hx pa.2.1 hx' pb.2.1 ux (fun h5 => by simp [h5]) (fun h5 => by simp [h5]) rfl rfl h
        simp only [List.cons.injEq, true_and] at e2
        have hd : ∀ (t : Ty) (r : Str), rightT t = true → plainT t = true → ∀ c ∈ (textT t ++ r).head?, c ≠ 60 := by
          intro t r h1 h2 c hc
          obtain ⟨d, l, e, h3, -⟩ := text_head h1 h2
          rw [e] at hc
          simp only [List.cons_append, List.head?_cons, Option.mem_def, Option.some.injEq] at hc
          subst hc; exact h3
        obtain ⟨e3, e4, e5⟩ := row_uniq hro hro' pa.1.1 pb.1.1 (hd z r hz pa.2.2.1) (hd z' s hz' pb.2.2.1) e2
        obtain ⟨e6, e7⟩ := uz z' r s hz' pb.2.2.1 e5 (.inr hf)
        exact ⟨by rw [e1, e3, e4, e6], e7⟩
      · exfalso
        unfold parS at h
        split at h
        · obtain ⟨c, l, e, -, hc⟩ := text_head rb pb
          rw [e] at h
          simp only [List.append_assoc, List.cons_append, List.nil_append, List.cons.injEq] at h
          exact hc kb h.1.symm
        · rename_i h5
          obtain ⟨-, e2⟩ := ux b _ s rb pb h (.inl ⟨by simpa using h5, kb, rfl, fol_of hf.2⟩)
          rw [← e2] at hf; simp [fol1] at hf
    · by_cases kb : b.kind = 5
      · have hf : fol1 r = true ∧ fol1 s = true := by
          rcases hh with h1 | h1
          · exact absurd kb h1.2.1
          · exact h1
        exfalso
        rcases right_full rb with (rfl | rfl | rfl) | ⟨nm', hn', rfl⟩ | ⟨v', hv', rfl⟩ | ⟨x', hx', rfl⟩ | ⟨x', z', ls', rv', hx', hz', hro', rfl⟩
        all_goals first | (exfalso; simp [Ty.kind] at kb; done) | skip
        rw [plainT_eq] at pb
        simp only [Ty.args, Ty.labels, plainTs, Bool.and_eq_true, List.all_eq_true] at pb
        rw [tx5] at h
        simp only [List.append_assoc, List.cons_append] at h
        unfold parS at h
        split at h
        · obtain ⟨c, l, e, -, hc⟩ := text_head ra pa
          rw [e] at h
          simp only [List.append_assoc, List.cons_append, List.nil_append, List.cons.injEq] at h
          exact hc ka h.1
        · rename_i h5
          obtain ⟨-, e2⟩ := simple ka x' r _ hx' pb.2.1 h (by simpa using h5) (fol_of hf.1) rfl
          rw [e2] at hf; simp [fol1] at hf
      · refine simple ka b r s rb pb h kb ?_ ?_
        · rcases hh with h1 | h1
          · exact h1.2.2.1
          · exact fol_of h1.1
        · rcases hh with h1 | h1
          · exact h1.2.2.2
          · exact fol_of h1.2
theorem texts_same {a b : Ty} (ra : rightT a = true) (rb : rightT b = true) (pa : plainT a = true) (pb : plainT b = true) : decide (textT a = textT b) = sameT a b := by
  rw [Bool.eq_iff_iff, decide_eq_true_eq, sameT_iff]
  exact ⟨fun h => (text_uniq a ra pa b [] [] rb pb (by rw [h]) (.inr ⟨rfl, rfl⟩)).1, fun h => by rw [h]⟩

end Go.Proofs.YtembdjghbphcdaaDoor
