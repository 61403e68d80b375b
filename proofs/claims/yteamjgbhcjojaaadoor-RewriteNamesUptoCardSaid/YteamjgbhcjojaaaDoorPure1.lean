/-
  Names that are numbered, terms that are alike: nothing but lists and trees. Conditions: those of each theorem.
-/
import Derived.Test.YteamjgbhcjojaaaDoorTmtree
import Derived.Lib.ItoaNum
namespace Go.Proofs.YteamjgbhcjojaaaDoor
set_option linter.all false
set_option maxRecDepth 4000
open Go.RowKit
open Go.Lib (itoa decDigits)
def us : Str := [95]
/-- Where a name was bound last; -1: nowhere. -/
def lastI (s : Str) : List Str → Nat → Int
  | [], _ => -1
  | x :: l, i => let r := lastI s l (i + 1); if 0 ≤ r then r else if x = s then (i : Int) else -1
def atM (l : List Str) (s : Str) : Int := if s = us then -1 else lastI s l 0
theorem lastI_snoc (s x : Str) : ∀ (l : List Str) (i : Nat), lastI s (l ++ [x]) i = if x = s then ((i + l.length : Nat) : Int) else lastI s l i
  | [], i => by simp [lastI]
  | y :: l, i => by
    simp only [List.cons_append, lastI, lastI_snoc s x l (i + 1), List.length_cons]
    by_cases h : x = s
    · simp only [h, if_true]; rw [if_pos (by omega)]; congr 1; omega
    · simp only [h, if_false]
theorem lastI_range (s : Str) : ∀ (l : List Str) (i : Nat), lastI s l i = -1 ∧ ¬ s ∈ l ∨ ((i : Int) ≤ lastI s l i ∧ lastI s l i < i + l.length ∧ s ∈ l)
  | [], i => .inl ⟨rfl, by simp⟩
  | x :: l, i => by
    simp only [lastI, List.mem_cons, List.length_cons]
    rcases lastI_range s l (i + 1) with ⟨h1, h2⟩ | ⟨h1, h2, h3⟩
    · rw [h1, if_neg (by omega)]
      by_cases hx : x = s
      · rw [if_pos hx]; exact .inr ⟨by omega, by omega, .inl hx.symm⟩
      · rw [if_neg hx]; exact .inl ⟨rfl, fun h => by rcases h with h | h; exact hx h.symm; exact h2 h⟩
    · rw [if_pos (by omega)]; exact .inr ⟨by omega, by omega, .inr h3⟩
theorem atM_nil (s : Str) : atM [] s = -1 := by unfold atM; split <;> rfl
theorem atM_snoc (l : List Str) (x s : Str) : atM (l ++ [x]) s = if x = s ∧ s ≠ us then (l.length : Int) else atM l s := by
  unfold atM
  by_cases h : s = us
  · simp [h]
  · rw [if_neg h, if_neg h, lastI_snoc]
    by_cases hx : x = s
    · rw [if_pos hx, if_pos ⟨hx, h⟩]; congr 1; omega
    · rw [if_neg hx, if_neg (fun e => hx e.1)]
theorem atM_mem (l : List Str) (s : Str) : 0 ≤ atM l s ↔ s ∈ l ∧ s ≠ us := by
  unfold atM
  by_cases h : s = us
  · simp [h]
  · rw [if_neg h]
    rcases lastI_range s l 0 with ⟨h1, h2⟩ | ⟨h1, h2, h3⟩
    · rw [h1]; exact ⟨fun e => by omega, fun e => absurd e.1 h2⟩
    · exact ⟨fun _ => ⟨h3, h⟩, fun _ => by omega⟩
theorem atM_neg (l : List Str) (s : Str) : atM l s < 0 ↔ atM l s = -1 := by
  unfold atM
  split
  · simp
  · rcases lastI_range s l 0 with ⟨h1, _⟩ | ⟨h1, _, _⟩ <;> omega
theorem atM_lt (l : List Str) (s : Str) : atM l s < l.length := by
  unfold atM
  split
  · omega
  · rcases lastI_range s l 0 with ⟨h1, _⟩ | ⟨h1, h2, _⟩ <;> omega
theorem atM_out {l : List Str} {s : Str} (h : ¬ s ∈ l) : atM l s = -1 := (atM_neg l s).1 (by
  have := mt (atM_mem l s).1 (fun e => h e.1); omega)
/-- Which names a kid's place binds. -/
def boundM (k : Int) (s p : Str) (i : Nat) : List Str := if k = 5 ∨ (k = 7 ∧ i = 1) ∨ (k = 8 ∧ i = 1) then [s] else if k = 8 then [s, p] else []
def namesM (l r : List Str) (a b : Str) : Bool := decide (atM l a = atM r b) && (decide (0 ≤ atM l a) || decide (a = b))
mutual
def alikeT : Tm → List Str → List Str → Tm → Bool
  | ⟨k, _, s, p, m, ks, as, _⟩, l, r, b => decide (k = b.kind) && decide (m = b.n) && decide (ks.length = b.kids.length) && decide (as.length = b.arms.length) &&
      (if k = 1 then namesM l r s b.name else if k = 5 ∨ k = 7 ∨ k = 8 then true else decide (s = b.name)) && alikeKs (boundM k s p) (boundM b.kind b.name b.param) 0 l r ks b.kids && alikeAs l r as b.arms
def alikeKs (f g : Nat → List Str) : Nat → List Str → List Str → List Tm → List Tm → Bool
  | _, _, _, [], _ => true
  | _, _, _, _ :: _, [] => true
  | i, l, r, t :: ts, u :: us => alikeT t (l ++ f i) (r ++ g i) u && alikeKs f g (i + 1) l r ts us
def alikeAs : List Str → List Str → List Ar → List Ar → Bool
  | _, _, [], _ => true
  | _, _, _ :: _, [] => true
  | l, r, ⟨s, vs, b⟩ :: as, ⟨s', vs', b'⟩ :: as' => decide (s = s') && decide (vs.length = vs'.length) && alikeT b (l ++ vs) (r ++ vs') b' && alikeAs l r as as'
end
theorem alikeT_eq (t : Tm) (l r : List Str) (b : Tm) : alikeT t l r b = (decide (t.kind = b.kind) && decide (t.n = b.n) && decide (t.kids.length = b.kids.length) && decide (t.arms.length = b.arms.length) &&
      (if t.kind = 1 then namesM l r t.name b.name else if t.kind = 5 ∨ t.kind = 7 ∨ t.kind = 8 then true else decide (t.name = b.name)) && alikeKs (boundM t.kind t.name t.param) (boundM b.kind b.name b.param) 0 l r t.kids b.kids && alikeAs l r t.arms b.arms) := by
  obtain ⟨k, a, s, p, m, ks, as, rw⟩ := t; rw [alikeT]; rfl
mutual
/-- A term without the names that are bound in it. -/
inductive Sk where
  | mk (k n v : Int) (nm : Str) (kids : List Sk) (arms : List SkA)
inductive SkA where
  | mk (nm : Str) (len : Nat) (body : Sk)
end
mutual
def skT : Tm → List Str → Sk
  | ⟨k, _, s, p, m, ks, as, _⟩, l => ⟨k, m, if k = 1 then atM l s else 0, if k = 1 then (if 0 ≤ atM l s then [] else s) else if k = 5 ∨ k = 7 ∨ k = 8 then [] else s, skKs (boundM k s p) 0 l ks, skAs l as⟩
def skKs (f : Nat → List Str) : Nat → List Str → List Tm → List Sk
  | _, _, [] => []
  | i, l, t :: ts => skT t (l ++ f i) :: skKs f (i + 1) l ts
def skAs : List Str → List Ar → List SkA
  | _, [] => []
  | l, ⟨s, vs, b⟩ :: as => ⟨s, vs.length, skT b (l ++ vs)⟩ :: skAs l as
end
theorem skT_eq (t : Tm) (l : List Str) : skT t l = ⟨t.kind, t.n, if t.kind = 1 then atM l t.name else 0, if t.kind = 1 then (if 0 ≤ atM l t.name then [] else t.name) else if t.kind = 5 ∨ t.kind = 7 ∨ t.kind = 8 then [] else t.name,
    skKs (boundM t.kind t.name t.param) 0 l t.kids, skAs l t.arms⟩ := by obtain ⟨k, a, s, p, m, ks, as, rw⟩ := t; rw [skT]; rfl
theorem skKs_len (f : Nat → List Str) : ∀ (ts : List Tm) (i : Nat) (l : List Str), (skKs f i l ts).length = ts.length
  | [], i, l => by simp [skKs]
  | t :: ts, i, l => by simp [skKs, skKs_len f ts]
theorem skAs_len : ∀ (ts : List Ar) (l : List Str), (skAs l ts).length = ts.length
  | [], l => by simp [skAs]
  | ⟨s, v, b⟩ :: ts, l => by simp [skAs, skAs_len ts]
theorem alike_sk (a : Tm) : ∀ (l r : List Str) (b : Tm), alikeT a l r b = true ↔ skT a l = skT b r := by
  induction a using Tm.rec_ with
  | h a ihk iha =>
    intro l r b
    have hks : ∀ (ts : List Tm), (∀ u ∈ ts, u ∈ a.kids) → ∀ (f g : Nat → List Str) (i : Nat) (us : List Tm), ts.length = us.length → (alikeKs f g i l r ts us = true ↔ skKs f i l ts = skKs g i r us) := by
      intro ts
      induction ts with
      | nil => intro _ f g i us hl; cases us with
        | nil => simp [alikeKs, skKs]
        | cons u us => simp at hl
      | cons t ts ih => intro hm f g i us hl; cases us with
        | nil => simp at hl
        | cons u us =>
          simp only [alikeKs, skKs, Bool.and_eq_true, List.cons.injEq, ihk t (hm t (.head _)), ih (fun u hu => hm u (.tail _ hu)) f g (i + 1) us (by simpa using hl)]
    have has : ∀ (ts : List Ar), (∀ u ∈ ts, u ∈ a.arms) → ∀ (us : List Ar), ts.length = us.length → (alikeAs l r ts us = true ↔ skAs l ts = skAs r us) := by
      intro ts
      induction ts with
      | nil => intro _ us hl; cases us with
        | nil => simp [alikeAs, skAs]
        | cons u us => simp at hl
      | cons t ts ih => intro hm us hl; cases us with
        | nil => simp at hl
        | cons u us =>
          obtain ⟨s, vs, b⟩ := t; obtain ⟨s', vs', b'⟩ := u
          have h1 := iha ⟨s, vs, b⟩ (hm _ (.head _))
          simp only [Ar.body] at h1
          simp only [alikeAs, skAs, Bool.and_eq_true, decide_eq_true_eq, List.cons.injEq, SkA.mk.injEq, h1, ih (fun u hu => hm u (.tail _ hu)) us (by simpa using hl), and_assoc]
    rw [alikeT_eq, skT_eq a, skT_eq b]
    simp only [Bool.and_eq_true, decide_eq_true_eq, Sk.mk.injEq]
    constructor
    · rintro ⟨⟨⟨⟨⟨⟨h1, h2⟩, h3⟩, h4⟩, h5⟩, h6⟩, h7⟩
      refine ⟨h1, h2, ?_, ?_, (hks _ (fun _ h => h) _ _ _ _ h3).1 h6, (has _ (fun _ h => h) _ h4).1 h7⟩
      · rw [← h1]; split at h5
        · rename_i hk; simp only [namesM, Bool.and_eq_true, decide_eq_true_eq] at h5; rw [if_pos hk, if_pos hk, h5.1]
        · rename_i hk; rw [if_neg hk, if_neg hk]
      · rw [← h1]; split at h5
        · rename_i hk
          simp only [namesM, Bool.and_eq_true, Bool.or_eq_true, decide_eq_true_eq] at h5
          rw [if_pos hk, if_pos hk, ← h5.1]
          rcases h5.2 with h | h
          · rw [if_pos h, if_pos h]
          · rw [h]
        · rename_i hk; rw [if_neg hk, if_neg hk]
          split at h5
          · rename_i hk2; rw [if_pos hk2, if_pos hk2]
          · rename_i hk2; rw [if_neg hk2, if_neg hk2]; simpa using h5
    · rintro ⟨h1, h2, h3, h4, h5, h6⟩
      have hl1 := congrArg List.length h5
      rw [skKs_len, skKs_len] at hl1
      have hl2 := congrArg List.length h6
      rw [skAs_len, skAs_len] at hl2
      refine ⟨⟨⟨⟨⟨⟨h1, h2⟩, hl1⟩, hl2⟩, ?_⟩, (hks _ (fun _ h => h) _ _ _ _ hl1).2 h5⟩, (has _ (fun _ h => h) _ hl2).2 h6⟩
      rw [← h1] at h3 h4
      split
      · rename_i hk
        rw [if_pos hk, if_pos hk] at h3 h4
        simp only [namesM, Bool.and_eq_true, Bool.or_eq_true, decide_eq_true_eq]
        refine ⟨h3, ?_⟩
        by_cases h0 : 0 ≤ atM l a.name
        · exact .inl h0
        · rw [if_neg h0, if_neg (by rw [← h3]; exact h0)] at h4; exact .inr h4
      · rename_i hk
        rw [if_neg hk, if_neg hk] at h4
        split
        · rfl
        · rename_i hk2; rw [if_neg hk2, if_neg hk2] at h4; simpa using h4
theorem alike_dec (a b : Tm) : alikeT a [] [] b = true ↔ skT a [] = skT b [] := alike_sk a [] [] b
/-- A kind has as many kids as it may have, as far as names are bound in them. -/
def shOk (k : Int) (n : Nat) : Prop := (k = 5 → n ≤ 1) ∧ (k = 8 → n ≤ 2)
inductive ShT : Tm → Prop where
  | mk {t : Tm} (h : shOk t.kind t.kids.length) (hk : ∀ u ∈ t.kids, ShT u) (ha : ∀ a ∈ t.arms, ShT a.body) : ShT t
theorem ShT.here {t : Tm} (h : ShT t) : shOk t.kind t.kids.length := by cases h; assumption
theorem ShT.kid {t u : Tm} (h : ShT t) (hu : u ∈ t.kids) : ShT u := by cases h with | mk _ hk _ => exact hk u hu
theorem ShT.arm {t : Tm} {a : Ar} (h : ShT t) (ha : a ∈ t.arms) : ShT a.body := by cases h with | mk _ _ hh => exact hh a ha
-- new names
def numT (n : Nat) : Str := 39 :: decDigits n
def nextN : Nat → List Str → List Str
  | _, [] => []
  | n, x :: l => (x ++ numT (n + 1)) :: nextN (n + 1) l
theorem nextN_len : ∀ (l : List Str) (n : Nat), (nextN n l).length = l.length
  | [], _ => rfl
  | x :: l, n => by simp [nextN, nextN_len l]
theorem nextN_app : ∀ (l k : List Str) (n : Nat), nextN n (l ++ k) = nextN n l ++ nextN (n + l.length) k
  | [], k, n => by simp [nextN]
  | x :: l, k, n => by simp only [List.cons_append, nextN, nextN_app l k (n + 1), List.length_cons]; rw [show n + 1 + l.length = n + (l.length + 1) by omega]
def aget (s : Str) : List (Str × Str) → Option Str
  | [] => none
  | (a, v) :: r => if s = a then some v else aget s r
def aput (s v : Str) : List (Str × Str) → List (Str × Str)
  | [] => [(s, v)]
  | (a, u) :: r => if s = a then (a, v) :: r else (a, u) :: aput s v r
theorem aget_aput (s x v : Str) : ∀ es, aget s (aput x v es) = if s = x then some v else aget s es
  | [] => by simp [aput, aget]
  | (a, u) :: r => by
    simp only [aput]
    by_cases h : x = a
    · subst h; simp only [if_true, aget]; by_cases hs : s = x <;> simp [hs]
    · simp only [h, if_false, aget, aget_aput s x v r]
      by_cases hs : s = a
      · subst hs; simp [Ne.symm h]
      · simp [hs]
def withM : List (Str × Str) → List Str → List Str → List (Str × Str)
  | es, x :: old, y :: now => withM (if x = us then es else aput x y es) old now
  | es, _, _ => es
def headM (k : Int) (s p : Str) (es : List (Str × Str)) (n : Nat) : Str × Str × Nat :=
  if k = 1 then ((match aget s es with | some v => v | none => s), p, n) else if k = 5 ∨ k = 7 then (s ++ numT (n + 1), p, n + 1) else if k = 8 then (s ++ numT (n + 1), p ++ numT (n + 2), n + 2) else (s, p, n)
mutual
def renT : Tm → List (Str × Str) → Nat → Tm × Nat
  | ⟨k, a, s, p, m, ks, as, r⟩, es, n =>
    let h := headM k s p es n
    let q := renKs (boundM k s p) (boundM k h.1 h.2.1) 0 es ks h.2.2
    let w := renAs es as q.2
    (⟨k, a, h.1, h.2.1, m, q.1, w.1, r⟩, w.2)
def renKs (f g : Nat → List Str) : Nat → List (Str × Str) → List Tm → Nat → List Tm × Nat
  | _, _, [], n => ([], n)
  | i, es, t :: ts, n =>
    let x := renT t (withM es (f i) (g i)) n
    let y := renKs f g (i + 1) es ts x.2
    (x.1 :: y.1, y.2)
def renAs : List (Str × Str) → List Ar → Nat → List Ar × Nat
  | _, [], n => ([], n)
  | es, ⟨s, vs, b⟩ :: as, n =>
    let x := renT b (withM es vs (nextN n vs)) (n + vs.length)
    let y := renAs es as x.2
    (⟨s, nextN n vs, x.1⟩ :: y.1, y.2)
end
theorem renT_eq (t : Tm) (es : List (Str × Str)) (n : Nat) : renT t es n =
    (let h := headM t.kind t.name t.param es n
     let q := renKs (boundM t.kind t.name t.param) (boundM t.kind h.1 h.2.1) 0 es t.kids h.2.2
     let w := renAs es t.arms q.2
     (⟨t.kind, t.at_, h.1, h.2.1, t.n, q.1, w.1, t.row⟩, w.2)) := by obtain ⟨k, a, s, p, m, ks, as, rw⟩ := t; rw [renT]; rfl
/-- A name that was numbered, at most by n. -/
def New (n : Nat) (s : Str) : Prop := ∃ x k, s = x ++ numT k ∧ 1 ≤ k ∧ k ≤ n
def noQ (s : Str) : Prop := ¬ (39 : UInt8) ∈ s
theorem New.mono {n n' : Nat} {s : Str} (h : New n s) (hn : n ≤ n') : New n' s := by obtain ⟨x, k, e, h1, h2⟩ := h; exact ⟨x, k, e, h1, by omega⟩
theorem New.quote {n : Nat} {s : Str} (h : New n s) : ¬ noQ s := by obtain ⟨x, k, rfl, _⟩ := h; intro hq; exact hq (by simp [numT])
theorem New.us {n : Nat} {s : Str} (h : New n s) : s ≠ us := by intro e; subst e; exact h.quote (by unfold noQ; decide)
theorem dec_eq (n : Nat) : decDigits n = if n < 10 then [UInt8.ofNat (48 + n)] else decDigits (n / 10) ++ [UInt8.ofNat (48 + n % 10)] := by
  rw [decDigits]; split <;> rfl
/-- A byte of a number. -/
def digB (b : UInt8) : Prop := 48 ≤ b.toNat ∧ b.toNat ≤ 57
theorem byte_nat {k : Nat} (h : k < 10) : (UInt8.ofNat (48 + k)).toNat = 48 + k := by
  rw [UInt8.toNat_ofNat']; omega
theorem dec_dig (n : Nat) : ∀ b ∈ decDigits n, digB b := by
  induction n using Nat.strongRecOn with
  | ind n ih =>
    intro b hb
    rw [dec_eq] at hb
    split at hb
    · rename_i h
      rw [List.mem_singleton] at hb; subst hb
      have := byte_nat h
      exact ⟨by omega, by omega⟩
    · rw [List.mem_append, List.mem_singleton] at hb
      rcases hb with hb | hb
      · exact ih (n / 10) (by omega) b hb
      · subst hb
        have := byte_nat (k := n % 10) (by omega)
        exact ⟨by omega, by omega⟩
theorem dec_ne (n : Nat) : decDigits n ≠ [] := by rw [dec_eq]; split <;> simp
theorem byte_inj {j k : Nat} (hj : j < 10) (hk : k < 10) (h : UInt8.ofNat (48 + j) = UInt8.ofNat (48 + k)) : j = k := by
  have h1 := byte_nat hj; have h2 := byte_nat hk; rw [h] at h1; omega
theorem dec_inj (n : Nat) : ∀ m, decDigits n = decDigits m → n = m := by
  induction n using Nat.strongRecOn with
  | ind n ih =>
    intro m h
    rw [dec_eq n, dec_eq m] at h
    split at h <;> split at h
    · simp only [List.cons.injEq, and_true] at h; exact byte_inj (by omega) (by omega) h
    · have := congrArg List.length h
      simp only [List.length_append, List.length_cons, List.length_nil] at this
      have h2 := dec_ne (m / 10)
      have := List.length_pos_iff.2 h2; omega
    · have := congrArg List.length h
      simp only [List.length_append, List.length_cons, List.length_nil] at this
      have h2 := dec_ne (n / 10)
      have := List.length_pos_iff.2 h2; omega
    · obtain ⟨h1, h2⟩ := List.append_inj' h rfl
      have e1 := ih (n / 10) (by omega) _ h1
      simp only [List.cons.injEq, and_true] at h2
      have e2 := byte_inj (by omega) (by omega) h2
      omega

theorem num_inj {x y : Str} {j k : Nat} (h : x ++ numT j = y ++ numT k) : x = y ∧ j = k := by
  have hj : ∀ (q : Nat), (39 : UInt8) ∉ decDigits q := fun q hq => by have := dec_dig q 39 hq; have h1 := this.1; have : (39 : UInt8).toNat = 39 := rfl; omega
  have key : ∀ (x y d e : Str), 39 ∉ d → 39 ∉ e → x ++ 39 :: d = y ++ 39 :: e → x = y ∧ d = e := by
    intro x
    induction x with
    | nil => intro y d e hd he h; cases y with
      | nil => simpa using h
      | cons c y => simp at h; obtain ⟨rfl, h⟩ := h; exact absurd (by rw [h]; simp) hd
    | cons c x ih => intro y d e hd he h; cases y with
      | nil => simp at h; obtain ⟨rfl, h⟩ := h; exact absurd (by rw [← h]; simp) he
      | cons c' y => simp at h; obtain ⟨rfl, h⟩ := h; obtain ⟨h1, h2⟩ := ih y d e hd he h; exact ⟨by rw [h1], h2⟩
  obtain ⟨h1, h2⟩ := key x y _ _ (hj j) (hj k) h
  exact ⟨h1, dec_inj _ _ h2⟩
theorem next_new : ∀ (l : List Str) (n : Nat), ∀ s ∈ nextN n l, ∃ x k, s = x ++ numT k ∧ n + 1 ≤ k ∧ k ≤ n + l.length
  | [], _, s, h => by cases h
  | x :: l, n, s, h => by
    simp only [nextN] at h
    rcases List.mem_cons.1 h with rfl | h
    · exact ⟨x, n + 1, rfl, Nat.le_refl _, by simp⟩
    · obtain ⟨y, k, e, h1, h2⟩ := next_new l (n + 1) s h
      exact ⟨y, k, e, by omega, by simp only [List.length_cons]; omega⟩
/-- What stands for the names that are bound around. -/
structure Ivn (es : List (Str × Str)) (l r : List Str) (n : Nat) : Prop where
  len : l.length = r.length
  new : ∀ s ∈ r, New n s
  get : ∀ s, if 0 ≤ atM l s then ∃ v, aget s es = some v ∧ atM r v = atM l s else aget s es = none
theorem Ivn.nil : Ivn [] [] [] 0 := ⟨rfl, (fun s h => by cases h), fun s => (by rw [atM_nil, if_neg (by omega)]; rfl)⟩
theorem Ivn.mono {es : List (Str × Str)} {l r : List Str} {n n' : Nat} (h : Ivn es l r n) (hn : n ≤ n') : Ivn es l r n' := ⟨h.len, fun s hs => (h.new s hs).mono hn, h.get⟩
theorem Ivn.one {es : List (Str × Str)} {l r : List Str} {n : Nat} (h : Ivn es l r n) (x z : Str) (k : Nat) (hk : n + 1 ≤ k) : Ivn (if x = us then es else aput x (z ++ numT k) es) (l ++ [x]) (r ++ [z ++ numT k]) k := by
  have hz : ∀ s ∈ r, z ++ numT k ≠ s := fun s hs e => by
    obtain ⟨y, j, rfl, _, h2⟩ := h.new s hs
    have := (num_inj e).2; omega
  have hzu : z ++ numT k ≠ us := New.us (n := k) ⟨z, k, rfl, by omega, Nat.le_refl _⟩
  refine ⟨by simp [h.len], fun s hs => ?_, fun s => ?_⟩
  · rcases List.mem_append.1 hs with hs | hs
    · exact (h.new s hs).mono (by omega)
    · rw [List.mem_singleton] at hs; subst hs; exact ⟨z, k, rfl, by omega, Nat.le_refl _⟩
  · have hg := h.get s
    rw [atM_snoc]
    by_cases hx : x = s ∧ s ≠ us
    · obtain ⟨rfl, hu⟩ := hx
      have e9 : (if x = x ∧ x ≠ us then (l.length : Int) else atM l x) = (l.length : Int) := if_pos ⟨rfl, hu⟩
      rw [e9, if_pos (by omega), if_neg hu]
      refine ⟨z ++ numT k, by rw [aget_aput, if_pos rfl], ?_⟩
      rw [atM_snoc, if_pos ⟨rfl, hzu⟩, h.len]
    · rw [if_neg hx]
      have he : aget s (if x = us then es else aput x (z ++ numT k) es) = aget s es := by
        split
        · rfl
        · rename_i hu; rw [aget_aput, if_neg (fun e => hx ⟨e.symm, by rw [e]; exact hu⟩)]
      rw [he]
      split at hg
      · rename_i h0
        rw [if_pos h0]
        obtain ⟨v, hv1, hv2⟩ := hg
        refine ⟨v, hv1, ?_⟩
        rw [atM_snoc, if_neg, hv2]
        rintro ⟨e, -⟩
        have hm := (atM_mem r v).1 (by rw [hv2]; exact h0)
        exact hz v hm.1 e
      · rename_i h0; rw [if_neg h0]; exact hg
theorem Ivn.many {es : List (Str × Str)} : ∀ (old : List Str) {es : List (Str × Str)} {l r : List Str} {n k : Nat}, Ivn es l r n → n ≤ k → Ivn (withM es old (nextN k old)) (l ++ old) (r ++ nextN k old) (k + old.length)
  | [], es, l, r, n, k, h, hk => by simpa [withM, nextN] using h.mono hk
  | x :: old, es, l, r, n, k, h, hk => by
    have h1 := h.one x x (k + 1) (by omega)
    have h2 := Ivn.many (es := es) old h1 (Nat.le_refl _)
    simp only [nextN, withM, List.length_cons]
    rw [show l ++ x :: old = (l ++ [x]) ++ old by simp, show r ++ (x ++ numT (k + 1)) :: nextN (k + 1) old = (r ++ [x ++ numT (k + 1)]) ++ nextN (k + 1) old by simp, show k + (old.length + 1) = k + 1 + old.length by omega]
    exact h2
mutual
/-- What is free in it, below names that are bound around, has no apostrophe. -/
inductive OkT : Tm → List Str → Prop where
  | mk {t : Tm} {l : List Str} (h : t.kind = 1 → atM l t.name < 0 → noQ t.name) (hk : ∀ i u, t.kids[i]? = some u → OkT u (l ++ boundM t.kind t.name t.param i)) (ha : ∀ a ∈ t.arms, OkT a.body (l ++ a.vars)) : OkT t l
end
theorem OkT.here {t : Tm} {l : List Str} (h : OkT t l) : t.kind = 1 → atM l t.name < 0 → noQ t.name := by cases h; assumption
theorem OkT.kid {t : Tm} {l : List Str} (h : OkT t l) {i : Nat} {u : Tm} (hu : t.kids[i]? = some u) : OkT u (l ++ boundM t.kind t.name t.param i) := by cases h with | mk _ hk _ => exact hk i u hu
theorem OkT.arm {t : Tm} {l : List Str} (h : OkT t l) {a : Ar} (ha : a ∈ t.arms) : OkT a.body (l ++ a.vars) := by cases h with | mk _ _ hh => exact hh a ha
/-- The head's names are those that its kids' places bind. -/
theorem head_bound {k : Int} {s p : Str} {es : List (Str × Str)} {n i : Nat} {len : Nat} (hs : shOk k len) (hi : i < len) :
    (boundM k s p i = [] ∧ boundM k (headM k s p es n).1 (headM k s p es n).2.1 i = []) ∨
    (boundM k s p i = [s] ∧ boundM k (headM k s p es n).1 (headM k s p es n).2.1 i = [s ++ numT (n + 1)] ∧ n + 1 ≤ (headM k s p es n).2.2) ∨
    (boundM k s p i = [s, p] ∧ boundM k (headM k s p es n).1 (headM k s p es n).2.1 i = [s ++ numT (n + 1), p ++ numT (n + 2)] ∧ n + 2 ≤ (headM k s p es n).2.2) := by
  unfold boundM headM
  by_cases h5 : k = 5
  · subst h5; right; left; simp
  · by_cases h7 : k = 7
    · subst h7
      by_cases h1 : i = 1
      · right; left; simp [h1]
      · left; simp [h1]
    · by_cases h8 : k = 8
      · subst h8
        by_cases h1 : i = 1
        · right; left; simp [h1]
        · right; right; simp [h1]
      · left; simp [h5, h7, h8]
theorem Ivn.head {es : List (Str × Str)} {l r : List Str} {n m i len : Nat} {k : Int} {s p : Str} (h : Ivn es l r n) (hs : shOk k len) (hi : i < len) (hm : (headM k s p es n).2.2 ≤ m) :
    Ivn (withM es (boundM k s p i) (boundM k (headM k s p es n).1 (headM k s p es n).2.1 i)) (l ++ boundM k s p i) (r ++ boundM k (headM k s p es n).1 (headM k s p es n).2.1 i) m := by
  have hn : n ≤ (headM k s p es n).2.2 := by unfold headM; split; exact Nat.le_refl _; split; exact Nat.le_succ _; split; exact Nat.le_add_right _ _; exact Nat.le_refl _
  rcases head_bound (s := s) (p := p) (es := es) (n := n) hs hi with ⟨e1, e2⟩ | ⟨e1, e2, e3⟩ | ⟨e1, e2, e3⟩
  · rw [e1, e2]; simpa [withM] using h.mono (Nat.le_trans hn hm)
  · rw [e1, e2]
    have := Ivn.many (es := es) [s] h (Nat.le_refl n)
    simp only [nextN, List.length_cons, List.length_nil] at this
    exact this.mono (by omega)
  · rw [e1, e2]
    have := Ivn.many (es := es) [s, p] h (Nat.le_refl n)
    simp only [nextN, List.length_cons, List.length_nil] at this
    exact this.mono (by omega)
theorem skAs_get (ts : List Ar) (l : List Str) : skAs l ts = ts.map fun a => ⟨a.name, a.vars.length, skT a.body (l ++ a.vars)⟩ := by
  induction ts with
  | nil => simp [skAs]
  | cons a ts ih => obtain ⟨s, v, b⟩ := a; simp [skAs, ih, Ar.name, Ar.vars, Ar.body]
/-- Renaming: the number only grows; the tree without names is the same; what is free has no apostrophe. -/
theorem ren_main (t : Tm) : ∀ {es : List (Str × Str)} {l r : List Str} {n : Nat}, ShT t → OkT t l → Ivn es l r n → n ≤ (renT t es n).2 ∧ skT (renT t es n).1 r = skT t l ∧ OkT (renT t es n).1 r ∧ ShT (renT t es n).1 := by
  induction t using Tm.rec_ with
  | h t ihk iha =>
    intro es l r n hsh hok hinv
    have hn0 : n ≤ (headM t.kind t.name t.param es n).2.2 := by unfold headM; split; exact Nat.le_refl _; split; exact Nat.le_succ _; split; exact Nat.le_add_right _ _; exact Nat.le_refl _
    generalize hh : headM t.kind t.name t.param es n = h at hn0
    have hks : ∀ (ts : List Tm) (i m : Nat), (∀ j u, ts[j]? = some u → t.kids[i + j]? = some u) → h.2.2 ≤ m →
        m ≤ (renKs (boundM t.kind t.name t.param) (boundM t.kind h.1 h.2.1) i es ts m).2 ∧ (renKs (boundM t.kind t.name t.param) (boundM t.kind h.1 h.2.1) i es ts m).1.length = ts.length ∧
        skKs (boundM t.kind h.1 h.2.1) i r (renKs (boundM t.kind t.name t.param) (boundM t.kind h.1 h.2.1) i es ts m).1 = skKs (boundM t.kind t.name t.param) i l ts ∧
        (∀ j u, (renKs (boundM t.kind t.name t.param) (boundM t.kind h.1 h.2.1) i es ts m).1[j]? = some u → OkT u (r ++ boundM t.kind h.1 h.2.1 (i + j)) ∧ ShT u) := by
      intro ts
      induction ts with
      | nil => intro i m _ _; simp [renKs, skKs]
      | cons u ts ih =>
        intro i m hm hle
        have hu : t.kids[i]? = some u := by simpa using hm 0 u rfl
        have hmem := List.mem_of_getElem? hu
        have hil : i < t.kids.length := (List.getElem?_eq_some_iff.1 hu).1
        have hi2 := hinv.head (s := t.name) (p := t.param) (m := m) hsh.here hil (by rw [hh]; exact hle)
        rw [hh] at hi2
        obtain ⟨g1, g2, g3, g4⟩ := ihk u hmem (hsh.kid hmem) (hok.kid hu) hi2
        obtain ⟨q1, q2, q3, q4⟩ := ih (i + 1) (renT u (withM es (boundM t.kind t.name t.param i) (boundM t.kind h.1 h.2.1 i)) m).2 (fun j v hj => by have := hm (j + 1) v (by simpa using hj); rw [show i + 1 + j = i + (j + 1) by omega]; exact this) (by omega)
        simp only [renKs, skKs]
        refine ⟨by omega, by simp [q2], by rw [g2, q3], fun j v hj => ?_⟩
        cases j with
        | zero => simp at hj; subst hj; rw [Nat.add_zero]; exact ⟨g3, g4⟩
        | succ j => have := q4 j v (by simpa using hj); rw [show i + (j + 1) = i + 1 + j by omega]; exact this
    have has : ∀ (ts : List Ar) (m : Nat), (∀ a ∈ ts, a ∈ t.arms) → n ≤ m →
        m ≤ (renAs es ts m).2 ∧ skAs r (renAs es ts m).1 = skAs l ts ∧ (∀ a ∈ (renAs es ts m).1, OkT a.body (r ++ a.vars) ∧ ShT a.body) := by
      intro ts
      induction ts with
      | nil => intro m _ _; simp [renAs, skAs]
      | cons a ts ih =>
        intro m hm hle
        have hmem := hm a (.head _)
        have g := iha a hmem (hsh.arm hmem) (hok.arm hmem) (Ivn.many (es := es) a.vars hinv hle)
        obtain ⟨s, vs, b⟩ := a
        simp only [Ar.vars, Ar.body] at g
        obtain ⟨g1, g2, g3, g4⟩ := g
        obtain ⟨q1, q2, q3⟩ := ih (renT b (withM es vs (nextN m vs)) (m + vs.length)).2 (fun a ha => hm a (.tail _ ha)) (by omega)
        simp only [renAs, skAs]
        refine ⟨by omega, by rw [g2, q2, nextN_len], fun a ha => ?_⟩
        rcases List.mem_cons.1 ha with rfl | ha
        · exact ⟨g3, g4⟩
        · exact q3 a ha
    obtain ⟨k1, k2, k3, k4⟩ := hks t.kids 0 h.2.2 (fun j u hj => by rw [Nat.zero_add]; exact hj) (Nat.le_refl _)
    obtain ⟨a1, a2, a3⟩ := has t.arms (renKs (boundM t.kind t.name t.param) (boundM t.kind h.1 h.2.1) 0 es t.kids h.2.2).2 (fun _ h => h) (by omega)
    have e := renT_eq t es n
    simp only [hh] at e
    rw [e]
    -- the head
    have hv : t.kind = 1 → atM r h.1 = atM l t.name ∧ (atM l t.name < 0 → h.1 = t.name) := by
      intro h1
      have hg := hinv.get t.name
      have e1 : h.1 = (match aget t.name es with | some v => v | none => t.name) := by rw [← hh]; unfold headM; rw [if_pos h1]
      split at hg
      · rename_i h0
        obtain ⟨v, hv1, hv2⟩ := hg
        rw [hv1] at e1; simp only at e1
        rw [e1]; exact ⟨hv2, fun hlt => by omega⟩
      · rename_i h0
        rw [hg] at e1; simp only at e1
        have hq := hok.here h1 (by omega)
        rw [e1]
        refine ⟨?_, fun _ => rfl⟩
        rw [(atM_neg l t.name).1 (by omega)]
        exact atM_out fun hm => (hinv.new _ hm).quote hq
    refine ⟨by simp only; omega, ?_, ?_, ?_⟩
    · rw [skT_eq t l, skT]
      rw [k3, a2]
      congr 1
      · by_cases h1 : t.kind = 1
        · rw [if_pos h1, if_pos h1, (hv h1).1]
        · rw [if_neg h1, if_neg h1]
      · by_cases h1 : t.kind = 1
        · rw [if_pos h1, if_pos h1, (hv h1).1]
          by_cases h0 : 0 ≤ atM l t.name
          · rw [if_pos h0, if_pos h0]
          · rw [if_neg h0, if_neg h0, (hv h1).2 (by omega)]
        · rw [if_neg h1, if_neg h1]
          by_cases h2 : t.kind = 5 ∨ t.kind = 7 ∨ t.kind = 8
          · rw [if_pos h2, if_pos h2]
          · rw [if_neg h2, if_neg h2]
            rw [← hh]; unfold headM
            rw [if_neg h1, if_neg (fun e => h2 (e.elim .inl (fun e => .inr (.inl e)))), if_neg (fun e => h2 (.inr (.inr e)))]
    · refine .mk (fun h1 hlt => ?_) (fun i u hu => ?_) (fun a ha => ?_)
      · change t.kind = 1 at h1
        change atM r h.1 < 0 at hlt
        show noQ h.1
        rw [(hv h1).1] at hlt
        rw [(hv h1).2 hlt]; exact hok.here h1 hlt
      · have := k4 i u hu; rw [Nat.zero_add] at this; exact this.1
      · exact (a3 a ha).1
    · refine .mk ?_ (fun u hu => ?_) (fun a ha => (a3 a ha).2)
      · show shOk t.kind (renKs (boundM t.kind t.name t.param) (boundM t.kind h.1 h.2.1) 0 es t.kids h.2.2).1.length
        rw [k2]; exact hsh.here
      · obtain ⟨i, hi⟩ := List.mem_iff_getElem?.1 hu
        exact (k4 i u hi).2

end Go.Proofs.YteamjgbhcjojaaaDoor
