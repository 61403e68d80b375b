/-
  Renaming, the plain laws: how often a name stands free is told by the term without bound names. Conditions: those of each theorem.
-/
import Derived.Test.YteamjgbhcjojaaaDoorPure2
namespace Go.Proofs.YteamjgbhcjojaaaDoor
set_option linter.all false
set_option maxRecDepth 4000
open Go.RowKit
mutual
def usesSk (s : Str) : Sk → Nat
  | ⟨k, _, i, nm, ks, az⟩ => if k = 1 then (if i < 0 ∧ nm = s then 1 else 0) else usesSkKs s ks + usesSkAs s az
def usesSkKs (s : Str) : List Sk → Nat
  | [] => 0
  | t :: ts => usesSk s t + usesSkKs s ts
def usesSkAs (s : Str) : List SkA → Nat
  | [] => 0
  | ⟨_, _, b⟩ :: ts => usesSk s b + usesSkAs s ts
end
theorem uses_sk (s : Str) (t : Tm) : ∀ (l : List Str), ShT t → (s = us ∨ ¬ s ∈ l → usesSk s (skT t l) = usesM s t) ∧ (s ≠ us → s ∈ l → usesSk s (skT t l) = 0) := by
  induction t using Tm.rec_ with
  | h t ihk iha =>
    intro l hsh
    rw [skT_eq, usesSk, usesM_eq]
    by_cases hk1 : t.kind = 1
    · simp only [hk1, if_true]
      have hm := atM_mem l t.name
      constructor
      · intro h
        by_cases hn : t.name = s
        · have hneg : ¬ 0 ≤ atM l t.name := by rw [hm, hn]; rintro ⟨h1, h2⟩; rcases h with h | h; exact h2 h; exact h h1
          rw [if_neg hneg, if_pos ⟨by omega, hn⟩, if_pos hn]
        · by_cases h0 : 0 ≤ atM l t.name
          · rw [if_neg (fun h : atM l t.name < 0 ∧ _ => by have := h.1; omega), if_neg hn]
          · rw [if_neg h0, if_neg (fun h => hn h.2), if_neg hn]
      · intro h1 h2
        by_cases hn : t.name = s
        · have hpos : 0 ≤ atM l t.name := by rw [hm, hn]; exact ⟨h2, h1⟩
          rw [if_neg (fun h : atM l t.name < 0 ∧ _ => by have := h.1; omega)]
        · by_cases h0 : 0 ≤ atM l t.name
          · rw [if_neg (fun h : atM l t.name < 0 ∧ _ => by have := h.1; omega)]
          · rw [if_neg h0, if_neg (fun h => hn h.2)]
    · simp only [hk1, if_false]
      have hks : ∀ (ts : List Tm) (i : Nat), (∀ j u, ts[j]? = some u → t.kids[i + j]? = some u) →
          (s = us ∨ ¬ s ∈ l → usesSkKs s (skKs (boundM t.kind t.name t.param) i l ts) = usesKs s (boundR t.kind t.name t.param) i ts) ∧ (s ≠ us → s ∈ l → usesSkKs s (skKs (boundM t.kind t.name t.param) i l ts) = 0) := by
        intro ts
        induction ts with
        | nil => intro i _; simp [skKs, usesSkKs, usesKs]
        | cons u ts ih =>
          intro i hm
          have hu : t.kids[i]? = some u := by simpa using hm 0 u rfl
          have hmem := List.mem_of_getElem? hu
          have hil : i < t.kids.length := (List.getElem?_eq_some_iff.1 hu).1
          have hb := boundR_M (s := t.name) (p := t.param) hsh.here hil
          obtain ⟨g1, g2⟩ := ihk u hmem (l ++ boundM t.kind t.name t.param i) (hsh.kid hmem)
          obtain ⟨q1, q2⟩ := ih (i + 1) (fun j v hj => by have := hm (j + 1) v (by simpa using hj); rw [show i + 1 + j = i + (j + 1) by omega]; exact this)
          simp only [skKs, usesSkKs, usesKs]
          constructor
          · intro h
            rw [q1 h, hb]
            by_cases hin : s = uS ∨ ¬ s ∈ boundM t.kind t.name t.param i
            · rw [if_pos hin, g1 (by rcases h with h | h; exact .inl h; rcases hin with h2 | h2; exact .inl h2; exact .inr fun hx => (List.mem_append.1 hx).elim h h2)]
            · rw [if_neg hin, g2 (fun e => hin (.inl e)) (List.mem_append.2 (.inr (Classical.byContradiction fun hx => hin (.inr hx))))]
          · intro h1 h2
            rw [q2 h1 h2, g2 h1 (List.mem_append.2 (.inl h2))]
      have has : ∀ (ts : List Ar), (∀ a ∈ ts, a ∈ t.arms) →
          (s = us ∨ ¬ s ∈ l → usesSkAs s (skAs l ts) = usesAs s ts) ∧ (s ≠ us → s ∈ l → usesSkAs s (skAs l ts) = 0) := by
        intro ts
        induction ts with
        | nil => intro _; simp [skAs, usesSkAs, usesAs]
        | cons a ts ih =>
          intro hm
          have hmem := hm a (.head _)
          have g := iha a hmem (l ++ a.vars) (hsh.arm hmem)
          obtain ⟨q1, q2⟩ := ih (fun v hv => hm v (.tail _ hv))
          obtain ⟨nm, vs, b⟩ := a
          simp only [Ar.vars, Ar.body] at g
          obtain ⟨g1, g2⟩ := g
          simp only [skAs, usesSkAs, usesAs]
          constructor
          · intro h
            rw [q1 h]
            by_cases hin : s = uS ∨ ¬ s ∈ vs
            · rw [if_pos hin, g1 (by rcases h with h | h; exact .inl h; rcases hin with h2 | h2; exact .inl h2; exact .inr fun hx => (List.mem_append.1 hx).elim h h2)]
            · rw [if_neg hin, g2 (fun e => hin (.inl e)) (List.mem_append.2 (.inr (Classical.byContradiction fun hx => hin (.inr hx))))]
          · intro h1 h2
            rw [q2 h1 h2, g2 h1 (List.mem_append.2 (.inl h2))]
      obtain ⟨k1, k2⟩ := hks t.kids 0 (fun j u hj => by rw [Nat.zero_add]; exact hj)
      obtain ⟨a1, a2⟩ := has t.arms (fun _ h => h)
      exact ⟨fun h => by rw [k1 h, a1 h], fun h1 h2 => by rw [k2 h1 h2, a2 h1 h2]⟩
/-- Terms that are alike use the same names, as often. -/
theorem uses_alike {a b : Tm} (ha : ShT a) (hb : ShT b) (h : skT a [] = skT b []) (s : Str) : usesM s a = usesM s b := by
  rw [← (uses_sk s a [] ha).1 (.inr (by simp)), ← (uses_sk s b [] hb).1 (.inr (by simp)), h]

end Go.Proofs.YteamjgbhcjojaaaDoor
