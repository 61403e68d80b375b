/-
  Renaming, the plain laws: a term is the same without bound names where its names stand at the same places. Conditions: those of each theorem.
-/
import Derived.Test.YteamjgbhcjojaaaDoorPure5
namespace Go.Proofs.YteamjgbhcjojaaaDoor
set_option linter.all false
set_option maxRecDepth 4000
open Go.RowKit
theorem atM_app : ∀ (b : List Str) {l k : List Str} {s : Str}, l.length = k.length → atM l s = atM k s → atM (l ++ b) s = atM (k ++ b) s
  | [], l, k, s, _, h => by simpa using h
  | x :: b, l, k, s, hl, h => by
    rw [show l ++ x :: b = (l ++ [x]) ++ b by simp, show k ++ x :: b = (k ++ [x]) ++ b by simp]
    exact atM_app b (by simp [hl]) (by rw [atM_snoc, atM_snoc, h, hl])
/-- All names of variables that stand in a term. -/
inductive VarIn (s : Str) : Tm → Prop where
  | here {t : Tm} (h : t.kind = 1) (hn : t.name = s) : VarIn s t
  | kid {t u : Tm} (h : u ∈ t.kids) (hs : VarIn s u) : VarIn s t
  | arm {t : Tm} {a : Ar} (h : a ∈ t.arms) (hs : VarIn s a.body) : VarIn s t
theorem sk_congr (t : Tm) : ∀ (l k : List Str), l.length = k.length → (∀ s, VarIn s t → atM l s = atM k s) → skT t l = skT t k := by
  induction t using Tm.rec_ with
  | h t ihk iha =>
    intro l k hl h
    have hks : ∀ (ts : List Tm), (∀ u ∈ ts, u ∈ t.kids) → ∀ (f : Nat → List Str) (i : Nat), skKs f i l ts = skKs f i k ts := by
      intro ts
      induction ts with
      | nil => intro _ f i; simp [skKs]
      | cons u ts ih =>
        intro hm f i
        rw [skKs, skKs, ih fun v hv => hm v (.tail _ hv), ihk u (hm u (.head _)) (l ++ f i) (k ++ f i) (by simp [hl]) fun s hs => atM_app _ hl (h s (.kid (hm u (.head _)) hs))]
    have has : ∀ (ts : List Ar), (∀ u ∈ ts, u ∈ t.arms) → skAs l ts = skAs k ts := by
      intro ts
      induction ts with
      | nil => intro _; simp [skAs]
      | cons u ts ih =>
        intro hm
        have h1 := iha u (hm u (.head _)) (l ++ u.vars) (k ++ u.vars) (by simp [hl]) fun s hs => atM_app _ hl (h s (.arm (hm u (.head _)) hs))
        have h2 := ih fun v hv => hm v (.tail _ hv)
        obtain ⟨nm, vs, b⟩ := u
        rw [skAs, skAs, h2]
        simp only [Ar.body, Ar.vars] at h1
        rw [h1]
    rw [skT_eq, skT_eq, hks _ (fun _ h => h), has _ fun _ h => h]
    by_cases h1 : t.kind = 1
    · rw [h t.name (.here h1 rfl)]
    · simp only [h1, if_false]

end Go.Proofs.YteamjgbhcjojaaaDoor
