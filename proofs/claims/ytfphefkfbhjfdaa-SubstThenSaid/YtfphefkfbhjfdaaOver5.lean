/-
  One substitution, and then another one: lookups. Conditions: those of each theorem.
-/
import Derived.Test.YtfphefkfbhjfdaaClosed5
namespace Go.Proofs.Ytfphefkfbhjfdaa
set_option linter.all false
set_option maxRecDepth 4000
open Go.RowKit
theorem alook_app {α : Type} (k : Int) (d : List (Int × α)) : ∀ l : List (Int × α), alook k (l ++ d) = (alook k l).or (alook k d)
  | [] => by simp [alook]
  | (a, u) :: l => by
    simp only [List.cons_append, alook, alook_app k d l]
    split <;> simp
theorem alook_mem {α : Type} {k : Int} {x : α} : ∀ {l : List (Int × α)}, alook k l = some x → (k, x) ∈ l
  | (a, u) :: l, h => by
    simp only [alook] at h
    split at h
    · rename_i e; injection h with h; subst h; subst e; exact .head _
    · exact .tail _ (alook_mem h)
theorem alook_none {α : Type} {k : Int} : ∀ {l : List (Int × α)}, alook k l = none ↔ ¬ k ∈ l.map Prod.fst
  | [] => by simp [alook]
  | (a, u) :: l => by
    simp only [alook, List.map_cons, List.mem_cons]
    by_cases e : k = a
    · simp [e]
    · simp [e, alook_none (l := l)]
theorem alook_of_mem {α : Type} {k : Int} {x : α} {l : List (Int × α)} (hn : (l.map Prod.fst).Nodup) (h : (k, x) ∈ l) : alook k l = some x := by
  induction l with
  | nil => cases h
  | cons p l ih =>
    obtain ⟨a, u⟩ := p
    rw [List.map_cons, List.nodup_cons] at hn
    simp only [alook]
    rcases List.mem_cons.1 h with h | h
    · injection h with h1 h2; subst h1; subst h2; rw [if_pos rfl]
    · have hne : ¬ k = a := fun e => hn.1 (e ▸ List.mem_map.2 ⟨(k, x), h, rfl⟩)
      rw [if_neg hne]; exact ih hn.2 h
theorem alook_perm {α : Type} {l l' : List (Int × α)} (hp : l.Perm l') (hn : (l.map Prod.fst).Nodup) (k : Int) : alook k l = alook k l' := by
  have hn' : (l'.map Prod.fst).Nodup := (hp.map _).nodup_iff.1 hn
  cases h : alook k l with
  | none => exact (alook_none.2 fun hm => alook_none.1 h ((hp.map Prod.fst).mem_iff.2 hm)).symm
  | some x => exact (alook_of_mem hn' (hp.mem_iff.1 (alook_mem h))).symm
/-- What is said when the one, turned by f, is said over the other. -/
def Over {α : Type} (f : α → α) (l b o : List (Int × α)) : Prop := ∀ k, alook k o = ((alook k l).map f).or (alook k b)
theorem Over.nil {α : Type} (f : α → α) (b : List (Int × α)) : Over f [] b b := fun k => by simp [alook]
theorem Over.snoc {α : Type} {f : α → α} {l b o : List (Int × α)} (h : Over f l b o) {k : Int} (x : α) (hk : alook k l = none) : Over f (l ++ [(k, x)]) b (aset k (f x) o) := fun j => by
  rw [alook_aset, alook_app, h j]
  by_cases e : j = k
  · subst e; rw [if_pos rfl, hk]; simp [alook]
  · rw [if_neg e]; simp [alook, e]
theorem Over.perm {α : Type} {f : α → α} {l l' b o : List (Int × α)} (h : Over f l b o) (hp : l.Perm l') (hn : (l.map Prod.fst).Nodup) : Over f l' b o := fun k => by rw [h k, alook_perm hp hn]

end Go.Proofs.Ytfphefkfbhjfdaa
