/-
  Renaming, the plain laws: names that are bound are numbered in order. Conditions: those of each theorem.
-/
import Derived.Test.YteamjgbhcjojaaaDoorPairs1
namespace Go.Proofs.YteamjgbhcjojaaaDoor
set_option linter.all false
set_option maxRecDepth 4000
open Go.RowKit
theorem boundR_M {k : Int} {s p : Str} {n i : Nat} (h : shOk k n) (hi : i < n) : boundR k s p i = boundM k s p i := by
  unfold boundR boundM
  by_cases h5 : k = 5
  · rw [if_pos h5, if_pos (.inl h5)]
  · rw [if_neg h5]
    by_cases h7 : k = 7
    · rw [if_pos h7]
      by_cases h1 : i = 1
      · rw [if_pos h1, if_pos (by omega)]
      · rw [if_neg h1, if_neg (by omega), if_neg (by omega)]
    · rw [if_neg h7]
      by_cases h8 : k = 8
      · rw [if_pos h8]
        have := h.2 h8
        by_cases h0 : i = 0
        · rw [if_pos h0, if_neg (by omega), if_pos h8]
        · rw [if_neg h0, if_pos (by omega)]
      · rw [if_neg h8, if_neg (by omega), if_neg h8]
def hdB (k : Int) (s p : Str) : List Str := (if k = 5 ∨ k = 7 ∨ k = 8 then [s] else []) ++ (if k = 8 then [p] else [])
theorem head_bnd (k : Int) (s p : Str) (es : List (Str × Str)) (n : Nat) :
    (headM k s p es n).2.2 = n + (hdB k s p).length ∧ hdB k (headM k s p es n).1 (headM k s p es n).2.1 = nextN n (hdB k s p) := by
  unfold headM hdB
  by_cases h1 : k = 1
  · rw [if_pos h1]; subst h1; simp [nextN]
  · rw [if_neg h1]
    by_cases h5 : k = 5 ∨ k = 7
    · rw [if_pos h5]
      have h8 : ¬ k = 8 := by omega
      rw [if_pos (by omega), if_neg h8, if_pos (by omega)]; simp [nextN]
    · rw [if_neg h5]
      by_cases h8 : k = 8
      · rw [if_pos h8, if_pos (by omega), if_pos h8, if_pos (by omega), if_pos h8]; simp [nextN]
      · rw [if_neg h8, if_neg (by omega), if_neg h8]; simp [nextN]
theorem bndT_hd (t : Tm) : bndT t = (hdB t.kind t.name t.param ++ bndKs t.kids) ++ bndAs t.arms := bndT_eq t
/-- The names that are bound in a renamed term are those of the term, numbered in order. -/
theorem bnd_ren (t : Tm) : ∀ (es : List (Str × Str)) (n : Nat), (renT t es n).2 = n + (bndT t).length ∧ bndT (renT t es n).1 = nextN n (bndT t) := by
  induction t using Tm.rec_ with
  | h t ihk iha =>
    intro es n
    have hks : ∀ (ts : List Tm), (∀ u ∈ ts, u ∈ t.kids) → ∀ (f g : Nat → List Str) (i m : Nat), (renKs f g i es ts m).2 = m + (bndKs ts).length ∧ bndKs (renKs f g i es ts m).1 = nextN m (bndKs ts) := by
      intro ts
      induction ts with
      | nil => intro _ f g i m; simp [renKs, bndKs, nextN]
      | cons u ts ih =>
        intro hm f g i m
        obtain ⟨g1, g2⟩ := ihk u (hm u (.head _)) (withM es (f i) (g i)) m
        obtain ⟨q1, q2⟩ := ih (fun v hv => hm v (.tail _ hv)) f g (i + 1) (renT u (withM es (f i) (g i)) m).2
        simp only [renKs, bndKs]
        rw [q1, q2, g1, g2, nextN_app, List.length_append]
        exact ⟨by omega, rfl⟩
    have has : ∀ (ts : List Ar), (∀ a ∈ ts, a ∈ t.arms) → ∀ (m : Nat), (renAs es ts m).2 = m + (bndAs ts).length ∧ bndAs (renAs es ts m).1 = nextN m (bndAs ts) := by
      intro ts
      induction ts with
      | nil => intro _ m; simp [renAs, bndAs, nextN]
      | cons a ts ih =>
        intro hm m
        have g := iha a (hm a (.head _))
        have q := ih (fun v hv => hm v (.tail _ hv))
        obtain ⟨s, vs, b⟩ := a
        simp only [Ar.body] at g
        obtain ⟨g1, g2⟩ := g (withM es vs (nextN m vs)) (m + vs.length)
        obtain ⟨q1, q2⟩ := q (renT b (withM es vs (nextN m vs)) (m + vs.length)).2
        simp only [renAs, bndAs]
        rw [q1, q2, g1, g2, nextN_app, nextN_app, List.length_append, List.length_append]
        exact ⟨by omega, by rw [Nat.add_assoc]⟩
    obtain ⟨h1, h2⟩ := head_bnd t.kind t.name t.param es n
    rw [renT_eq, bndT_hd t]
    obtain ⟨k1, k2⟩ := hks t.kids (fun _ h => h) (boundM t.kind t.name t.param) (boundM t.kind (headM t.kind t.name t.param es n).1 (headM t.kind t.name t.param es n).2.1) 0 (headM t.kind t.name t.param es n).2.2
    obtain ⟨a1, a2⟩ := has t.arms (fun _ h => h) (renKs (boundM t.kind t.name t.param) (boundM t.kind (headM t.kind t.name t.param es n).1 (headM t.kind t.name t.param es n).2.1) 0 es t.kids (headM t.kind t.name t.param es n).2.2).2
    refine ⟨?_, ?_⟩
    · show (renAs _ _ _).2 = _
      rw [a1, k1, h1, List.length_append, List.length_append]; omega
    · rw [bndT_hd]
      show (hdB t.kind (headM t.kind t.name t.param es n).1 (headM t.kind t.name t.param es n).2.1 ++ bndKs (renKs (boundM t.kind t.name t.param) (boundM t.kind (headM t.kind t.name t.param es n).1 (headM t.kind t.name t.param es n).2.1) 0 es t.kids (headM t.kind t.name t.param es n).2.2).1) ++ bndAs (renAs es t.arms (renKs (boundM t.kind t.name t.param) (boundM t.kind (headM t.kind t.name t.param es n).1 (headM t.kind t.name t.param es n).2.1) 0 es t.kids (headM t.kind t.name t.param es n).2.2).2).1 = _
      rw [a2, k2, h2, k1, h1, nextN_app, nextN_app, List.length_append, Nat.add_assoc]

end Go.Proofs.YteamjgbhcjojaaaDoor
