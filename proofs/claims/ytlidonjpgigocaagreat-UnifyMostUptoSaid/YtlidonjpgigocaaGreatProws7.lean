/-
  'brocadelaw07': what the laws say, in plain words. Conditions: those of each theorem.
-/
import Derived.Test.YtlidonjpgigocaaGreatShown7
namespace Go.Proofs.YtlidonjpgigocaaGreat
set_option linter.all false
set_option maxRecDepth 4000
open Go.RowKit
/-- Are all labels of the one in the other one? -/
def subS : List Str → List Str → Bool
  | [], _ => true
  | s :: r, l => decide (s ∈ l) && subS r (l.erase s)
theorem subS_more : ∀ (a l : List Str), subS a l = decide (moreS a l = [])
  | [], l => by simp [subS, moreS]
  | s :: r, l => by
    rw [subS]
    by_cases h : s ∈ l
    · rw [moreS_in h, decide_eq_true h, Bool.true_and, subS_more r]
    · rw [moreS_out h, decide_eq_false h]; simp
theorem rowOk_sort {ls : List Str} {rv : Int} (h : rowOk ls rv = true) : sortS ls = ls ∧ 0 ≤ rv := by
  unfold rowOk at h
  simp only [Bool.and_eq_true, decide_eq_true_eq] at h
  exact ⟨sortS_id h.1.2, h.1.1⟩
theorem applyR_none {r : Rw} (h : rowOk r.labels r.var = true) : applyR noneS r = r := by rw [applyR_out (.inl rfl), (rowOk_sort h).1]
theorem outU_fst (r : Int × USt) (U : USt) : (outU r U).1 = r.1 := by
  unfold outU; split
  · rfl
  · rename_i h; simp at h; exact h.symm
theorem rows_want {a b : Rw} {n : Int} (ha : rowOk a.labels a.var = true) (hb : rowOk b.labels b.var = true) :
    decide ((rowsU a b ⟨noneS, n⟩).1 = 0) = (if a.var = b.var then subS a.labels b.labels && subS b.labels a.labels else (subS a.labels b.labels || decide (0 < b.var)) && (subS b.labels a.labels || decide (0 < a.var))) := by
  have h1 := (rowOk_sort ha).2; have h2 := (rowOk_sort hb).2
  unfold rowsU
  simp only [applyR_none ha, applyR_none hb]
  rw [subS_more, subS_more]
  generalize moreS a.labels b.labels = p
  generalize moreS b.labels a.labels = q
  unfold rowsV
  by_cases hp : p = [] <;> by_cases hq : q = [] <;> by_cases hv : a.var = b.var
  · simp [hp, hq, hv]
  · simp [hp, hq, hv]; split <;> rfl
  · simp [hp, hq, hv]
  · by_cases hz : a.var = 0
    · simp [hp, hq, hz]
    · have : 0 < a.var := by omega
      simp [hp, hq, hv, hz, this]
  · simp [hp, hq, hv]
  · by_cases hz : b.var = 0
    · simp [hp, hq, hz]
    · have : 0 < b.var := by omega
      simp [hp, hq, hv, hz, this]
  · simp [hp, hq, hv]
  · by_cases hz : b.var = 0
    · simp [hp, hq, hz]
    · by_cases hy : a.var = 0
      · simp [hp, hq, hz, hy]
      · have h3 : 0 < a.var := by omega
        have h4 : 0 < b.var := by omega
        simp [hp, hq, hv, hz, hy, h3, h4]

end Go.Proofs.YtlidonjpgigocaaGreat
