/-
  'brocadelaw07': what the laws say, in plain words. Conditions: those of each theorem.
-/
import Derived.Test.YtlidonjpgigocaaGreatP7
namespace Go.Proofs.YtlidonjpgigocaaGreat
set_option linter.all false
set_option maxRecDepth 4000
open Go.RowKit
-- what the laws ask of a run
theorem oneT_self {n : Int} {t : Ty} : applyT (oneT n t) (varT n) = t := by rw [applyT_var rfl]; simp [oneT, alook, varT, Ty.var]
theorem run_three {U V : USt} {a b c : Ty} {R1 R2 : Int × USt} (ra : rightT a = true) (rb : rightT b = true) (h1 : Ran U a b R1) (h2 : Ran R1.2 a c R2) (e1 : R1.1 = 0) (e2 : R2.1 = 0) : applyT R2.2.s a = applyT R2.2.s b ∧ applyT R2.2.s b = applyT R2.2.s c := by
  have h := h1.eq e1
  have h3 : applyT R2.2.s a = applyT R2.2.s b := by rw [← abs_type h2.ab a ra, ← abs_type h2.ab b rb, h]
  exact ⟨h3, by rw [← h3]; exact h2.eq e2⟩
theorem run_self {rv : List Int} {w : Nat} {U : USt} (h : SmU rv w U) {a : Ty} (ra : rightT a = true) : applyT U.s (applyT U.s a) = applyT U.s a := abs_type h.inv.self a ra

end Go.Proofs.YtlidonjpgigocaaGreat
