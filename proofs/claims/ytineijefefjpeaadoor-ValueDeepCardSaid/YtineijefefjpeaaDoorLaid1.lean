/-
  What the rows' lists of variables give: the table of Itoa stands where it is laid; a world in which all listed variables stand. Conditions: none.
-/
import Derived.Test.YtineijefefjpeaaDoorOpens
import Derived.LaidSub
import Derived.MakeChecks
import Derived.LaidLaws
import Derived.Lib.LaidTab
namespace Go.Proofs.YtineijefefjpeaaDoor
set_option linter.all false
open Go.RowKit
abbrev theLaid : List (String × DataW Unit) := Rows.valueOpsRow.laid
theorem table {W : World} (h : laidMetH Tryd.prog theLaid W) : Tab W := by
  rw [Go.MakeChecks.laidMetH_plain _ _ _ (by kernel_rfl)] at h
  have h2 := h.filter (fun x => x.1 == "internal/strconv.uint64pow10")
  have e : (theLaid.filter fun x => x.1 == "internal/strconv.uint64pow10") = [("internal/strconv.uint64pow10", Go.Lib.tabData .u64 Go.Lib.pow10Tab)] := by kernel_rfl
  rw [e] at h2
  exact Go.Lib.tabIs_of_head (g := 0) (rest := []) (by kernel_rfl) (by kernel_rfl) Tryd.underlying82 Tryd.underlying35 (by kernel_rfl) (by kernel_rfl) h2
def litV : DataW Unit → Value
  | .lit (.int k n) => .int k n
  | _ => undef
def tabCells : DataW Unit → Array Value
  | .agg l => (l.map litV).toArray
  | _ => #[]
def layTab (h : Array Obj) (g : Nat) (cs : Array Value) : Array Obj := h.modify g fun
  | .cells _ t f => .cells cs t f
  | o => o
/-- The settled world, the listed variables laid. -/
noncomputable def laidWorld (os : Os) : World :=
  { World.holding Tryd.prog os ⟨#[], #[], []⟩ with heap := layTab (layTab (layTab ((World.holding Tryd.prog os ⟨#[], #[], []⟩).heap) 2 (tabCells (Rows.laid_math_bits_deBruijn32tab (H := Unit)))) 3 (tabCells (Rows.laid_math_bits_deBruijn64tab (H := Unit)))) 0 (tabCells (Rows.laid_internal_strconv_uint64pow10 (H := Unit))) }
end Go.Proofs.YtineijefefjpeaaDoor
