/-
  Rows of types, put behind one another. Conditions: none.
-/
import Derived.Test.YtfphefkfbhjfdaaAppend
import Derived.Test.YtfphefkfbhjfdaaTytree
namespace Go.Proofs.Ytfphefkfbhjfdaa
set_option linter.all false
open Go.RowKit
instance : RepR (fun m vs t => TyR m t vs) := ⟨fun hm h => h.mono hm, fun h => by obtain ⟨o, c, o2, c2, rfl, _⟩ := h.open_; rfl⟩
instance : RepR (fun m vs t => RwR m t vs) := ⟨fun hm h => h.mono hm, fun h => by obtain ⟨o, c, rfl, _⟩ := h.open_; rfl⟩
def MP.tys (l : List Ty) : MP := MP.mem (fun y : Option Addr × Nat => .slice y.1 l.length y.2) (fun y m => Tys m y.1 l.length y.2 l) fun hm h => h.mono hm
end Go.Proofs.Ytfphefkfbhjfdaa
