/-
  DERIVED. GIVEN WITH THE SEED: THE CARDS: each row of YtmdhhjmomilhjaaDoorRows.lean that lists a variable, with what it lists TIED to the program's text (the seventh form; the later family's looks); each row that meets fmt, with fmt's text TOLD by the authors' own Lean function (tested against real Go, not proved from fmt's source: count such statements apart). THE CARD IS WHAT COUNTS. Prove the row's statement (the work); the ties are given (YtmdhhjmomilhjaaDoorTie.lean); close each card by the builder's one call (the guide's Derived/Test/ToyasCard.lean, 'card_holds'). Laid BY PROGRAM, IN A SANDBOX (cutbox-door.mjs). By AI agents, Wed Nov 11 2026. No macro, syntax, notation, axiom, sorry.
-/
import Derived.Test.YtmdhhjmomilhjaaDoorRows
import GoSem.ClaimSeven
namespace Go.Proofs.YtmdhhjmomilhjaaDoor
namespace Rows

/-- THE TIED CARD OF 'brocadelaw17.LowerTells'. -/
def lowerTellsCard : Claim7 := { stood := { row := lowerTellsRow, standIns := [], harness := (true, "49af177e50e4fb6a044fa6ac49bd5e2c19fa3ee588695aafe5573e0b8851c274"), looks := false }, kinds := [], alts := [], laidByText := true, laidKinds := [.data, .data, .data], laidTests := true, laidLooks := .later }
def LowerTellsCardSaid : Prop := Claim7.holds Tryd.pinned (.plain (OpenSpec.ofChange lowerTellsSpec)) lowerTellsCard

/-- THE TIED CARD OF 'brocadelaw17.LowerAtoms'. -/
def lowerAtomsCard : Claim7 := { stood := { row := lowerAtomsRow, standIns := [], harness := (true, "49af177e50e4fb6a044fa6ac49bd5e2c19fa3ee588695aafe5573e0b8851c274"), looks := false }, kinds := [], alts := [], laidByText := true, laidKinds := [.data, .data, .data], laidTests := true, laidLooks := .later }
def LowerAtomsCardSaid : Prop := Claim7.holds Tryd.pinned (.plain (OpenSpec.ofChange lowerAtomsSpec)) lowerAtomsCard

/-- THE TIED CARD OF 'brocadelaw17.LowerSelects'. -/
def lowerSelectsCard : Claim7 := { stood := { row := lowerSelectsRow, standIns := [], harness := (true, "49af177e50e4fb6a044fa6ac49bd5e2c19fa3ee588695aafe5573e0b8851c274"), looks := false }, kinds := [], alts := [], laidByText := true, laidKinds := [.data, .data, .data], laidTests := true, laidLooks := .later }
def LowerSelectsCardSaid : Prop := Claim7.holds Tryd.pinned (.plain (OpenSpec.ofChange lowerSelectsSpec)) lowerSelectsCard

/-- THE TIED CARD OF 'brocadelaw17.LowerTails'. -/
def lowerTailsCard : Claim7 := { stood := { row := lowerTailsRow, standIns := [], harness := (true, "49af177e50e4fb6a044fa6ac49bd5e2c19fa3ee588695aafe5573e0b8851c274"), looks := false }, kinds := [], alts := [], laidByText := true, laidKinds := [.data, .data, .data], laidTests := true, laidLooks := .later }
def LowerTailsCardSaid : Prop := Claim7.holds Tryd.pinned (.plain (OpenSpec.ofChange lowerTailsSpec)) lowerTailsCard

/-- THE TIED CARD OF 'brocadelaw17.LowerNames'. -/
def lowerNamesCard : Claim7 := { stood := { row := lowerNamesRow, standIns := [], harness := (true, "49af177e50e4fb6a044fa6ac49bd5e2c19fa3ee588695aafe5573e0b8851c274"), looks := false }, kinds := [], alts := [], laidByText := true, laidKinds := [.data, .data, .data], laidTests := true, laidLooks := .later }
def LowerNamesCardSaid : Prop := Claim7.holds Tryd.pinned (.plain (OpenSpec.ofChange lowerNamesSpec)) lowerNamesCard

/-- THE TIED CARD OF 'brocadelaw17.LowerLight'. -/
def lowerLightCard : Claim7 := { stood := { row := lowerLightRow, standIns := [], harness := (true, "49af177e50e4fb6a044fa6ac49bd5e2c19fa3ee588695aafe5573e0b8851c274"), looks := false }, kinds := [], alts := [], laidByText := true, laidKinds := [.data, .data, .data], laidTests := true, laidLooks := .later }
def LowerLightCardSaid : Prop := Claim7.holds Tryd.pinned (.plain (OpenSpec.ofChange lowerLightSpec)) lowerLightCard

/-- THE SECOND FORM's CARD OF 'brocadelaw17.LowerTells'. -/
def lowerTellsUptoCard : Claim7 := { stood := { row := lowerTellsUptoRow, standIns := [], harness := (true, "49af177e50e4fb6a044fa6ac49bd5e2c19fa3ee588695aafe5573e0b8851c274"), looks := false }, kinds := [], alts := [], laidByText := true, laidKinds := [.data, .data, .data], laidTests := true, laidLooks := .later }
def LowerTellsUptoCardSaid : Prop := Claim7.holds Tryd.pinned (.plain (OpenSpec.upto lowerTellsSpec)) lowerTellsUptoCard

/-- THE SECOND FORM's CARD OF 'brocadelaw17.LowerAtoms'. -/
def lowerAtomsUptoCard : Claim7 := { stood := { row := lowerAtomsUptoRow, standIns := [], harness := (true, "49af177e50e4fb6a044fa6ac49bd5e2c19fa3ee588695aafe5573e0b8851c274"), looks := false }, kinds := [], alts := [], laidByText := true, laidKinds := [.data, .data, .data], laidTests := true, laidLooks := .later }
def LowerAtomsUptoCardSaid : Prop := Claim7.holds Tryd.pinned (.plain (OpenSpec.upto lowerAtomsSpec)) lowerAtomsUptoCard

/-- THE SECOND FORM's CARD OF 'brocadelaw17.LowerSelects'. -/
def lowerSelectsUptoCard : Claim7 := { stood := { row := lowerSelectsUptoRow, standIns := [], harness := (true, "49af177e50e4fb6a044fa6ac49bd5e2c19fa3ee588695aafe5573e0b8851c274"), looks := false }, kinds := [], alts := [], laidByText := true, laidKinds := [.data, .data, .data], laidTests := true, laidLooks := .later }
def LowerSelectsUptoCardSaid : Prop := Claim7.holds Tryd.pinned (.plain (OpenSpec.upto lowerSelectsSpec)) lowerSelectsUptoCard

/-- THE SECOND FORM's CARD OF 'brocadelaw17.LowerTails'. -/
def lowerTailsUptoCard : Claim7 := { stood := { row := lowerTailsUptoRow, standIns := [], harness := (true, "49af177e50e4fb6a044fa6ac49bd5e2c19fa3ee588695aafe5573e0b8851c274"), looks := false }, kinds := [], alts := [], laidByText := true, laidKinds := [.data, .data, .data], laidTests := true, laidLooks := .later }
def LowerTailsUptoCardSaid : Prop := Claim7.holds Tryd.pinned (.plain (OpenSpec.upto lowerTailsSpec)) lowerTailsUptoCard

/-- THE SECOND FORM's CARD OF 'brocadelaw17.LowerNames'. -/
def lowerNamesUptoCard : Claim7 := { stood := { row := lowerNamesUptoRow, standIns := [], harness := (true, "49af177e50e4fb6a044fa6ac49bd5e2c19fa3ee588695aafe5573e0b8851c274"), looks := false }, kinds := [], alts := [], laidByText := true, laidKinds := [.data, .data, .data], laidTests := true, laidLooks := .later }
def LowerNamesUptoCardSaid : Prop := Claim7.holds Tryd.pinned (.plain (OpenSpec.upto lowerNamesSpec)) lowerNamesUptoCard

/-- THE SECOND FORM's CARD OF 'brocadelaw17.LowerLight'. -/
def lowerLightUptoCard : Claim7 := { stood := { row := lowerLightUptoRow, standIns := [], harness := (true, "49af177e50e4fb6a044fa6ac49bd5e2c19fa3ee588695aafe5573e0b8851c274"), looks := false }, kinds := [], alts := [], laidByText := true, laidKinds := [.data, .data, .data], laidTests := true, laidLooks := .later }
def LowerLightUptoCardSaid : Prop := Claim7.holds Tryd.pinned (.plain (OpenSpec.upto lowerLightSpec)) lowerLightUptoCard
end Rows
end Go.Proofs.YtmdhhjmomilhjaaDoor
