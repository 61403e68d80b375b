/-
  DERIVED. GIVEN WITH THE SEED: THE CARDS: each row of YtlihpgjabohebaaDoorRows.lean that lists a variable, with what it lists TIED to the program's text (the seventh form; the later family's looks); each row that meets fmt, with fmt's text TOLD by the authors' own Lean function (tested against real Go, not proved from fmt's source: count such statements apart). THE CARD IS WHAT COUNTS. Prove the row's statement (the work); the ties are given (YtlihpgjabohebaaDoorTie.lean); close each card by the builder's one call (the guide's Derived/Test/ToyasCard.lean, 'card_holds'). Laid BY PROGRAM, IN A SANDBOX (cutbox-door.mjs). By AI agents, Wed Nov 11 2026. No macro, syntax, notation, axiom, sorry.
-/
import Derived.Test.YtlihpgjabohebaaDoorRows
import GoSem.ClaimSeven
namespace Go.Proofs.YtlihpgjabohebaaDoor
namespace Rows

/-- THE TIED CARD OF 'brocadelaw15.CodeOpen'. -/
def codeOpenCard : Claim7 := { stood := { row := codeOpenRow, standIns := [], harness := (true, "276efe6642bea89f8a938a8282947d3a4b0794b6f24c6cafeb1565b7d73877b8"), looks := false }, kinds := [], alts := [], laidByText := true, laidKinds := [.data, .data, .data], laidTests := true, laidLooks := .later }
def CodeOpenCardSaid : Prop := Claim7.holds Tryd.pinned (.plain (OpenSpec.ofChange codeOpenSpec)) codeOpenCard

/-- THE TIED CARD OF 'brocadelaw15.CodeArms'. -/
def codeArmsCard : Claim7 := { stood := { row := codeArmsRow, standIns := [], harness := (true, "276efe6642bea89f8a938a8282947d3a4b0794b6f24c6cafeb1565b7d73877b8"), looks := false }, kinds := [], alts := [], laidByText := true, laidKinds := [.data, .data, .data], laidTests := true, laidLooks := .later }
def CodeArmsCardSaid : Prop := Claim7.holds Tryd.pinned (.plain (OpenSpec.ofChange codeArmsSpec)) codeArmsCard

/-- THE TIED CARD OF 'brocadelaw15.CodeTells'. -/
def codeTellsCard : Claim7 := { stood := { row := codeTellsRow, standIns := [], harness := (true, "276efe6642bea89f8a938a8282947d3a4b0794b6f24c6cafeb1565b7d73877b8"), looks := false }, kinds := [], alts := [], laidByText := true, laidKinds := [.data, .data, .data], laidTests := true, laidLooks := .later }
def CodeTellsCardSaid : Prop := Claim7.holds Tryd.pinned (.plain (OpenSpec.ofChange codeTellsSpec)) codeTellsCard

/-- THE TIED CARD OF 'brocadelaw15.CodeParts'. -/
def codePartsCard : Claim7 := { stood := { row := codePartsRow, standIns := [], harness := (true, "276efe6642bea89f8a938a8282947d3a4b0794b6f24c6cafeb1565b7d73877b8"), looks := false }, kinds := [], alts := [], laidByText := true, laidKinds := [.data, .data, .data], laidTests := true, laidLooks := .later }
def CodePartsCardSaid : Prop := Claim7.holds Tryd.pinned (.plain (OpenSpec.ofChange codePartsSpec)) codePartsCard

/-- THE TIED CARD OF 'brocadelaw15.CodeBinds'. -/
def codeBindsCard : Claim7 := { stood := { row := codeBindsRow, standIns := [], harness := (true, "276efe6642bea89f8a938a8282947d3a4b0794b6f24c6cafeb1565b7d73877b8"), looks := false }, kinds := [], alts := [], laidByText := true, laidKinds := [.data, .data, .data], laidTests := true, laidLooks := .later }
def CodeBindsCardSaid : Prop := Claim7.holds Tryd.pinned (.plain (OpenSpec.ofChange codeBindsSpec)) codeBindsCard

/-- THE TIED CARD OF 'brocadelaw15.CodeTexts'. -/
def codeTextsCard : Claim7 := { stood := { row := codeTextsRow, standIns := [], harness := (true, "276efe6642bea89f8a938a8282947d3a4b0794b6f24c6cafeb1565b7d73877b8"), looks := false }, kinds := [], alts := [], laidByText := true, laidKinds := [.data, .data, .data], laidTests := true, laidLooks := .later }
def CodeTextsCardSaid : Prop := Claim7.holds Tryd.pinned (.plain (OpenSpec.ofChange codeTextsSpec)) codeTextsCard

/-- THE TIED CARD OF 'brocadelaw15.CodeAtoms'. -/
def codeAtomsCard : Claim7 := { stood := { row := codeAtomsRow, standIns := [], harness := (true, "276efe6642bea89f8a938a8282947d3a4b0794b6f24c6cafeb1565b7d73877b8"), looks := false }, kinds := [], alts := [], laidByText := true, laidKinds := [.data, .data, .data], laidTests := true, laidLooks := .later }
def CodeAtomsCardSaid : Prop := Claim7.holds Tryd.pinned (.plain (OpenSpec.ofChange codeAtomsSpec)) codeAtomsCard

/-- THE SECOND FORM's CARD OF 'brocadelaw15.CodeOpen'. -/
def codeOpenUptoCard : Claim7 := { stood := { row := codeOpenUptoRow, standIns := [], harness := (true, "276efe6642bea89f8a938a8282947d3a4b0794b6f24c6cafeb1565b7d73877b8"), looks := false }, kinds := [], alts := [], laidByText := true, laidKinds := [.data, .data, .data], laidTests := true, laidLooks := .later }
def CodeOpenUptoCardSaid : Prop := Claim7.holds Tryd.pinned (.plain (OpenSpec.upto codeOpenSpec)) codeOpenUptoCard

/-- THE SECOND FORM's CARD OF 'brocadelaw15.CodeArms'. -/
def codeArmsUptoCard : Claim7 := { stood := { row := codeArmsUptoRow, standIns := [], harness := (true, "276efe6642bea89f8a938a8282947d3a4b0794b6f24c6cafeb1565b7d73877b8"), looks := false }, kinds := [], alts := [], laidByText := true, laidKinds := [.data, .data, .data], laidTests := true, laidLooks := .later }
def CodeArmsUptoCardSaid : Prop := Claim7.holds Tryd.pinned (.plain (OpenSpec.upto codeArmsSpec)) codeArmsUptoCard

/-- THE SECOND FORM's CARD OF 'brocadelaw15.CodeTells'. -/
def codeTellsUptoCard : Claim7 := { stood := { row := codeTellsUptoRow, standIns := [], harness := (true, "276efe6642bea89f8a938a8282947d3a4b0794b6f24c6cafeb1565b7d73877b8"), looks := false }, kinds := [], alts := [], laidByText := true, laidKinds := [.data, .data, .data], laidTests := true, laidLooks := .later }
def CodeTellsUptoCardSaid : Prop := Claim7.holds Tryd.pinned (.plain (OpenSpec.upto codeTellsSpec)) codeTellsUptoCard

/-- THE SECOND FORM's CARD OF 'brocadelaw15.CodeParts'. -/
def codePartsUptoCard : Claim7 := { stood := { row := codePartsUptoRow, standIns := [], harness := (true, "276efe6642bea89f8a938a8282947d3a4b0794b6f24c6cafeb1565b7d73877b8"), looks := false }, kinds := [], alts := [], laidByText := true, laidKinds := [.data, .data, .data], laidTests := true, laidLooks := .later }
def CodePartsUptoCardSaid : Prop := Claim7.holds Tryd.pinned (.plain (OpenSpec.upto codePartsSpec)) codePartsUptoCard

/-- THE SECOND FORM's CARD OF 'brocadelaw15.CodeBinds'. -/
def codeBindsUptoCard : Claim7 := { stood := { row := codeBindsUptoRow, standIns := [], harness := (true, "276efe6642bea89f8a938a8282947d3a4b0794b6f24c6cafeb1565b7d73877b8"), looks := false }, kinds := [], alts := [], laidByText := true, laidKinds := [.data, .data, .data], laidTests := true, laidLooks := .later }
def CodeBindsUptoCardSaid : Prop := Claim7.holds Tryd.pinned (.plain (OpenSpec.upto codeBindsSpec)) codeBindsUptoCard

/-- THE SECOND FORM's CARD OF 'brocadelaw15.CodeTexts'. -/
def codeTextsUptoCard : Claim7 := { stood := { row := codeTextsUptoRow, standIns := [], harness := (true, "276efe6642bea89f8a938a8282947d3a4b0794b6f24c6cafeb1565b7d73877b8"), looks := false }, kinds := [], alts := [], laidByText := true, laidKinds := [.data, .data, .data], laidTests := true, laidLooks := .later }
def CodeTextsUptoCardSaid : Prop := Claim7.holds Tryd.pinned (.plain (OpenSpec.upto codeTextsSpec)) codeTextsUptoCard

/-- THE SECOND FORM's CARD OF 'brocadelaw15.CodeAtoms'. -/
def codeAtomsUptoCard : Claim7 := { stood := { row := codeAtomsUptoRow, standIns := [], harness := (true, "276efe6642bea89f8a938a8282947d3a4b0794b6f24c6cafeb1565b7d73877b8"), looks := false }, kinds := [], alts := [], laidByText := true, laidKinds := [.data, .data, .data], laidTests := true, laidLooks := .later }
def CodeAtomsUptoCardSaid : Prop := Claim7.holds Tryd.pinned (.plain (OpenSpec.upto codeAtomsSpec)) codeAtomsUptoCard
end Rows
end Go.Proofs.YtlihpgjabohebaaDoor
