/-
  DERIVED. GIVEN WITH THE SEED: THE CARDS: each row of YtembdjghbphcdaaDoorRows.lean that lists a variable, with what it lists TIED to the program's text (the seventh form; the later family's looks); each row that meets fmt, with fmt's text TOLD by the authors' own Lean function (tested against real Go, not proved from fmt's source: count such statements apart). THE CARD IS WHAT COUNTS. Prove the row's statement (the work); the ties are given (YtembdjghbphcdaaDoorTie.lean); close each card by the builder's one call (the guide's Derived/Test/ToyasCard.lean, 'card_holds'). Laid BY PROGRAM, IN A SANDBOX (cutbox-door.mjs). By AI agents, Wed Nov 11 2026. No macro, syntax, notation, axiom, sorry.
-/
import Derived.Test.YtembdjghbphcdaaDoorRows
import GoSem.ClaimSeven
namespace Go.Proofs.YtembdjghbphcdaaDoor
namespace Rows

/-- THE TIED CARD OF 'brocadelaw04.TypesTexts'. -/
def typesTextsCard : Claim7 := { stood := { row := typesTextsRow, standIns := [], harness := (true, "1833ec7f3079f5eadfaca56c26a0bc37a8938e7e21918285e1469cf4157fe423"), looks := false }, kinds := [], alts := [], laidByText := true, laidKinds := [.data, .data, .data], laidTests := true, laidLooks := .later }
def TypesTextsCardSaid : Prop := Claim7.holds Tryd.pinned (.plain (OpenSpec.ofChange typesTextsSpec)) typesTextsCard

/-- THE TIED CARD OF 'brocadelaw04.TypesUnlike'. -/
def typesUnlikeCard : Claim7 := { stood := { row := typesUnlikeRow, standIns := [], harness := (true, "1833ec7f3079f5eadfaca56c26a0bc37a8938e7e21918285e1469cf4157fe423"), looks := false }, kinds := [], alts := [], laidByText := true, laidKinds := [.data, .data, .data], laidTests := true, laidLooks := .later }
def TypesUnlikeCardSaid : Prop := Claim7.holds Tryd.pinned (.plain (OpenSpec.ofChange typesUnlikeSpec)) typesUnlikeCard

/-- THE TIED CARD OF 'brocadelaw04.TypesFuns'. -/
def typesFunsCard : Claim7 := { stood := { row := typesFunsRow, standIns := [], harness := (true, "1833ec7f3079f5eadfaca56c26a0bc37a8938e7e21918285e1469cf4157fe423"), looks := false }, kinds := [], alts := [], laidByText := true, laidKinds := [.data, .data, .data], laidTests := true, laidLooks := .later }
def TypesFunsCardSaid : Prop := Claim7.holds Tryd.pinned (.plain (OpenSpec.ofChange typesFunsSpec)) typesFunsCard

/-- THE TIED CARD OF 'brocadelaw04.TypesDeep'. -/
def typesDeepCard : Claim7 := { stood := { row := typesDeepRow, standIns := [], harness := (true, "1833ec7f3079f5eadfaca56c26a0bc37a8938e7e21918285e1469cf4157fe423"), looks := false }, kinds := [], alts := [], laidByText := true, laidKinds := [.data, .data, .data], laidTests := true, laidLooks := .later }
def TypesDeepCardSaid : Prop := Claim7.holds Tryd.pinned (.plain (OpenSpec.ofChange typesDeepSpec)) typesDeepCard

/-- THE TIED CARD OF 'brocadelaw04.TypesRefs'. -/
def typesRefsCard : Claim7 := { stood := { row := typesRefsRow, standIns := [], harness := (true, "1833ec7f3079f5eadfaca56c26a0bc37a8938e7e21918285e1469cf4157fe423"), looks := false }, kinds := [], alts := [], laidByText := true, laidKinds := [.data, .data, .data], laidTests := true, laidLooks := .later }
def TypesRefsCardSaid : Prop := Claim7.holds Tryd.pinned (.plain (OpenSpec.ofChange typesRefsSpec)) typesRefsCard

/-- THE TIED CARD OF 'brocadelaw04.TypesSorts'. -/
def typesSortsCard : Claim7 := { stood := { row := typesSortsRow, standIns := [], harness := (true, "1833ec7f3079f5eadfaca56c26a0bc37a8938e7e21918285e1469cf4157fe423"), looks := false }, kinds := [], alts := [], laidByText := true, laidKinds := [.data, .data, .data], laidTests := true, laidLooks := .later }
def TypesSortsCardSaid : Prop := Claim7.holds Tryd.pinned (.plain (OpenSpec.ofChange typesSortsSpec)) typesSortsCard

/-- THE TIED CARD OF 'brocadelaw04.TypesLabels'. -/
def typesLabelsCard : Claim7 := { stood := { row := typesLabelsRow, standIns := [], harness := (true, "1833ec7f3079f5eadfaca56c26a0bc37a8938e7e21918285e1469cf4157fe423"), looks := false }, kinds := [], alts := [], laidByText := true, laidKinds := [.data, .data, .data], laidTests := true, laidLooks := .later }
def TypesLabelsCardSaid : Prop := Claim7.holds Tryd.pinned (.plain (OpenSpec.ofChange typesLabelsSpec)) typesLabelsCard

/-- THE TIED CARD OF 'brocadelaw04.TypesCommon'. -/
def typesCommonCard : Claim7 := { stood := { row := typesCommonRow, standIns := [], harness := (true, "1833ec7f3079f5eadfaca56c26a0bc37a8938e7e21918285e1469cf4157fe423"), looks := false }, kinds := [], alts := [], laidByText := true, laidKinds := [.data, .data, .data], laidTests := true, laidLooks := .later }
def TypesCommonCardSaid : Prop := Claim7.holds Tryd.pinned (.plain (OpenSpec.ofChange typesCommonSpec)) typesCommonCard

/-- THE SECOND FORM's CARD OF 'brocadelaw04.TypesTexts'. -/
def typesTextsUptoCard : Claim7 := { stood := { row := typesTextsUptoRow, standIns := [], harness := (true, "1833ec7f3079f5eadfaca56c26a0bc37a8938e7e21918285e1469cf4157fe423"), looks := false }, kinds := [], alts := [], laidByText := true, laidKinds := [.data, .data, .data], laidTests := true, laidLooks := .later }
def TypesTextsUptoCardSaid : Prop := Claim7.holds Tryd.pinned (.plain (OpenSpec.upto typesTextsSpec)) typesTextsUptoCard

/-- THE SECOND FORM's CARD OF 'brocadelaw04.TypesUnlike'. -/
def typesUnlikeUptoCard : Claim7 := { stood := { row := typesUnlikeUptoRow, standIns := [], harness := (true, "1833ec7f3079f5eadfaca56c26a0bc37a8938e7e21918285e1469cf4157fe423"), looks := false }, kinds := [], alts := [], laidByText := true, laidKinds := [.data, .data, .data], laidTests := true, laidLooks := .later }
def TypesUnlikeUptoCardSaid : Prop := Claim7.holds Tryd.pinned (.plain (OpenSpec.upto typesUnlikeSpec)) typesUnlikeUptoCard

/-- THE SECOND FORM's CARD OF 'brocadelaw04.TypesFuns'. -/
def typesFunsUptoCard : Claim7 := { stood := { row := typesFunsUptoRow, standIns := [], harness := (true, "1833ec7f3079f5eadfaca56c26a0bc37a8938e7e21918285e1469cf4157fe423"), looks := false }, kinds := [], alts := [], laidByText := true, laidKinds := [.data, .data, .data], laidTests := true, laidLooks := .later }
def TypesFunsUptoCardSaid : Prop := Claim7.holds Tryd.pinned (.plain (OpenSpec.upto typesFunsSpec)) typesFunsUptoCard

/-- THE SECOND FORM's CARD OF 'brocadelaw04.TypesDeep'. -/
def typesDeepUptoCard : Claim7 := { stood := { row := typesDeepUptoRow, standIns := [], harness := (true, "1833ec7f3079f5eadfaca56c26a0bc37a8938e7e21918285e1469cf4157fe423"), looks := false }, kinds := [], alts := [], laidByText := true, laidKinds := [.data, .data, .data], laidTests := true, laidLooks := .later }
def TypesDeepUptoCardSaid : Prop := Claim7.holds Tryd.pinned (.plain (OpenSpec.upto typesDeepSpec)) typesDeepUptoCard

/-- THE SECOND FORM's CARD OF 'brocadelaw04.TypesRefs'. -/
def typesRefsUptoCard : Claim7 := { stood := { row := typesRefsUptoRow, standIns := [], harness := (true, "1833ec7f3079f5eadfaca56c26a0bc37a8938e7e21918285e1469cf4157fe423"), looks := false }, kinds := [], alts := [], laidByText := true, laidKinds := [.data, .data, .data], laidTests := true, laidLooks := .later }
def TypesRefsUptoCardSaid : Prop := Claim7.holds Tryd.pinned (.plain (OpenSpec.upto typesRefsSpec)) typesRefsUptoCard

/-- THE SECOND FORM's CARD OF 'brocadelaw04.TypesSorts'. -/
def typesSortsUptoCard : Claim7 := { stood := { row := typesSortsUptoRow, standIns := [], harness := (true, "1833ec7f3079f5eadfaca56c26a0bc37a8938e7e21918285e1469cf4157fe423"), looks := false }, kinds := [], alts := [], laidByText := true, laidKinds := [.data, .data, .data], laidTests := true, laidLooks := .later }
def TypesSortsUptoCardSaid : Prop := Claim7.holds Tryd.pinned (.plain (OpenSpec.upto typesSortsSpec)) typesSortsUptoCard

/-- THE SECOND FORM's CARD OF 'brocadelaw04.TypesLabels'. -/
def typesLabelsUptoCard : Claim7 := { stood := { row := typesLabelsUptoRow, standIns := [], harness := (true, "1833ec7f3079f5eadfaca56c26a0bc37a8938e7e21918285e1469cf4157fe423"), looks := false }, kinds := [], alts := [], laidByText := true, laidKinds := [.data, .data, .data], laidTests := true, laidLooks := .later }
def TypesLabelsUptoCardSaid : Prop := Claim7.holds Tryd.pinned (.plain (OpenSpec.upto typesLabelsSpec)) typesLabelsUptoCard

/-- THE SECOND FORM's CARD OF 'brocadelaw04.TypesCommon'. -/
def typesCommonUptoCard : Claim7 := { stood := { row := typesCommonUptoRow, standIns := [], harness := (true, "1833ec7f3079f5eadfaca56c26a0bc37a8938e7e21918285e1469cf4157fe423"), looks := false }, kinds := [], alts := [], laidByText := true, laidKinds := [.data, .data, .data], laidTests := true, laidLooks := .later }
def TypesCommonUptoCardSaid : Prop := Claim7.holds Tryd.pinned (.plain (OpenSpec.upto typesCommonSpec)) typesCommonUptoCard
end Rows
end Go.Proofs.YtembdjghbphcdaaDoor
