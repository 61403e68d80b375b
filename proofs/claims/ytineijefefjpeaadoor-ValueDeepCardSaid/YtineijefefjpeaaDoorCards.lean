/-
  DERIVED. GIVEN WITH THE SEED: THE CARDS: each row of YtineijefefjpeaaDoorRows.lean that lists a variable, with what it lists TIED to the program's text (the seventh form; the later family's looks); each row that meets fmt, with fmt's text TOLD by the authors' own Lean function (tested against real Go, not proved from fmt's source: count such statements apart). THE CARD IS WHAT COUNTS. Prove the row's statement (the work); the ties are given (YtineijefefjpeaaDoorTie.lean); close each card by the builder's one call (the guide's Derived/Test/ToyasCard.lean, 'card_holds'). Laid BY PROGRAM, IN A SANDBOX (cutbox-door.mjs). By AI agents, Wed Nov 11 2026. No macro, syntax, notation, axiom, sorry.
-/
import Derived.Test.YtineijefefjpeaaDoorRows
import GoSem.ClaimSeven
namespace Go.Proofs.YtineijefefjpeaaDoor
namespace Rows

/-- THE TIED CARD OF 'brocadelaw11.ValueTells'. -/
def valueTellsCard : Claim7 := { stood := { row := valueTellsRow, standIns := [], harness := (true, "835fb9d2789afcc804bf47e54a2afeefd7969867d85edd3a99dec5d55e580be7"), looks := false }, kinds := [], alts := [], laidByText := true, laidKinds := [.data, .data, .data], laidTests := true, laidLooks := .later }
def ValueTellsCardSaid : Prop := Claim7.holds Tryd.pinned (.plain (OpenSpec.ofChange valueTellsSpec)) valueTellsCard

/-- THE TIED CARD OF 'brocadelaw11.ValueOps'. -/
def valueOpsCard : Claim7 := { stood := { row := valueOpsRow, standIns := [], harness := (true, "835fb9d2789afcc804bf47e54a2afeefd7969867d85edd3a99dec5d55e580be7"), looks := false }, kinds := [], alts := [], laidByText := true, laidKinds := [.data, .data, .data], laidTests := true, laidLooks := .later }
def ValueOpsCardSaid : Prop := Claim7.holds Tryd.pinned (.plain (OpenSpec.ofChange valueOpsSpec)) valueOpsCard

/-- THE TIED CARD OF 'brocadelaw11.ValueLaws'. -/
def valueLawsCard : Claim7 := { stood := { row := valueLawsRow, standIns := [], harness := (true, "835fb9d2789afcc804bf47e54a2afeefd7969867d85edd3a99dec5d55e580be7"), looks := false }, kinds := [], alts := [], laidByText := true, laidKinds := [.data, .data, .data], laidTests := true, laidLooks := .later }
def ValueLawsCardSaid : Prop := Claim7.holds Tryd.pinned (.plain (OpenSpec.ofChange valueLawsSpec)) valueLawsCard

/-- THE TIED CARD OF 'brocadelaw11.ValueTexts'. -/
def valueTextsCard : Claim7 := { stood := { row := valueTextsRow, standIns := [], harness := (true, "835fb9d2789afcc804bf47e54a2afeefd7969867d85edd3a99dec5d55e580be7"), looks := false }, kinds := [], alts := [], laidByText := true, laidKinds := [.data, .data, .data], laidTests := true, laidLooks := .later }
def ValueTextsCardSaid : Prop := Claim7.holds Tryd.pinned (.plain (OpenSpec.ofChange valueTextsSpec)) valueTextsCard

/-- THE TIED CARD OF 'brocadelaw11.ValueDeep'. -/
def valueDeepCard : Claim7 := { stood := { row := valueDeepRow, standIns := [], harness := (true, "835fb9d2789afcc804bf47e54a2afeefd7969867d85edd3a99dec5d55e580be7"), looks := false }, kinds := [], alts := [], laidByText := true, laidKinds := [.data, .data, .data], laidTests := true, laidLooks := .later }
def ValueDeepCardSaid : Prop := Claim7.holds Tryd.pinned (.plain (OpenSpec.ofChange valueDeepSpec)) valueDeepCard

/-- THE TIED CARD OF 'brocadelaw11.ValueSame'. -/
def valueSameCard : Claim7 := { stood := { row := valueSameRow, standIns := [], harness := (true, "835fb9d2789afcc804bf47e54a2afeefd7969867d85edd3a99dec5d55e580be7"), looks := false }, kinds := [], alts := [], laidByText := true, laidKinds := [.data, .data, .data], laidTests := true, laidLooks := .later }
def ValueSameCardSaid : Prop := Claim7.holds Tryd.pinned (.plain (OpenSpec.ofChange valueSameSpec)) valueSameCard

/-- THE TIED CARD OF 'brocadelaw11.ValueCons'. -/
def valueConsCard : Claim7 := { stood := { row := valueConsRow, standIns := [], harness := (true, "835fb9d2789afcc804bf47e54a2afeefd7969867d85edd3a99dec5d55e580be7"), looks := false }, kinds := [], alts := [], laidByText := true, laidKinds := [.data, .data, .data], laidTests := true, laidLooks := .later }
def ValueConsCardSaid : Prop := Claim7.holds Tryd.pinned (.plain (OpenSpec.ofChange valueConsSpec)) valueConsCard

/-- THE TIED CARD OF 'brocadelaw11.ValueOrder'. -/
def valueOrderCard : Claim7 := { stood := { row := valueOrderRow, standIns := [], harness := (true, "835fb9d2789afcc804bf47e54a2afeefd7969867d85edd3a99dec5d55e580be7"), looks := false }, kinds := [], alts := [], laidByText := true, laidKinds := [.data, .data, .data], laidTests := true, laidLooks := .later }
def ValueOrderCardSaid : Prop := Claim7.holds Tryd.pinned (.plain (OpenSpec.ofChange valueOrderSpec)) valueOrderCard

/-- THE SECOND FORM's CARD OF 'brocadelaw11.ValueTells'. -/
def valueTellsUptoCard : Claim7 := { stood := { row := valueTellsUptoRow, standIns := [], harness := (true, "835fb9d2789afcc804bf47e54a2afeefd7969867d85edd3a99dec5d55e580be7"), looks := false }, kinds := [], alts := [], laidByText := true, laidKinds := [.data, .data, .data], laidTests := true, laidLooks := .later }
def ValueTellsUptoCardSaid : Prop := Claim7.holds Tryd.pinned (.plain (OpenSpec.upto valueTellsSpec)) valueTellsUptoCard

/-- THE SECOND FORM's CARD OF 'brocadelaw11.ValueOps'. -/
def valueOpsUptoCard : Claim7 := { stood := { row := valueOpsUptoRow, standIns := [], harness := (true, "835fb9d2789afcc804bf47e54a2afeefd7969867d85edd3a99dec5d55e580be7"), looks := false }, kinds := [], alts := [], laidByText := true, laidKinds := [.data, .data, .data], laidTests := true, laidLooks := .later }
def ValueOpsUptoCardSaid : Prop := Claim7.holds Tryd.pinned (.plain (OpenSpec.upto valueOpsSpec)) valueOpsUptoCard

/-- THE SECOND FORM's CARD OF 'brocadelaw11.ValueLaws'. -/
def valueLawsUptoCard : Claim7 := { stood := { row := valueLawsUptoRow, standIns := [], harness := (true, "835fb9d2789afcc804bf47e54a2afeefd7969867d85edd3a99dec5d55e580be7"), looks := false }, kinds := [], alts := [], laidByText := true, laidKinds := [.data, .data, .data], laidTests := true, laidLooks := .later }
def ValueLawsUptoCardSaid : Prop := Claim7.holds Tryd.pinned (.plain (OpenSpec.upto valueLawsSpec)) valueLawsUptoCard

/-- THE SECOND FORM's CARD OF 'brocadelaw11.ValueTexts'. -/
def valueTextsUptoCard : Claim7 := { stood := { row := valueTextsUptoRow, standIns := [], harness := (true, "835fb9d2789afcc804bf47e54a2afeefd7969867d85edd3a99dec5d55e580be7"), looks := false }, kinds := [], alts := [], laidByText := true, laidKinds := [.data, .data, .data], laidTests := true, laidLooks := .later }
def ValueTextsUptoCardSaid : Prop := Claim7.holds Tryd.pinned (.plain (OpenSpec.upto valueTextsSpec)) valueTextsUptoCard

/-- THE SECOND FORM's CARD OF 'brocadelaw11.ValueDeep'. -/
def valueDeepUptoCard : Claim7 := { stood := { row := valueDeepUptoRow, standIns := [], harness := (true, "835fb9d2789afcc804bf47e54a2afeefd7969867d85edd3a99dec5d55e580be7"), looks := false }, kinds := [], alts := [], laidByText := true, laidKinds := [.data, .data, .data], laidTests := true, laidLooks := .later }
def ValueDeepUptoCardSaid : Prop := Claim7.holds Tryd.pinned (.plain (OpenSpec.upto valueDeepSpec)) valueDeepUptoCard

/-- THE SECOND FORM's CARD OF 'brocadelaw11.ValueSame'. -/
def valueSameUptoCard : Claim7 := { stood := { row := valueSameUptoRow, standIns := [], harness := (true, "835fb9d2789afcc804bf47e54a2afeefd7969867d85edd3a99dec5d55e580be7"), looks := false }, kinds := [], alts := [], laidByText := true, laidKinds := [.data, .data, .data], laidTests := true, laidLooks := .later }
def ValueSameUptoCardSaid : Prop := Claim7.holds Tryd.pinned (.plain (OpenSpec.upto valueSameSpec)) valueSameUptoCard

/-- THE SECOND FORM's CARD OF 'brocadelaw11.ValueCons'. -/
def valueConsUptoCard : Claim7 := { stood := { row := valueConsUptoRow, standIns := [], harness := (true, "835fb9d2789afcc804bf47e54a2afeefd7969867d85edd3a99dec5d55e580be7"), looks := false }, kinds := [], alts := [], laidByText := true, laidKinds := [.data, .data, .data], laidTests := true, laidLooks := .later }
def ValueConsUptoCardSaid : Prop := Claim7.holds Tryd.pinned (.plain (OpenSpec.upto valueConsSpec)) valueConsUptoCard

/-- THE SECOND FORM's CARD OF 'brocadelaw11.ValueOrder'. -/
def valueOrderUptoCard : Claim7 := { stood := { row := valueOrderUptoRow, standIns := [], harness := (true, "835fb9d2789afcc804bf47e54a2afeefd7969867d85edd3a99dec5d55e580be7"), looks := false }, kinds := [], alts := [], laidByText := true, laidKinds := [.data, .data, .data], laidTests := true, laidLooks := .later }
def ValueOrderUptoCardSaid : Prop := Claim7.holds Tryd.pinned (.plain (OpenSpec.upto valueOrderSpec)) valueOrderUptoCard
end Rows
end Go.Proofs.YtineijefefjpeaaDoor
