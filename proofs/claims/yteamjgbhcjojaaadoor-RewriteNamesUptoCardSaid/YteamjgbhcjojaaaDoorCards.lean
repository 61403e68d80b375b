/-
  DERIVED. GIVEN WITH THE SEED: THE CARDS: each row of YteamjgbhcjojaaaDoorRows.lean that lists a variable, with what it lists TIED to the program's text (the seventh form; the later family's looks); each row that meets fmt, with fmt's text TOLD by the authors' own Lean function (tested against real Go, not proved from fmt's source: count such statements apart). THE CARD IS WHAT COUNTS. Prove the row's statement (the work); the ties are given (YteamjgbhcjojaaaDoorTie.lean); close each card by the builder's one call (the guide's Derived/Test/ToyasCard.lean, 'card_holds'). Laid BY PROGRAM, IN A SANDBOX (cutbox-door.mjs). By AI agents, Wed Nov 11 2026. No macro, syntax, notation, axiom, sorry.
-/
import Derived.Test.YteamjgbhcjojaaaDoorRows
import GoSem.ClaimSeven
namespace Go.Proofs.YteamjgbhcjojaaaDoor
namespace Rows

/-- THE TIED CARD OF 'brocadelaw14.RewriteAlike'. -/
def rewriteAlikeCard : Claim7 := { stood := { row := rewriteAlikeRow, standIns := [], harness := (true, "e94af341f6bb123c096f358428736fd1ed904a2a7ca387c5e48ee969b4020435"), looks := true }, kinds := [], alts := [], laidByText := true, laidKinds := [.data, .data, .data], laidTests := true, laidLooks := .later }
def RewriteAlikeCardSaid : Prop := Claim7.holds Tryd.pinned (.plain (OpenSpec.ofChange rewriteAlikeSpec)) rewriteAlikeCard

/-- THE TIED CARD OF 'brocadelaw14.RewriteOnce'. -/
def rewriteOnceCard : Claim7 := { stood := { row := rewriteOnceRow, standIns := [], harness := (true, "e94af341f6bb123c096f358428736fd1ed904a2a7ca387c5e48ee969b4020435"), looks := true }, kinds := [], alts := [], laidByText := true, laidKinds := [.data, .data, .data], laidTests := true, laidLooks := .later }
def RewriteOnceCardSaid : Prop := Claim7.holds Tryd.pinned (.plain (OpenSpec.ofChange rewriteOnceSpec)) rewriteOnceCard

/-- THE TIED CARD OF 'brocadelaw14.RewriteNames'. -/
def rewriteNamesCard : Claim7 := { stood := { row := rewriteNamesRow, standIns := [], harness := (true, "e94af341f6bb123c096f358428736fd1ed904a2a7ca387c5e48ee969b4020435"), looks := true }, kinds := [], alts := [], laidByText := true, laidKinds := [.data, .data, .data], laidTests := true, laidLooks := .later }
def RewriteNamesCardSaid : Prop := Claim7.holds Tryd.pinned (.plain (OpenSpec.ofChange rewriteNamesSpec)) rewriteNamesCard

/-- THE TIED CARD OF 'brocadelaw14.RewriteEqual'. -/
def rewriteEqualCard : Claim7 := { stood := { row := rewriteEqualRow, standIns := [], harness := (true, "e94af341f6bb123c096f358428736fd1ed904a2a7ca387c5e48ee969b4020435"), looks := true }, kinds := [], alts := [], laidByText := true, laidKinds := [.data, .data, .data], laidTests := true, laidLooks := .later }
def RewriteEqualCardSaid : Prop := Claim7.holds Tryd.pinned (.plain (OpenSpec.ofChange rewriteEqualSpec)) rewriteEqualCard

/-- THE SECOND FORM's CARD OF 'brocadelaw14.RewriteAlike'. -/
def rewriteAlikeUptoCard : Claim7 := { stood := { row := rewriteAlikeUptoRow, standIns := [], harness := (true, "e94af341f6bb123c096f358428736fd1ed904a2a7ca387c5e48ee969b4020435"), looks := true }, kinds := [], alts := [], laidByText := true, laidKinds := [.data, .data, .data], laidTests := true, laidLooks := .later }
def RewriteAlikeUptoCardSaid : Prop := Claim7.holds Tryd.pinned (.plain (OpenSpec.upto rewriteAlikeSpec)) rewriteAlikeUptoCard

/-- THE SECOND FORM's CARD OF 'brocadelaw14.RewriteOnce'. -/
def rewriteOnceUptoCard : Claim7 := { stood := { row := rewriteOnceUptoRow, standIns := [], harness := (true, "e94af341f6bb123c096f358428736fd1ed904a2a7ca387c5e48ee969b4020435"), looks := true }, kinds := [], alts := [], laidByText := true, laidKinds := [.data, .data, .data], laidTests := true, laidLooks := .later }
def RewriteOnceUptoCardSaid : Prop := Claim7.holds Tryd.pinned (.plain (OpenSpec.upto rewriteOnceSpec)) rewriteOnceUptoCard

/-- THE SECOND FORM's CARD OF 'brocadelaw14.RewriteNames'. -/
def rewriteNamesUptoCard : Claim7 := { stood := { row := rewriteNamesUptoRow, standIns := [], harness := (true, "e94af341f6bb123c096f358428736fd1ed904a2a7ca387c5e48ee969b4020435"), looks := true }, kinds := [], alts := [], laidByText := true, laidKinds := [.data, .data, .data], laidTests := true, laidLooks := .later }
def RewriteNamesUptoCardSaid : Prop := Claim7.holds Tryd.pinned (.plain (OpenSpec.upto rewriteNamesSpec)) rewriteNamesUptoCard

/-- THE SECOND FORM's CARD OF 'brocadelaw14.RewriteEqual'. -/
def rewriteEqualUptoCard : Claim7 := { stood := { row := rewriteEqualUptoRow, standIns := [], harness := (true, "e94af341f6bb123c096f358428736fd1ed904a2a7ca387c5e48ee969b4020435"), looks := true }, kinds := [], alts := [], laidByText := true, laidKinds := [.data, .data, .data], laidTests := true, laidLooks := .later }
def RewriteEqualUptoCardSaid : Prop := Claim7.holds Tryd.pinned (.plain (OpenSpec.upto rewriteEqualSpec)) rewriteEqualUptoCard
end Rows
end Go.Proofs.YteamjgbhcjojaaaDoor
