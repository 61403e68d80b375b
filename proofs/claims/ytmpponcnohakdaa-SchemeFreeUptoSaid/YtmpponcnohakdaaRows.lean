/-
  NARROWER THAN 'FOR EVERY INPUT', by the rows' own cells (each row's printed sentence says how): SchemeInstances: loops · SchemeFree: loops · SchemeRenamed: loops.
  DERIVED. THE GIVEN ROWS OF THIS SEAT. 3 by the template 'for every input the law returns true; each argument reads behind the call as it read before'; 0 by the template 'total and deterministic' (their statements: YtmpponcnohakdaaTotals.lean).
  GIVEN WITH THE SEED: the statements are not yours to turn. If you find one false, say at which input.
  Laid BY PROGRAM, IN A SANDBOX (cutbox-rows.mjs): the forced cells as the released guide's own fill.sh prints them over the translation 9156667a1f3a8faf… (all of the seat's roots in one cut). By AI agents, Wed Nov 11 2026. No macro, syntax, notation, axiom, sorry.
-/
import Derived.Test.YtmpponcnohakdaaChecked
import GoSem.Claim
import GoSem.ClaimJoined
import GoSem.ClaimMapViews
import Derived.JoinedTies
import Derived.KernelRfl
namespace Go.Proofs.Ytmpponcnohakdaa
/- THE CELL 'sum', in the pinned program and in every row, IS THE sha256 OF THE DUMP (.gsa) THAT YtmpponcnohakdaaProg.lean LOADS. Nothing in Lean hashes anything: it is a label: what it is worth is what the hold of that sum in a sandbox is worth. -/
noncomputable def Try.pinned : Pinned := { name := "ytmpponcnohakdaa", sum := "9156667a1f3a8fafbaf931a1cc23046809ed11e8f2f6aad12aa1c1cd27402b53", checked := Try.checked }
namespace Rows
def none {H : Type} : Left H := { results := [], args := [] }

/-- 'brocadelaw08.SchemeInstances': WHATEVER THE INPUT: true; the input reads as it did. -/
def schemeInstancesSpec : ChangeSpec := { name := "schemeInstances", fn := fun _ => fun
  | [d1, d2, d3, d4] => { results := [.lit (.bool true)], args := [d1, d2, d3, d4] }
  | _ => none }
def schemeInstancesRow : OpenClaim := { program := "ytmpponcnohakdaa", sum := "9156667a1f3a8fafbaf931a1cc23046809ed11e8f2f6aad12aa1c1cd27402b53", func := "brocade/brocadelaw08.SchemeInstances", spec := "schemeInstances", inPlace := ["maps.clone"], unfollowed := true, recurses := true, loops := true, apart := false }
def SchemeInstancesSaid : Prop := schemeInstancesRow.holds Try.pinned (OpenSpec.ofChange schemeInstancesSpec)

/-- ITS FALSE NEIGHBOUR: 'it returns false'. Refute it at one input. -/
def schemeInstancesWrong : ChangeSpec := { name := "schemeInstances", fn := fun _ => fun
  | [d1, d2, d3, d4] => { results := [.lit (.bool false)], args := [d1, d2, d3, d4] }
  | _ => none }
def SchemeInstancesWrongFalsely : Prop := schemeInstancesRow.holds Try.pinned (OpenSpec.ofChange schemeInstancesWrong)

/-- 'brocadelaw08.SchemeFree': WHATEVER THE INPUT: true; the input reads as it did. -/
def schemeFreeSpec : ChangeSpec := { name := "schemeFree", fn := fun _ => fun
  | [d1, d2, d3] => { results := [.lit (.bool true)], args := [d1, d2, d3] }
  | _ => none }
def schemeFreeRow : OpenClaim := { program := "ytmpponcnohakdaa", sum := "9156667a1f3a8fafbaf931a1cc23046809ed11e8f2f6aad12aa1c1cd27402b53", func := "brocade/brocadelaw08.SchemeFree", spec := "schemeFree", inPlace := ["maps.clone"], unfollowed := true, recurses := true, loops := true, apart := false }
def SchemeFreeSaid : Prop := schemeFreeRow.holds Try.pinned (OpenSpec.ofChange schemeFreeSpec)

/-- ITS FALSE NEIGHBOUR: 'it returns false'. Refute it at one input. -/
def schemeFreeWrong : ChangeSpec := { name := "schemeFree", fn := fun _ => fun
  | [d1, d2, d3] => { results := [.lit (.bool false)], args := [d1, d2, d3] }
  | _ => none }
def SchemeFreeWrongFalsely : Prop := schemeFreeRow.holds Try.pinned (OpenSpec.ofChange schemeFreeWrong)

/-- 'brocadelaw08.SchemeRenamed': WHATEVER THE INPUT: true; the input reads as it did. -/
def schemeRenamedSpec : ChangeSpec := { name := "schemeRenamed", fn := fun _ => fun
  | [d1, d2] => { results := [.lit (.bool true)], args := [d1, d2] }
  | _ => none }
def schemeRenamedRow : OpenClaim := { program := "ytmpponcnohakdaa", sum := "9156667a1f3a8fafbaf931a1cc23046809ed11e8f2f6aad12aa1c1cd27402b53", func := "brocade/brocadelaw08.SchemeRenamed", spec := "schemeRenamed", inPlace := ["maps.clone"], unfollowed := true, recurses := true, loops := true, apart := false }
def SchemeRenamedSaid : Prop := schemeRenamedRow.holds Try.pinned (OpenSpec.ofChange schemeRenamedSpec)

/-- ITS FALSE NEIGHBOUR: 'it returns false'. Refute it at one input. -/
def schemeRenamedWrong : ChangeSpec := { name := "schemeRenamed", fn := fun _ => fun
  | [d1, d2] => { results := [.lit (.bool false)], args := [d1, d2] }
  | _ => none }
def SchemeRenamedWrongFalsely : Prop := schemeRenamedRow.holds Try.pinned (OpenSpec.ofChange schemeRenamedWrong)

/- THE SECOND FORM. 'bulk': how many values and letters a reading holds, each counted each time it is reached (what is shared counts as often as it is met; a slice's spare places count too). A statement '..UptoSaid' is the law's where the arguments, and the package variables that the reading takes, are together of bulk at most 1048576: NARROWER than '..Said'. Prove '..Said' where nothing that the law and all that it calls make is longer than what came in: it says more and counts as full. Else prove '..UptoSaid'. A law counts once. -/
mutual
def uptoBulk {H : Type} : DataW H → Nat
  | .lit (.string bytes) => bytes.length + 1
  | .lit _ => 1
  | .nil => 1
  | .ptr d => uptoBulk d + 1
  | .slice elems spare => uptoBulkAll elems + uptoBulkAll spare + 1
  | .agg parts => uptoBulkAll parts + 1
  | .iface _ d => uptoBulk d + 1
  | .map entries => uptoBulkEntries entries + 1
  | .held _ => 1
def uptoBulkAll {H : Type} : List (DataW H) → Nat
  | [] => 0
  | d :: r => uptoBulk d + uptoBulkAll r
def uptoBulkEntries {H : Type} : List (Lit × DataW H) → Nat
  | [] => 0
  | x :: r => uptoBulkEntry x + uptoBulkEntries r
def uptoBulkEntry {H : Type} : Lit × DataW H → Nat
  | (.string bytes, d) => bytes.length + uptoBulk d + 1
  | (_, d) => uptoBulk d + 1
 end
def uptoSmall : (H : Type) → List (DataW H) → Bool := fun _ ds => decide (uptoBulkAll ds ≤ 1048576)
def OpenSpec.upto (s : _root_.Go.ChangeSpec) : _root_.Go.OpenSpec := { _root_.Go.OpenSpec.ofChange s with cond := some uptoSmall }

/-- 'brocadelaw08.SchemeInstances', WHERE WHAT IT READS IS OF BULK AT MOST 1048576: true; the input reads as it did. -/
def schemeInstancesUptoRow : OpenClaim := { program := "ytmpponcnohakdaa", sum := "9156667a1f3a8fafbaf931a1cc23046809ed11e8f2f6aad12aa1c1cd27402b53", func := "brocade/brocadelaw08.SchemeInstances", spec := "schemeInstances", inPlace := ["maps.clone"], unfollowed := true, recurses := true, loops := true, apart := false, narrowed := true }
def SchemeInstancesUptoSaid : Prop := schemeInstancesUptoRow.holds Try.pinned (OpenSpec.upto schemeInstancesSpec)

/-- 'brocadelaw08.SchemeFree', WHERE WHAT IT READS IS OF BULK AT MOST 1048576: true; the input reads as it did. -/
def schemeFreeUptoRow : OpenClaim := { program := "ytmpponcnohakdaa", sum := "9156667a1f3a8fafbaf931a1cc23046809ed11e8f2f6aad12aa1c1cd27402b53", func := "brocade/brocadelaw08.SchemeFree", spec := "schemeFree", inPlace := ["maps.clone"], unfollowed := true, recurses := true, loops := true, apart := false, narrowed := true }
def SchemeFreeUptoSaid : Prop := schemeFreeUptoRow.holds Try.pinned (OpenSpec.upto schemeFreeSpec)

/-- 'brocadelaw08.SchemeRenamed', WHERE WHAT IT READS IS OF BULK AT MOST 1048576: true; the input reads as it did. -/
def schemeRenamedUptoRow : OpenClaim := { program := "ytmpponcnohakdaa", sum := "9156667a1f3a8fafbaf931a1cc23046809ed11e8f2f6aad12aa1c1cd27402b53", func := "brocade/brocadelaw08.SchemeRenamed", spec := "schemeRenamed", inPlace := ["maps.clone"], unfollowed := true, recurses := true, loops := true, apart := false, narrowed := true }
def SchemeRenamedUptoSaid : Prop := schemeRenamedUptoRow.holds Try.pinned (OpenSpec.upto schemeRenamedSpec)

end Rows
end Go.Proofs.Ytmpponcnohakdaa
