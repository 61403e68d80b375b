/-
  NARROWER THAN 'FOR EVERY INPUT', by the rows' own cells (each row's printed sentence says how): SubstLast: loops · SubstClosed: loops · SubstNone: loops · SubstThen: loops.
  DERIVED. THE GIVEN ROWS OF THIS SEAT. 4 by the template 'for every input the law returns true; each argument reads behind the call as it read before'; 0 by the template 'total and deterministic' (their statements: YtfphefkfbhjfdaaTotals.lean).
  GIVEN WITH THE SEED: the statements are not yours to turn. If you find one false, say at which input.
  Laid BY PROGRAM, IN A SANDBOX (cutbox-rows.mjs): the forced cells as the released guide's own fill.sh prints them over the translation 9cb6ddac357dd2e4… (all of the seat's roots in one cut). By AI agents, Wed Nov 11 2026. No macro, syntax, notation, axiom, sorry.
-/
import Derived.Test.YtfphefkfbhjfdaaChecked
import GoSem.Claim
import GoSem.ClaimJoined
import GoSem.ClaimMapViews
import Derived.JoinedTies
import Derived.KernelRfl
namespace Go.Proofs.Ytfphefkfbhjfdaa
/- THE CELL 'sum', in the pinned program and in every row, IS THE sha256 OF THE DUMP (.gsa) THAT YtfphefkfbhjfdaaProg.lean LOADS. Nothing in Lean hashes anything: it is a label: what it is worth is what the hold of that sum in a sandbox is worth. -/
noncomputable def Try.pinned : Pinned := { name := "ytfphefkfbhjfdaa", sum := "9cb6ddac357dd2e475ac6dc6e4289ac47a95e827417d31019a6c7d3d9bf35237", checked := Try.checked }
namespace Rows
def none {H : Type} : Left H := { results := [], args := [] }

/-- 'brocadelaw05.SubstLast': WHATEVER THE INPUT: true; the input reads as it did. -/
def substLastSpec : ChangeSpec := { name := "substLast", fn := fun _ => fun
  | [d1, d2, d3, d4, d5] => { results := [.lit (.bool true)], args := [d1, d2, d3, d4, d5] }
  | _ => none }
def substLastRow : OpenClaim := { program := "ytfphefkfbhjfdaa", sum := "9cb6ddac357dd2e475ac6dc6e4289ac47a95e827417d31019a6c7d3d9bf35237", func := "brocade/brocadelaw05.SubstLast", spec := "substLast", inPlace := ["maps.clone"], recurses := true, loops := true, apart := false }
def SubstLastSaid : Prop := substLastRow.holds Try.pinned (OpenSpec.ofChange substLastSpec)

/-- ITS FALSE NEIGHBOUR: 'it returns false'. Refute it at one input. -/
def substLastWrong : ChangeSpec := { name := "substLast", fn := fun _ => fun
  | [d1, d2, d3, d4, d5] => { results := [.lit (.bool false)], args := [d1, d2, d3, d4, d5] }
  | _ => none }
def SubstLastWrongFalsely : Prop := substLastRow.holds Try.pinned (OpenSpec.ofChange substLastWrong)

/-- 'brocadelaw05.SubstClosed': WHATEVER THE INPUT: true; the input reads as it did. -/
def substClosedSpec : ChangeSpec := { name := "substClosed", fn := fun _ => fun
  | [d1, d2, d3] => { results := [.lit (.bool true)], args := [d1, d2, d3] }
  | _ => none }
def substClosedRow : OpenClaim := { program := "ytfphefkfbhjfdaa", sum := "9cb6ddac357dd2e475ac6dc6e4289ac47a95e827417d31019a6c7d3d9bf35237", func := "brocade/brocadelaw05.SubstClosed", spec := "substClosed", inPlace := ["maps.clone"], recurses := true, loops := true, apart := false }
def SubstClosedSaid : Prop := substClosedRow.holds Try.pinned (OpenSpec.ofChange substClosedSpec)

/-- ITS FALSE NEIGHBOUR: 'it returns false'. Refute it at one input. -/
def substClosedWrong : ChangeSpec := { name := "substClosed", fn := fun _ => fun
  | [d1, d2, d3] => { results := [.lit (.bool false)], args := [d1, d2, d3] }
  | _ => none }
def SubstClosedWrongFalsely : Prop := substClosedRow.holds Try.pinned (OpenSpec.ofChange substClosedWrong)

/-- 'brocadelaw05.SubstNone': WHATEVER THE INPUT: true; the input reads as it did. -/
def substNoneSpec : ChangeSpec := { name := "substNone", fn := fun _ => fun
  | [d1, d2] => { results := [.lit (.bool true)], args := [d1, d2] }
  | _ => none }
def substNoneRow : OpenClaim := { program := "ytfphefkfbhjfdaa", sum := "9cb6ddac357dd2e475ac6dc6e4289ac47a95e827417d31019a6c7d3d9bf35237", func := "brocade/brocadelaw05.SubstNone", spec := "substNone", inPlace := ["maps.clone"], recurses := true, loops := true, apart := false }
def SubstNoneSaid : Prop := substNoneRow.holds Try.pinned (OpenSpec.ofChange substNoneSpec)

/-- ITS FALSE NEIGHBOUR: 'it returns false'. Refute it at one input. -/
def substNoneWrong : ChangeSpec := { name := "substNone", fn := fun _ => fun
  | [d1, d2] => { results := [.lit (.bool false)], args := [d1, d2] }
  | _ => none }
def SubstNoneWrongFalsely : Prop := substNoneRow.holds Try.pinned (OpenSpec.ofChange substNoneWrong)

/-- 'brocadelaw05.SubstThen': WHATEVER THE INPUT: true; the input reads as it did. -/
def substThenSpec : ChangeSpec := { name := "substThen", fn := fun _ => fun
  | [d1, d2, d3, d4] => { results := [.lit (.bool true)], args := [d1, d2, d3, d4] }
  | _ => none }
def substThenRow : OpenClaim := { program := "ytfphefkfbhjfdaa", sum := "9cb6ddac357dd2e475ac6dc6e4289ac47a95e827417d31019a6c7d3d9bf35237", func := "brocade/brocadelaw05.SubstThen", spec := "substThen", inPlace := ["maps.clone"], recurses := true, loops := true, apart := false }
def SubstThenSaid : Prop := substThenRow.holds Try.pinned (OpenSpec.ofChange substThenSpec)

/-- ITS FALSE NEIGHBOUR: 'it returns false'. Refute it at one input. -/
def substThenWrong : ChangeSpec := { name := "substThen", fn := fun _ => fun
  | [d1, d2, d3, d4] => { results := [.lit (.bool false)], args := [d1, d2, d3, d4] }
  | _ => none }
def SubstThenWrongFalsely : Prop := substThenRow.holds Try.pinned (OpenSpec.ofChange substThenWrong)

/- THE SECOND FORM. 'bulk': how many values and letters a reading holds, each counted each time it is reached (what is shared counts as often as it is met; a slice's spare places count too). A statement '..UptoSaid' is the law's where the arguments, and the package variables that the reading takes, are together of bulk at most 1048576: NARROWER than '..Said'. Prove '..Said' where nothing that the law and all that it calls make is longer than what came in: it says more and counts as full. Else prove '..UptoSaid'. A law counts once. -/
mutual
def uptoBulk {H : Type} : DataW H → Nat
  | .lit (.string bytes) => bytes.length + 1
  | .lit _ => 1
  | .nil => 1
  | .ptr d => uptoBulk d + 1
  | .slice elems spare => uptoBulkAll elems + uptoBulkAll spare + 1
  | .agg parts => uptoBulkAll parts + 1
  | .iface _ d => uptoBulk d + 1
  | .map entries => uptoBulkEntries entries + 1
  | .held _ => 1
def uptoBulkAll {H : Type} : List (DataW H) → Nat
  | [] => 0
  | d :: r => uptoBulk d + uptoBulkAll r
def uptoBulkEntries {H : Type} : List (Lit × DataW H) → Nat
  | [] => 0
  | x :: r => uptoBulkEntry x + uptoBulkEntries r
def uptoBulkEntry {H : Type} : Lit × DataW H → Nat
  | (.string bytes, d) => bytes.length + uptoBulk d + 1
  | (_, d) => uptoBulk d + 1
 end
def uptoSmall : (H : Type) → List (DataW H) → Bool := fun _ ds => decide (uptoBulkAll ds ≤ 1048576)
def OpenSpec.upto (s : _root_.Go.ChangeSpec) : _root_.Go.OpenSpec := { _root_.Go.OpenSpec.ofChange s with cond := some uptoSmall }

/-- 'brocadelaw05.SubstLast', WHERE WHAT IT READS IS OF BULK AT MOST 1048576: true; the input reads as it did. -/
def substLastUptoRow : OpenClaim := { program := "ytfphefkfbhjfdaa", sum := "9cb6ddac357dd2e475ac6dc6e4289ac47a95e827417d31019a6c7d3d9bf35237", func := "brocade/brocadelaw05.SubstLast", spec := "substLast", inPlace := ["maps.clone"], recurses := true, loops := true, apart := false, narrowed := true }
def SubstLastUptoSaid : Prop := substLastUptoRow.holds Try.pinned (OpenSpec.upto substLastSpec)

/-- 'brocadelaw05.SubstClosed', WHERE WHAT IT READS IS OF BULK AT MOST 1048576: true; the input reads as it did. -/
def substClosedUptoRow : OpenClaim := { program := "ytfphefkfbhjfdaa", sum := "9cb6ddac357dd2e475ac6dc6e4289ac47a95e827417d31019a6c7d3d9bf35237", func := "brocade/brocadelaw05.SubstClosed", spec := "substClosed", inPlace := ["maps.clone"], recurses := true, loops := true, apart := false, narrowed := true }
def SubstClosedUptoSaid : Prop := substClosedUptoRow.holds Try.pinned (OpenSpec.upto substClosedSpec)

/-- 'brocadelaw05.SubstNone', WHERE WHAT IT READS IS OF BULK AT MOST 1048576: true; the input reads as it did. -/
def substNoneUptoRow : OpenClaim := { program := "ytfphefkfbhjfdaa", sum := "9cb6ddac357dd2e475ac6dc6e4289ac47a95e827417d31019a6c7d3d9bf35237", func := "brocade/brocadelaw05.SubstNone", spec := "substNone", inPlace := ["maps.clone"], recurses := true, loops := true, apart := false, narrowed := true }
def SubstNoneUptoSaid : Prop := substNoneUptoRow.holds Try.pinned (OpenSpec.upto substNoneSpec)

/-- 'brocadelaw05.SubstThen', WHERE WHAT IT READS IS OF BULK AT MOST 1048576: true; the input reads as it did. -/
def substThenUptoRow : OpenClaim := { program := "ytfphefkfbhjfdaa", sum := "9cb6ddac357dd2e475ac6dc6e4289ac47a95e827417d31019a6c7d3d9bf35237", func := "brocade/brocadelaw05.SubstThen", spec := "substThen", inPlace := ["maps.clone"], recurses := true, loops := true, apart := false, narrowed := true }
def SubstThenUptoSaid : Prop := substThenUptoRow.holds Try.pinned (OpenSpec.upto substThenSpec)

end Rows
end Go.Proofs.Ytfphefkfbhjfdaa
