/-
  No cell of these rows narrows 'for every input' (looked for: loops, veiled, ifaces, maps, wideKeys, modest, calm, conditions, laid).
  DERIVED. THE GIVEN ROWS OF THIS SEAT. 5 by the template 'for every input the law returns true; each argument reads behind the call as it read before'; 0 by the template 'total and deterministic' (their statements: YtibkcojlgbmlhaaTotals.lean).
  GIVEN WITH THE SEED: the statements are not yours to turn. If you find one false, say at which input.
  Laid BY PROGRAM, IN A SANDBOX (cutbox-rows.mjs): the forced cells as the released guide's own fill.sh prints them over the translation 94f886fb8ba7498d… (all of the seat's roots in one cut). By AI agents, Wed Nov 11 2026. No macro, syntax, notation, axiom, sorry.
-/
import Derived.Test.YtibkcojlgbmlhaaChecked
import GoSem.Claim
import GoSem.ClaimJoined
import GoSem.ClaimMapViews
import Derived.JoinedTies
import Derived.KernelRfl
namespace Go.Proofs.Ytibkcojlgbmlhaa
/- THE CELL 'sum', in the pinned program and in every row, IS THE sha256 OF THE DUMP (.gsa) THAT YtibkcojlgbmlhaaProg.lean LOADS. Nothing in Lean hashes anything: it is a label: what it is worth is what the hold of that sum in a sandbox is worth. -/
noncomputable def Try.pinned : Pinned := { name := "ytibkcojlgbmlhaa", sum := "94f886fb8ba7498d08114c5b50ddb950cbddf69f9505cc7ee318241281fd6259", checked := Try.checked }
namespace Rows
def none {H : Type} : Left H := { results := [], args := [] }

/-- 'brocadelaw16.VectorStays': WHATEVER THE INPUT: true; the input reads as it did. -/
def vectorStaysSpec : ChangeSpec := { name := "vectorStays", fn := fun _ => fun
  | [d1, d2, d3, d4, d5] => { results := [.lit (.bool true)], args := [d1, d2, d3, d4, d5] }
  | _ => none }
def vectorStaysRow : OpenClaim := { program := "ytibkcojlgbmlhaa", sum := "94f886fb8ba7498d08114c5b50ddb950cbddf69f9505cc7ee318241281fd6259", func := "brocade/brocadelaw16.VectorStays", spec := "vectorStays", unfollowed := true, recurses := true, apart := false }
def VectorStaysSaid : Prop := vectorStaysRow.holds Try.pinned (OpenSpec.ofChange vectorStaysSpec)

/-- ITS FALSE NEIGHBOUR: 'it returns false'. Refute it at one input. -/
def vectorStaysWrong : ChangeSpec := { name := "vectorStays", fn := fun _ => fun
  | [d1, d2, d3, d4, d5] => { results := [.lit (.bool false)], args := [d1, d2, d3, d4, d5] }
  | _ => none }
def VectorStaysWrongFalsely : Prop := vectorStaysRow.holds Try.pinned (OpenSpec.ofChange vectorStaysWrong)

/-- 'brocadelaw16.VectorFirst': WHATEVER THE INPUT: true; the input reads as it did. -/
def vectorFirstSpec : ChangeSpec := { name := "vectorFirst", fn := fun _ => fun
  | [d1, d2] => { results := [.lit (.bool true)], args := [d1, d2] }
  | _ => none }
def vectorFirstRow : OpenClaim := { program := "ytibkcojlgbmlhaa", sum := "94f886fb8ba7498d08114c5b50ddb950cbddf69f9505cc7ee318241281fd6259", func := "brocade/brocadelaw16.VectorFirst", spec := "vectorFirst", unfollowed := true, recurses := true, apart := false }
def VectorFirstSaid : Prop := vectorFirstRow.holds Try.pinned (OpenSpec.ofChange vectorFirstSpec)

/-- ITS FALSE NEIGHBOUR: 'it returns false'. Refute it at one input. -/
def vectorFirstWrong : ChangeSpec := { name := "vectorFirst", fn := fun _ => fun
  | [d1, d2] => { results := [.lit (.bool false)], args := [d1, d2] }
  | _ => none }
def VectorFirstWrongFalsely : Prop := vectorFirstRow.holds Try.pinned (OpenSpec.ofChange vectorFirstWrong)

/-- 'brocadelaw16.VectorDrops': WHATEVER THE INPUT: true; the input reads as it did. -/
def vectorDropsSpec : ChangeSpec := { name := "vectorDrops", fn := fun _ => fun
  | [d1, d2, d3] => { results := [.lit (.bool true)], args := [d1, d2, d3] }
  | _ => none }
def vectorDropsRow : OpenClaim := { program := "ytibkcojlgbmlhaa", sum := "94f886fb8ba7498d08114c5b50ddb950cbddf69f9505cc7ee318241281fd6259", func := "brocade/brocadelaw16.VectorDrops", spec := "vectorDrops", unfollowed := true, recurses := true, apart := false }
def VectorDropsSaid : Prop := vectorDropsRow.holds Try.pinned (OpenSpec.ofChange vectorDropsSpec)

/-- ITS FALSE NEIGHBOUR: 'it returns false'. Refute it at one input. -/
def vectorDropsWrong : ChangeSpec := { name := "vectorDrops", fn := fun _ => fun
  | [d1, d2, d3] => { results := [.lit (.bool false)], args := [d1, d2, d3] }
  | _ => none }
def VectorDropsWrongFalsely : Prop := vectorDropsRow.holds Try.pinned (OpenSpec.ofChange vectorDropsWrong)

/-- 'brocadelaw16.VectorTells': WHATEVER THE INPUT: true; the input reads as it did. -/
def vectorTellsSpec : ChangeSpec := { name := "vectorTells", fn := fun _ => fun
  | [d1, d2, d3, d4] => { results := [.lit (.bool true)], args := [d1, d2, d3, d4] }
  | _ => none }
def vectorTellsRow : OpenClaim := { program := "ytibkcojlgbmlhaa", sum := "94f886fb8ba7498d08114c5b50ddb950cbddf69f9505cc7ee318241281fd6259", func := "brocade/brocadelaw16.VectorTells", spec := "vectorTells", unfollowed := true, recurses := true, apart := false }
def VectorTellsSaid : Prop := vectorTellsRow.holds Try.pinned (OpenSpec.ofChange vectorTellsSpec)

/-- ITS FALSE NEIGHBOUR: 'it returns false'. Refute it at one input. -/
def vectorTellsWrong : ChangeSpec := { name := "vectorTells", fn := fun _ => fun
  | [d1, d2, d3, d4] => { results := [.lit (.bool false)], args := [d1, d2, d3, d4] }
  | _ => none }
def VectorTellsWrongFalsely : Prop := vectorTellsRow.holds Try.pinned (OpenSpec.ofChange vectorTellsWrong)

/-- 'brocadelaw16.VectorNone': WHATEVER THE INPUT: true; the input reads as it did. -/
def vectorNoneSpec : ChangeSpec := { name := "vectorNone", fn := fun _ => fun
  | [d1, d2, d3] => { results := [.lit (.bool true)], args := [d1, d2, d3] }
  | _ => none }
def vectorNoneRow : OpenClaim := { program := "ytibkcojlgbmlhaa", sum := "94f886fb8ba7498d08114c5b50ddb950cbddf69f9505cc7ee318241281fd6259", func := "brocade/brocadelaw16.VectorNone", spec := "vectorNone", unfollowed := true, recurses := true, apart := false }
def VectorNoneSaid : Prop := vectorNoneRow.holds Try.pinned (OpenSpec.ofChange vectorNoneSpec)

/-- ITS FALSE NEIGHBOUR: 'it returns false'. Refute it at one input. -/
def vectorNoneWrong : ChangeSpec := { name := "vectorNone", fn := fun _ => fun
  | [d1, d2, d3] => { results := [.lit (.bool false)], args := [d1, d2, d3] }
  | _ => none }
def VectorNoneWrongFalsely : Prop := vectorNoneRow.holds Try.pinned (OpenSpec.ofChange vectorNoneWrong)

/- THE SECOND FORM. 'bulk': how many values and letters a reading holds, each counted each time it is reached (what is shared counts as often as it is met; a slice's spare places count too). A statement '..UptoSaid' is the law's where the arguments, and the package variables that the reading takes, are together of bulk at most 1048576: NARROWER than '..Said'. Prove '..Said' where nothing that the law and all that it calls make is longer than what came in: it says more and counts as full. Else prove '..UptoSaid'. A law counts once. -/
mutual
def uptoBulk {H : Type} : DataW H → Nat
  | .lit (.string bytes) => bytes.length + 1
  | .lit _ => 1
  | .nil => 1
  | .ptr d => uptoBulk d + 1
  | .slice elems spare => uptoBulkAll elems + uptoBulkAll spare + 1
  | .agg parts => uptoBulkAll parts + 1
  | .iface _ d => uptoBulk d + 1
  | .map entries => uptoBulkEntries entries + 1
  | .held _ => 1
def uptoBulkAll {H : Type} : List (DataW H) → Nat
  | [] => 0
  | d :: r => uptoBulk d + uptoBulkAll r
def uptoBulkEntries {H : Type} : List (Lit × DataW H) → Nat
  | [] => 0
  | x :: r => uptoBulkEntry x + uptoBulkEntries r
def uptoBulkEntry {H : Type} : Lit × DataW H → Nat
  | (.string bytes, d) => bytes.length + uptoBulk d + 1
  | (_, d) => uptoBulk d + 1
 end
def uptoSmall : (H : Type) → List (DataW H) → Bool := fun _ ds => decide (uptoBulkAll ds ≤ 1048576)
def OpenSpec.upto (s : _root_.Go.ChangeSpec) : _root_.Go.OpenSpec := { _root_.Go.OpenSpec.ofChange s with cond := some uptoSmall }

/-- 'brocadelaw16.VectorStays', WHERE WHAT IT READS IS OF BULK AT MOST 1048576: true; the input reads as it did. -/
def vectorStaysUptoRow : OpenClaim := { program := "ytibkcojlgbmlhaa", sum := "94f886fb8ba7498d08114c5b50ddb950cbddf69f9505cc7ee318241281fd6259", func := "brocade/brocadelaw16.VectorStays", spec := "vectorStays", unfollowed := true, recurses := true, apart := false, narrowed := true }
def VectorStaysUptoSaid : Prop := vectorStaysUptoRow.holds Try.pinned (OpenSpec.upto vectorStaysSpec)

/-- 'brocadelaw16.VectorFirst', WHERE WHAT IT READS IS OF BULK AT MOST 1048576: true; the input reads as it did. -/
def vectorFirstUptoRow : OpenClaim := { program := "ytibkcojlgbmlhaa", sum := "94f886fb8ba7498d08114c5b50ddb950cbddf69f9505cc7ee318241281fd6259", func := "brocade/brocadelaw16.VectorFirst", spec := "vectorFirst", unfollowed := true, recurses := true, apart := false, narrowed := true }
def VectorFirstUptoSaid : Prop := vectorFirstUptoRow.holds Try.pinned (OpenSpec.upto vectorFirstSpec)

/-- 'brocadelaw16.VectorDrops', WHERE WHAT IT READS IS OF BULK AT MOST 1048576: true; the input reads as it did. -/
def vectorDropsUptoRow : OpenClaim := { program := "ytibkcojlgbmlhaa", sum := "94f886fb8ba7498d08114c5b50ddb950cbddf69f9505cc7ee318241281fd6259", func := "brocade/brocadelaw16.VectorDrops", spec := "vectorDrops", unfollowed := true, recurses := true, apart := false, narrowed := true }
def VectorDropsUptoSaid : Prop := vectorDropsUptoRow.holds Try.pinned (OpenSpec.upto vectorDropsSpec)

/-- 'brocadelaw16.VectorTells', WHERE WHAT IT READS IS OF BULK AT MOST 1048576: true; the input reads as it did. -/
def vectorTellsUptoRow : OpenClaim := { program := "ytibkcojlgbmlhaa", sum := "94f886fb8ba7498d08114c5b50ddb950cbddf69f9505cc7ee318241281fd6259", func := "brocade/brocadelaw16.VectorTells", spec := "vectorTells", unfollowed := true, recurses := true, apart := false, narrowed := true }
def VectorTellsUptoSaid : Prop := vectorTellsUptoRow.holds Try.pinned (OpenSpec.upto vectorTellsSpec)

/-- 'brocadelaw16.VectorNone', WHERE WHAT IT READS IS OF BULK AT MOST 1048576: true; the input reads as it did. -/
def vectorNoneUptoRow : OpenClaim := { program := "ytibkcojlgbmlhaa", sum := "94f886fb8ba7498d08114c5b50ddb950cbddf69f9505cc7ee318241281fd6259", func := "brocade/brocadelaw16.VectorNone", spec := "vectorNone", unfollowed := true, recurses := true, apart := false, narrowed := true }
def VectorNoneUptoSaid : Prop := vectorNoneUptoRow.holds Try.pinned (OpenSpec.upto vectorNoneSpec)

end Rows
end Go.Proofs.Ytibkcojlgbmlhaa
