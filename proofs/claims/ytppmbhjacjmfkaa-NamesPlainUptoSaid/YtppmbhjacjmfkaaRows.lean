/-
  NARROWER THAN 'FOR EVERY INPUT', by the rows' own cells (each row's printed sentence says how): NamesLast: loops · NamesUses: loops · NamesParts: loops · NamesTell: loops · NamesPlain: loops.
  DERIVED. THE GIVEN ROWS OF THIS SEAT. 5 by the template 'for every input the law returns true; each argument reads behind the call as it read before'; 0 by the template 'total and deterministic' (their statements: YtppmbhjacjmfkaaTotals.lean).
  GIVEN WITH THE SEED: the statements are not yours to turn. If you find one false, say at which input.
  Laid BY PROGRAM, IN A SANDBOX (cutbox-rows.mjs): the forced cells as the released guide's own fill.sh prints them over the translation 7cf2de0331eb274a… (all of the seat's roots in one cut). By AI agents, Wed Nov 11 2026. No macro, syntax, notation, axiom, sorry.
-/
import Derived.Test.YtppmbhjacjmfkaaChecked
import GoSem.Claim
import GoSem.ClaimJoined
import GoSem.ClaimMapViews
import Derived.JoinedTies
import Derived.KernelRfl
namespace Go.Proofs.Ytppmbhjacjmfkaa
/- THE CELL 'sum', in the pinned program and in every row, IS THE sha256 OF THE DUMP (.gsa) THAT YtppmbhjacjmfkaaProg.lean LOADS. Nothing in Lean hashes anything: it is a label: what it is worth is what the hold of that sum in a sandbox is worth. -/
noncomputable def Try.pinned : Pinned := { name := "ytppmbhjacjmfkaa", sum := "7cf2de0331eb274a590d7d317704ff296eacc7cc11744c53682df81536fa974e", checked := Try.checked }
namespace Rows
def none {H : Type} : Left H := { results := [], args := [] }

/-- 'brocadelaw13.NamesLast': WHATEVER THE INPUT: true; the input reads as it did. -/
def namesLastSpec : ChangeSpec := { name := "namesLast", fn := fun _ => fun
  | [d1, d2, d3, d4, d5] => { results := [.lit (.bool true)], args := [d1, d2, d3, d4, d5] }
  | _ => none }
def namesLastRow : OpenClaim := { program := "ytppmbhjacjmfkaa", sum := "7cf2de0331eb274a590d7d317704ff296eacc7cc11744c53682df81536fa974e", func := "brocade/brocadelaw13.NamesLast", spec := "namesLast", unfollowed := true, recurses := true, loops := true, apart := false }
def NamesLastSaid : Prop := namesLastRow.holds Try.pinned (OpenSpec.ofChange namesLastSpec)

/-- ITS FALSE NEIGHBOUR: 'it returns false'. Refute it at one input. -/
def namesLastWrong : ChangeSpec := { name := "namesLast", fn := fun _ => fun
  | [d1, d2, d3, d4, d5] => { results := [.lit (.bool false)], args := [d1, d2, d3, d4, d5] }
  | _ => none }
def NamesLastWrongFalsely : Prop := namesLastRow.holds Try.pinned (OpenSpec.ofChange namesLastWrong)

/-- 'brocadelaw13.NamesUses': WHATEVER THE INPUT: true; the input reads as it did. -/
def namesUsesSpec : ChangeSpec := { name := "namesUses", fn := fun _ => fun
  | [d1, d2, d3] => { results := [.lit (.bool true)], args := [d1, d2, d3] }
  | _ => none }
def namesUsesRow : OpenClaim := { program := "ytppmbhjacjmfkaa", sum := "7cf2de0331eb274a590d7d317704ff296eacc7cc11744c53682df81536fa974e", func := "brocade/brocadelaw13.NamesUses", spec := "namesUses", unfollowed := true, recurses := true, loops := true, apart := false }
def NamesUsesSaid : Prop := namesUsesRow.holds Try.pinned (OpenSpec.ofChange namesUsesSpec)

/-- ITS FALSE NEIGHBOUR: 'it returns false'. Refute it at one input. -/
def namesUsesWrong : ChangeSpec := { name := "namesUses", fn := fun _ => fun
  | [d1, d2, d3] => { results := [.lit (.bool false)], args := [d1, d2, d3] }
  | _ => none }
def NamesUsesWrongFalsely : Prop := namesUsesRow.holds Try.pinned (OpenSpec.ofChange namesUsesWrong)

/-- 'brocadelaw13.NamesParts': WHATEVER THE INPUT: true; the input reads as it did. -/
def namesPartsSpec : ChangeSpec := { name := "namesParts", fn := fun _ => fun
  | [d1, d2, d3, d4, d5] => { results := [.lit (.bool true)], args := [d1, d2, d3, d4, d5] }
  | _ => none }
def namesPartsRow : OpenClaim := { program := "ytppmbhjacjmfkaa", sum := "7cf2de0331eb274a590d7d317704ff296eacc7cc11744c53682df81536fa974e", func := "brocade/brocadelaw13.NamesParts", spec := "namesParts", unfollowed := true, recurses := true, loops := true, apart := false }
def NamesPartsSaid : Prop := namesPartsRow.holds Try.pinned (OpenSpec.ofChange namesPartsSpec)

/-- ITS FALSE NEIGHBOUR: 'it returns false'. Refute it at one input. -/
def namesPartsWrong : ChangeSpec := { name := "namesParts", fn := fun _ => fun
  | [d1, d2, d3, d4, d5] => { results := [.lit (.bool false)], args := [d1, d2, d3, d4, d5] }
  | _ => none }
def NamesPartsWrongFalsely : Prop := namesPartsRow.holds Try.pinned (OpenSpec.ofChange namesPartsWrong)

/-- 'brocadelaw13.NamesTell': WHATEVER THE INPUT: true; the input reads as it did. -/
def namesTellSpec : ChangeSpec := { name := "namesTell", fn := fun _ => fun
  | [d1, d2, d3, d4] => { results := [.lit (.bool true)], args := [d1, d2, d3, d4] }
  | _ => none }
def namesTellRow : OpenClaim := { program := "ytppmbhjacjmfkaa", sum := "7cf2de0331eb274a590d7d317704ff296eacc7cc11744c53682df81536fa974e", func := "brocade/brocadelaw13.NamesTell", spec := "namesTell", unfollowed := true, recurses := true, loops := true, apart := false }
def NamesTellSaid : Prop := namesTellRow.holds Try.pinned (OpenSpec.ofChange namesTellSpec)

/-- ITS FALSE NEIGHBOUR: 'it returns false'. Refute it at one input. -/
def namesTellWrong : ChangeSpec := { name := "namesTell", fn := fun _ => fun
  | [d1, d2, d3, d4] => { results := [.lit (.bool false)], args := [d1, d2, d3, d4] }
  | _ => none }
def NamesTellWrongFalsely : Prop := namesTellRow.holds Try.pinned (OpenSpec.ofChange namesTellWrong)

/-- 'brocadelaw13.NamesPlain': WHATEVER THE INPUT: true; the input reads as it did. -/
def namesPlainSpec : ChangeSpec := { name := "namesPlain", fn := fun _ => fun
  | [d1, d2, d3] => { results := [.lit (.bool true)], args := [d1, d2, d3] }
  | _ => none }
def namesPlainRow : OpenClaim := { program := "ytppmbhjacjmfkaa", sum := "7cf2de0331eb274a590d7d317704ff296eacc7cc11744c53682df81536fa974e", func := "brocade/brocadelaw13.NamesPlain", spec := "namesPlain", unfollowed := true, recurses := true, loops := true, apart := false }
def NamesPlainSaid : Prop := namesPlainRow.holds Try.pinned (OpenSpec.ofChange namesPlainSpec)

/-- ITS FALSE NEIGHBOUR: 'it returns false'. Refute it at one input. -/
def namesPlainWrong : ChangeSpec := { name := "namesPlain", fn := fun _ => fun
  | [d1, d2, d3] => { results := [.lit (.bool false)], args := [d1, d2, d3] }
  | _ => none }
def NamesPlainWrongFalsely : Prop := namesPlainRow.holds Try.pinned (OpenSpec.ofChange namesPlainWrong)

/- THE SECOND FORM. 'bulk': how many values and letters a reading holds, each counted each time it is reached (what is shared counts as often as it is met; a slice's spare places count too). A statement '..UptoSaid' is the law's where the arguments, and the package variables that the reading takes, are together of bulk at most 1048576: NARROWER than '..Said'. Prove '..Said' where nothing that the law and all that it calls make is longer than what came in: it says more and counts as full. Else prove '..UptoSaid'. A law counts once. -/
mutual
def uptoBulk {H : Type} : DataW H → Nat
  | .lit (.string bytes) => bytes.length + 1
  | .lit _ => 1
  | .nil => 1
  | .ptr d => uptoBulk d + 1
  | .slice elems spare => uptoBulkAll elems + uptoBulkAll spare + 1
  | .agg parts => uptoBulkAll parts + 1
  | .iface _ d => uptoBulk d + 1
  | .map entries => uptoBulkEntries entries + 1
  | .held _ => 1
def uptoBulkAll {H : Type} : List (DataW H) → Nat
  | [] => 0
  | d :: r => uptoBulk d + uptoBulkAll r
def uptoBulkEntries {H : Type} : List (Lit × DataW H) → Nat
  | [] => 0
  | x :: r => uptoBulkEntry x + uptoBulkEntries r
def uptoBulkEntry {H : Type} : Lit × DataW H → Nat
  | (.string bytes, d) => bytes.length + uptoBulk d + 1
  | (_, d) => uptoBulk d + 1
 end
def uptoSmall : (H : Type) → List (DataW H) → Bool := fun _ ds => decide (uptoBulkAll ds ≤ 1048576)
def OpenSpec.upto (s : _root_.Go.ChangeSpec) : _root_.Go.OpenSpec := { _root_.Go.OpenSpec.ofChange s with cond := some uptoSmall }

/-- 'brocadelaw13.NamesLast', WHERE WHAT IT READS IS OF BULK AT MOST 1048576: true; the input reads as it did. -/
def namesLastUptoRow : OpenClaim := { program := "ytppmbhjacjmfkaa", sum := "7cf2de0331eb274a590d7d317704ff296eacc7cc11744c53682df81536fa974e", func := "brocade/brocadelaw13.NamesLast", spec := "namesLast", unfollowed := true, recurses := true, loops := true, apart := false, narrowed := true }
def NamesLastUptoSaid : Prop := namesLastUptoRow.holds Try.pinned (OpenSpec.upto namesLastSpec)

/-- 'brocadelaw13.NamesUses', WHERE WHAT IT READS IS OF BULK AT MOST 1048576: true; the input reads as it did. -/
def namesUsesUptoRow : OpenClaim := { program := "ytppmbhjacjmfkaa", sum := "7cf2de0331eb274a590d7d317704ff296eacc7cc11744c53682df81536fa974e", func := "brocade/brocadelaw13.NamesUses", spec := "namesUses", unfollowed := true, recurses := true, loops := true, apart := false, narrowed := true }
def NamesUsesUptoSaid : Prop := namesUsesUptoRow.holds Try.pinned (OpenSpec.upto namesUsesSpec)

/-- 'brocadelaw13.NamesParts', WHERE WHAT IT READS IS OF BULK AT MOST 1048576: true; the input reads as it did. -/
def namesPartsUptoRow : OpenClaim := { program := "ytppmbhjacjmfkaa", sum := "7cf2de0331eb274a590d7d317704ff296eacc7cc11744c53682df81536fa974e", func := "brocade/brocadelaw13.NamesParts", spec := "namesParts", unfollowed := true, recurses := true, loops := true, apart := false, narrowed := true }
def NamesPartsUptoSaid : Prop := namesPartsUptoRow.holds Try.pinned (OpenSpec.upto namesPartsSpec)

/-- 'brocadelaw13.NamesTell', WHERE WHAT IT READS IS OF BULK AT MOST 1048576: true; the input reads as it did. -/
def namesTellUptoRow : OpenClaim := { program := "ytppmbhjacjmfkaa", sum := "7cf2de0331eb274a590d7d317704ff296eacc7cc11744c53682df81536fa974e", func := "brocade/brocadelaw13.NamesTell", spec := "namesTell", unfollowed := true, recurses := true, loops := true, apart := false, narrowed := true }
def NamesTellUptoSaid : Prop := namesTellUptoRow.holds Try.pinned (OpenSpec.upto namesTellSpec)

/-- 'brocadelaw13.NamesPlain', WHERE WHAT IT READS IS OF BULK AT MOST 1048576: true; the input reads as it did. -/
def namesPlainUptoRow : OpenClaim := { program := "ytppmbhjacjmfkaa", sum := "7cf2de0331eb274a590d7d317704ff296eacc7cc11744c53682df81536fa974e", func := "brocade/brocadelaw13.NamesPlain", spec := "namesPlain", unfollowed := true, recurses := true, loops := true, apart := false, narrowed := true }
def NamesPlainUptoSaid : Prop := namesPlainUptoRow.holds Try.pinned (OpenSpec.upto namesPlainSpec)

end Rows
end Go.Proofs.Ytppmbhjacjmfkaa
