/-
  NARROWER THAN 'FOR EVERY INPUT', by the rows' own cells (each row's printed sentence says how): MachineMore: loops · MachineCalls: loops · MachineForks: loops · MachinePrompts: loops · MachineLets: loops.
  DERIVED. THE GIVEN ROWS OF THIS SEAT. 9 by the template 'for every input the law returns true; each argument reads behind the call as it read before'; 0 by the template 'total and deterministic' (their statements: YtnppknioifgdfaaTotals.lean).
  GIVEN WITH THE SEED: the statements are not yours to turn. If you find one false, say at which input.
  Laid BY PROGRAM, IN A SANDBOX (cutbox-rows.mjs): the forced cells as the released guide's own fill.sh prints them over the translation b0ee871df8886c7a… (all of the seat's roots in one cut). By AI agents, Wed Nov 11 2026. No macro, syntax, notation, axiom, sorry.
-/
import Derived.Test.YtnppknioifgdfaaChecked
import GoSem.Claim
import GoSem.ClaimJoined
import GoSem.ClaimMapViews
import Derived.JoinedTies
import Derived.KernelRfl
namespace Go.Proofs.Ytnppknioifgdfaa
/- THE CELL 'sum', in the pinned program and in every row, IS THE sha256 OF THE DUMP (.gsa) THAT YtnppknioifgdfaaProg.lean LOADS. Nothing in Lean hashes anything: it is a label: what it is worth is what the hold of that sum in a sandbox is worth. -/
noncomputable def Try.pinned : Pinned := { name := "ytnppknioifgdfaa", sum := "b0ee871df8886c7af99e5bd3cafe0ddaf381c96473e9a61db8efb6f99d5d7306", checked := Try.checked }
namespace Rows
def none {H : Type} : Left H := { results := [], args := [] }

/-- 'brocadelaw18.MachineMore': WHATEVER THE INPUT: true; the input reads as it did. -/
def machineMoreSpec : ChangeSpec := { name := "machineMore", fn := fun _ => fun
  | [d1, d2, d3, d4] => { results := [.lit (.bool true)], args := [d1, d2, d3, d4] }
  | _ => none }
def machineMoreRow : OpenClaim := { program := "ytnppknioifgdfaa", sum := "b0ee871df8886c7af99e5bd3cafe0ddaf381c96473e9a61db8efb6f99d5d7306", func := "brocade/brocadelaw18.MachineMore", spec := "machineMore", unfollowed := true, recurses := true, loops := true, apart := false }
def MachineMoreSaid : Prop := machineMoreRow.holds Try.pinned (OpenSpec.ofChange machineMoreSpec)

/-- ITS FALSE NEIGHBOUR: 'it returns false'. Refute it at one input. -/
def machineMoreWrong : ChangeSpec := { name := "machineMore", fn := fun _ => fun
  | [d1, d2, d3, d4] => { results := [.lit (.bool false)], args := [d1, d2, d3, d4] }
  | _ => none }
def MachineMoreWrongFalsely : Prop := machineMoreRow.holds Try.pinned (OpenSpec.ofChange machineMoreWrong)

/-- 'brocadelaw18.MachineTail': WHATEVER THE INPUT: true; the input reads as it did. -/
def machineTailSpec : ChangeSpec := { name := "machineTail", fn := fun _ => fun
  | [d1, d2] => { results := [.lit (.bool true)], args := [d1, d2] }
  | _ => none }
def machineTailRow : OpenClaim := { program := "ytnppknioifgdfaa", sum := "b0ee871df8886c7af99e5bd3cafe0ddaf381c96473e9a61db8efb6f99d5d7306", func := "brocade/brocadelaw18.MachineTail", spec := "machineTail", unfollowed := true, recurses := true, apart := false }
def MachineTailSaid : Prop := machineTailRow.holds Try.pinned (OpenSpec.ofChange machineTailSpec)

/-- ITS FALSE NEIGHBOUR: 'it returns false'. Refute it at one input. -/
def machineTailWrong : ChangeSpec := { name := "machineTail", fn := fun _ => fun
  | [d1, d2] => { results := [.lit (.bool false)], args := [d1, d2] }
  | _ => none }
def MachineTailWrongFalsely : Prop := machineTailRow.holds Try.pinned (OpenSpec.ofChange machineTailWrong)

/-- 'brocadelaw18.MachineCalls': WHATEVER THE INPUT: true; the input reads as it did. -/
def machineCallsSpec : ChangeSpec := { name := "machineCalls", fn := fun _ => fun
  | [d1, d2, d3] => { results := [.lit (.bool true)], args := [d1, d2, d3] }
  | _ => none }
def machineCallsRow : OpenClaim := { program := "ytnppknioifgdfaa", sum := "b0ee871df8886c7af99e5bd3cafe0ddaf381c96473e9a61db8efb6f99d5d7306", func := "brocade/brocadelaw18.MachineCalls", spec := "machineCalls", unfollowed := true, recurses := true, loops := true, apart := false }
def MachineCallsSaid : Prop := machineCallsRow.holds Try.pinned (OpenSpec.ofChange machineCallsSpec)

/-- ITS FALSE NEIGHBOUR: 'it returns false'. Refute it at one input. -/
def machineCallsWrong : ChangeSpec := { name := "machineCalls", fn := fun _ => fun
  | [d1, d2, d3] => { results := [.lit (.bool false)], args := [d1, d2, d3] }
  | _ => none }
def MachineCallsWrongFalsely : Prop := machineCallsRow.holds Try.pinned (OpenSpec.ofChange machineCallsWrong)

/-- 'brocadelaw18.MachineForks': WHATEVER THE INPUT: true; the input reads as it did. -/
def machineForksSpec : ChangeSpec := { name := "machineForks", fn := fun _ => fun
  | [d1, d2, d3, d4] => { results := [.lit (.bool true)], args := [d1, d2, d3, d4] }
  | _ => none }
def machineForksRow : OpenClaim := { program := "ytnppknioifgdfaa", sum := "b0ee871df8886c7af99e5bd3cafe0ddaf381c96473e9a61db8efb6f99d5d7306", func := "brocade/brocadelaw18.MachineForks", spec := "machineForks", unfollowed := true, recurses := true, loops := true, apart := false }
def MachineForksSaid : Prop := machineForksRow.holds Try.pinned (OpenSpec.ofChange machineForksSpec)

/-- ITS FALSE NEIGHBOUR: 'it returns false'. Refute it at one input. -/
def machineForksWrong : ChangeSpec := { name := "machineForks", fn := fun _ => fun
  | [d1, d2, d3, d4] => { results := [.lit (.bool false)], args := [d1, d2, d3, d4] }
  | _ => none }
def MachineForksWrongFalsely : Prop := machineForksRow.holds Try.pinned (OpenSpec.ofChange machineForksWrong)

/-- 'brocadelaw18.MachinePrompts': WHATEVER THE INPUT: true; the input reads as it did. -/
def machinePromptsSpec : ChangeSpec := { name := "machinePrompts", fn := fun _ => fun
  | [d1, d2] => { results := [.lit (.bool true)], args := [d1, d2] }
  | _ => none }
def machinePromptsRow : OpenClaim := { program := "ytnppknioifgdfaa", sum := "b0ee871df8886c7af99e5bd3cafe0ddaf381c96473e9a61db8efb6f99d5d7306", func := "brocade/brocadelaw18.MachinePrompts", spec := "machinePrompts", unfollowed := true, recurses := true, loops := true, apart := false }
def MachinePromptsSaid : Prop := machinePromptsRow.holds Try.pinned (OpenSpec.ofChange machinePromptsSpec)

/-- ITS FALSE NEIGHBOUR: 'it returns false'. Refute it at one input. -/
def machinePromptsWrong : ChangeSpec := { name := "machinePrompts", fn := fun _ => fun
  | [d1, d2] => { results := [.lit (.bool false)], args := [d1, d2] }
  | _ => none }
def MachinePromptsWrongFalsely : Prop := machinePromptsRow.holds Try.pinned (OpenSpec.ofChange machinePromptsWrong)

/-- 'brocadelaw18.MachineReads': WHATEVER THE INPUT: true; the input reads as it did. -/
def machineReadsSpec : ChangeSpec := { name := "machineReads", fn := fun _ => fun
  | [d1, d2] => { results := [.lit (.bool true)], args := [d1, d2] }
  | _ => none }
def machineReadsRow : OpenClaim := { program := "ytnppknioifgdfaa", sum := "b0ee871df8886c7af99e5bd3cafe0ddaf381c96473e9a61db8efb6f99d5d7306", func := "brocade/brocadelaw18.MachineReads", spec := "machineReads", unfollowed := true, recurses := true, apart := false }
def MachineReadsSaid : Prop := machineReadsRow.holds Try.pinned (OpenSpec.ofChange machineReadsSpec)

/-- ITS FALSE NEIGHBOUR: 'it returns false'. Refute it at one input. -/
def machineReadsWrong : ChangeSpec := { name := "machineReads", fn := fun _ => fun
  | [d1, d2] => { results := [.lit (.bool false)], args := [d1, d2] }
  | _ => none }
def MachineReadsWrongFalsely : Prop := machineReadsRow.holds Try.pinned (OpenSpec.ofChange machineReadsWrong)

/-- 'brocadelaw18.MachineNests': WHATEVER THE INPUT: true; the input reads as it did. -/
def machineNestsSpec : ChangeSpec := { name := "machineNests", fn := fun _ => fun
  | [d1, d2, d3] => { results := [.lit (.bool true)], args := [d1, d2, d3] }
  | _ => none }
def machineNestsRow : OpenClaim := { program := "ytnppknioifgdfaa", sum := "b0ee871df8886c7af99e5bd3cafe0ddaf381c96473e9a61db8efb6f99d5d7306", func := "brocade/brocadelaw18.MachineNests", spec := "machineNests", unfollowed := true, recurses := true, apart := false }
def MachineNestsSaid : Prop := machineNestsRow.holds Try.pinned (OpenSpec.ofChange machineNestsSpec)

/-- ITS FALSE NEIGHBOUR: 'it returns false'. Refute it at one input. -/
def machineNestsWrong : ChangeSpec := { name := "machineNests", fn := fun _ => fun
  | [d1, d2, d3] => { results := [.lit (.bool false)], args := [d1, d2, d3] }
  | _ => none }
def MachineNestsWrongFalsely : Prop := machineNestsRow.holds Try.pinned (OpenSpec.ofChange machineNestsWrong)

/-- 'brocadelaw18.MachineShots': WHATEVER THE INPUT: true; the input reads as it did. -/
def machineShotsSpec : ChangeSpec := { name := "machineShots", fn := fun _ => fun
  | [d1, d2] => { results := [.lit (.bool true)], args := [d1, d2] }
  | _ => none }
def machineShotsRow : OpenClaim := { program := "ytnppknioifgdfaa", sum := "b0ee871df8886c7af99e5bd3cafe0ddaf381c96473e9a61db8efb6f99d5d7306", func := "brocade/brocadelaw18.MachineShots", spec := "machineShots", unfollowed := true, recurses := true, apart := false }
def MachineShotsSaid : Prop := machineShotsRow.holds Try.pinned (OpenSpec.ofChange machineShotsSpec)

/-- ITS FALSE NEIGHBOUR: 'it returns false'. Refute it at one input. -/
def machineShotsWrong : ChangeSpec := { name := "machineShots", fn := fun _ => fun
  | [d1, d2] => { results := [.lit (.bool false)], args := [d1, d2] }
  | _ => none }
def MachineShotsWrongFalsely : Prop := machineShotsRow.holds Try.pinned (OpenSpec.ofChange machineShotsWrong)

/-- 'brocadelaw18.MachineLets': WHATEVER THE INPUT: true; the input reads as it did. -/
def machineLetsSpec : ChangeSpec := { name := "machineLets", fn := fun _ => fun
  | [d1, d2, d3] => { results := [.lit (.bool true)], args := [d1, d2, d3] }
  | _ => none }
def machineLetsRow : OpenClaim := { program := "ytnppknioifgdfaa", sum := "b0ee871df8886c7af99e5bd3cafe0ddaf381c96473e9a61db8efb6f99d5d7306", func := "brocade/brocadelaw18.MachineLets", spec := "machineLets", unfollowed := true, recurses := true, loops := true, apart := false }
def MachineLetsSaid : Prop := machineLetsRow.holds Try.pinned (OpenSpec.ofChange machineLetsSpec)

/-- ITS FALSE NEIGHBOUR: 'it returns false'. Refute it at one input. -/
def machineLetsWrong : ChangeSpec := { name := "machineLets", fn := fun _ => fun
  | [d1, d2, d3] => { results := [.lit (.bool false)], args := [d1, d2, d3] }
  | _ => none }
def MachineLetsWrongFalsely : Prop := machineLetsRow.holds Try.pinned (OpenSpec.ofChange machineLetsWrong)

/- THE SECOND FORM. 'bulk': how many values and letters a reading holds, each counted each time it is reached (what is shared counts as often as it is met; a slice's spare places count too). A statement '..UptoSaid' is the law's where the arguments, and the package variables that the reading takes, are together of bulk at most 1048576: NARROWER than '..Said'. Prove '..Said' where nothing that the law and all that it calls make is longer than what came in: it says more and counts as full. Else prove '..UptoSaid'. A law counts once. -/
mutual
def uptoBulk {H : Type} : DataW H → Nat
  | .lit (.string bytes) => bytes.length + 1
  | .lit _ => 1
  | .nil => 1
  | .ptr d => uptoBulk d + 1
  | .slice elems spare => uptoBulkAll elems + uptoBulkAll spare + 1
  | .agg parts => uptoBulkAll parts + 1
  | .iface _ d => uptoBulk d + 1
  | .map entries => uptoBulkEntries entries + 1
  | .held _ => 1
def uptoBulkAll {H : Type} : List (DataW H) → Nat
  | [] => 0
  | d :: r => uptoBulk d + uptoBulkAll r
def uptoBulkEntries {H : Type} : List (Lit × DataW H) → Nat
  | [] => 0
  | x :: r => uptoBulkEntry x + uptoBulkEntries r
def uptoBulkEntry {H : Type} : Lit × DataW H → Nat
  | (.string bytes, d) => bytes.length + uptoBulk d + 1
  | (_, d) => uptoBulk d + 1
 end
def uptoSmall : (H : Type) → List (DataW H) → Bool := fun _ ds => decide (uptoBulkAll ds ≤ 1048576)
def OpenSpec.upto (s : _root_.Go.ChangeSpec) : _root_.Go.OpenSpec := { _root_.Go.OpenSpec.ofChange s with cond := some uptoSmall }

/-- 'brocadelaw18.MachineMore', WHERE WHAT IT READS IS OF BULK AT MOST 1048576: true; the input reads as it did. -/
def machineMoreUptoRow : OpenClaim := { program := "ytnppknioifgdfaa", sum := "b0ee871df8886c7af99e5bd3cafe0ddaf381c96473e9a61db8efb6f99d5d7306", func := "brocade/brocadelaw18.MachineMore", spec := "machineMore", unfollowed := true, recurses := true, loops := true, apart := false, narrowed := true }
def MachineMoreUptoSaid : Prop := machineMoreUptoRow.holds Try.pinned (OpenSpec.upto machineMoreSpec)

/-- 'brocadelaw18.MachineTail', WHERE WHAT IT READS IS OF BULK AT MOST 1048576: true; the input reads as it did. -/
def machineTailUptoRow : OpenClaim := { program := "ytnppknioifgdfaa", sum := "b0ee871df8886c7af99e5bd3cafe0ddaf381c96473e9a61db8efb6f99d5d7306", func := "brocade/brocadelaw18.MachineTail", spec := "machineTail", unfollowed := true, recurses := true, apart := false, narrowed := true }
def MachineTailUptoSaid : Prop := machineTailUptoRow.holds Try.pinned (OpenSpec.upto machineTailSpec)

/-- 'brocadelaw18.MachineCalls', WHERE WHAT IT READS IS OF BULK AT MOST 1048576: true; the input reads as it did. -/
def machineCallsUptoRow : OpenClaim := { program := "ytnppknioifgdfaa", sum := "b0ee871df8886c7af99e5bd3cafe0ddaf381c96473e9a61db8efb6f99d5d7306", func := "brocade/brocadelaw18.MachineCalls", spec := "machineCalls", unfollowed := true, recurses := true, loops := true, apart := false, narrowed := true }
def MachineCallsUptoSaid : Prop := machineCallsUptoRow.holds Try.pinned (OpenSpec.upto machineCallsSpec)

/-- 'brocadelaw18.MachineForks', WHERE WHAT IT READS IS OF BULK AT MOST 1048576: true; the input reads as it did. -/
def machineForksUptoRow : OpenClaim := { program := "ytnppknioifgdfaa", sum := "b0ee871df8886c7af99e5bd3cafe0ddaf381c96473e9a61db8efb6f99d5d7306", func := "brocade/brocadelaw18.MachineForks", spec := "machineForks", unfollowed := true, recurses := true, loops := true, apart := false, narrowed := true }
def MachineForksUptoSaid : Prop := machineForksUptoRow.holds Try.pinned (OpenSpec.upto machineForksSpec)

/-- 'brocadelaw18.MachinePrompts', WHERE WHAT IT READS IS OF BULK AT MOST 1048576: true; the input reads as it did. -/
def machinePromptsUptoRow : OpenClaim := { program := "ytnppknioifgdfaa", sum := "b0ee871df8886c7af99e5bd3cafe0ddaf381c96473e9a61db8efb6f99d5d7306", func := "brocade/brocadelaw18.MachinePrompts", spec := "machinePrompts", unfollowed := true, recurses := true, loops := true, apart := false, narrowed := true }
def MachinePromptsUptoSaid : Prop := machinePromptsUptoRow.holds Try.pinned (OpenSpec.upto machinePromptsSpec)

/-- 'brocadelaw18.MachineReads', WHERE WHAT IT READS IS OF BULK AT MOST 1048576: true; the input reads as it did. -/
def machineReadsUptoRow : OpenClaim := { program := "ytnppknioifgdfaa", sum := "b0ee871df8886c7af99e5bd3cafe0ddaf381c96473e9a61db8efb6f99d5d7306", func := "brocade/brocadelaw18.MachineReads", spec := "machineReads", unfollowed := true, recurses := true, apart := false, narrowed := true }
def MachineReadsUptoSaid : Prop := machineReadsUptoRow.holds Try.pinned (OpenSpec.upto machineReadsSpec)

/-- 'brocadelaw18.MachineNests', WHERE WHAT IT READS IS OF BULK AT MOST 1048576: true; the input reads as it did. -/
def machineNestsUptoRow : OpenClaim := { program := "ytnppknioifgdfaa", sum := "b0ee871df8886c7af99e5bd3cafe0ddaf381c96473e9a61db8efb6f99d5d7306", func := "brocade/brocadelaw18.MachineNests", spec := "machineNests", unfollowed := true, recurses := true, apart := false, narrowed := true }
def MachineNestsUptoSaid : Prop := machineNestsUptoRow.holds Try.pinned (OpenSpec.upto machineNestsSpec)

/-- 'brocadelaw18.MachineShots', WHERE WHAT IT READS IS OF BULK AT MOST 1048576: true; the input reads as it did. -/
def machineShotsUptoRow : OpenClaim := { program := "ytnppknioifgdfaa", sum := "b0ee871df8886c7af99e5bd3cafe0ddaf381c96473e9a61db8efb6f99d5d7306", func := "brocade/brocadelaw18.MachineShots", spec := "machineShots", unfollowed := true, recurses := true, apart := false, narrowed := true }
def MachineShotsUptoSaid : Prop := machineShotsUptoRow.holds Try.pinned (OpenSpec.upto machineShotsSpec)

/-- 'brocadelaw18.MachineLets', WHERE WHAT IT READS IS OF BULK AT MOST 1048576: true; the input reads as it did. -/
def machineLetsUptoRow : OpenClaim := { program := "ytnppknioifgdfaa", sum := "b0ee871df8886c7af99e5bd3cafe0ddaf381c96473e9a61db8efb6f99d5d7306", func := "brocade/brocadelaw18.MachineLets", spec := "machineLets", unfollowed := true, recurses := true, loops := true, apart := false, narrowed := true }
def MachineLetsUptoSaid : Prop := machineLetsUptoRow.holds Try.pinned (OpenSpec.upto machineLetsSpec)

end Rows
end Go.Proofs.Ytnppknioifgdfaa
