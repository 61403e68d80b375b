/-
  NARROWER THAN 'FOR EVERY INPUT', by the rows' own cells (each row's printed sentence says how): UnifyTells: loops · UnifySame: loops · UnifyMost: loops · UnifyGround: loops · UnifyThree: loops.
  DERIVED. THE GIVEN ROWS OF THIS SEAT. 6 by the template 'for every input the law returns true; each argument reads behind the call as it read before'; 0 by the template 'total and deterministic' (their statements: YtlidonjpgigocaaGreatTotals.lean).
  GIVEN WITH THE SEED: the statements are not yours to turn. If you find one false, say at which input.
  Laid BY PROGRAM, IN A SANDBOX (cutbox-rows.mjs): the forced cells as the released guide's own fill.sh prints them over the translation 76aad97f06aaf1dd… (all of the seat's roots in one cut). By AI agents, Wed Nov 11 2026. No macro, syntax, notation, axiom, sorry.
-/
import Derived.Test.YtlidonjpgigocaaGreatChecked
import GoSem.Claim
import GoSem.ClaimJoined
import GoSem.ClaimMapViews
import Derived.JoinedTies
import Derived.KernelRfl
namespace Go.Proofs.YtlidonjpgigocaaGreat
/- THE CELL 'sum', in the pinned program and in every row, IS THE sha256 OF THE DUMP (.gsa) THAT YtlidonjpgigocaaGreatProg.lean LOADS. Nothing in Lean hashes anything: it is a label: what it is worth is what the hold of that sum in a sandbox is worth. -/
noncomputable def Tryz.pinned : Pinned := { name := "ytlidonjpgigocaagreat", sum := "76aad97f06aaf1dda3725d9522b8d7d70629397ef74f6ad788b08fd9955e2f0e", checked := Tryz.checked }
namespace Rows
def none {H : Type} : Left H := { results := [], args := [] }

/-- 'brocadelaw07.UnifyTells': WHATEVER THE INPUT: true; the input reads as it did. -/
def unifyTellsSpec : ChangeSpec := { name := "unifyTells", fn := fun _ => fun
  | [d] => { results := [.lit (.bool true)], args := [d] }
  | _ => none }
def unifyTellsRow : OpenClaim := { program := "ytlidonjpgigocaagreat", sum := "76aad97f06aaf1dda3725d9522b8d7d70629397ef74f6ad788b08fd9955e2f0e", func := "brocade/brocadelaw07.UnifyTells", spec := "unifyTells", inPlace := ["maps.clone"], unfollowed := true, recurses := true, loops := true, apart := false }
def UnifyTellsSaid : Prop := unifyTellsRow.holds Tryz.pinned (OpenSpec.ofChange unifyTellsSpec)

/-- ITS FALSE NEIGHBOUR: 'it returns false'. Refute it at one input. -/
def unifyTellsWrong : ChangeSpec := { name := "unifyTells", fn := fun _ => fun
  | [d] => { results := [.lit (.bool false)], args := [d] }
  | _ => none }
def UnifyTellsWrongFalsely : Prop := unifyTellsRow.holds Tryz.pinned (OpenSpec.ofChange unifyTellsWrong)

/-- 'brocadelaw07.UnifySame': WHATEVER THE INPUT: true; the input reads as it did. -/
def unifySameSpec : ChangeSpec := { name := "unifySame", fn := fun _ => fun
  | [d1, d2] => { results := [.lit (.bool true)], args := [d1, d2] }
  | _ => none }
def unifySameRow : OpenClaim := { program := "ytlidonjpgigocaagreat", sum := "76aad97f06aaf1dda3725d9522b8d7d70629397ef74f6ad788b08fd9955e2f0e", func := "brocade/brocadelaw07.UnifySame", spec := "unifySame", inPlace := ["maps.clone"], unfollowed := true, recurses := true, loops := true, apart := false }
def UnifySameSaid : Prop := unifySameRow.holds Tryz.pinned (OpenSpec.ofChange unifySameSpec)

/-- ITS FALSE NEIGHBOUR: 'it returns false'. Refute it at one input. -/
def unifySameWrong : ChangeSpec := { name := "unifySame", fn := fun _ => fun
  | [d1, d2] => { results := [.lit (.bool false)], args := [d1, d2] }
  | _ => none }
def UnifySameWrongFalsely : Prop := unifySameRow.holds Tryz.pinned (OpenSpec.ofChange unifySameWrong)

/-- 'brocadelaw07.UnifyMost': WHATEVER THE INPUT: true; the input reads as it did. -/
def unifyMostSpec : ChangeSpec := { name := "unifyMost", fn := fun _ => fun
  | [d1, d2, d3] => { results := [.lit (.bool true)], args := [d1, d2, d3] }
  | _ => none }
def unifyMostRow : OpenClaim := { program := "ytlidonjpgigocaagreat", sum := "76aad97f06aaf1dda3725d9522b8d7d70629397ef74f6ad788b08fd9955e2f0e", func := "brocade/brocadelaw07.UnifyMost", spec := "unifyMost", inPlace := ["maps.clone"], unfollowed := true, recurses := true, loops := true, apart := false }
def UnifyMostSaid : Prop := unifyMostRow.holds Tryz.pinned (OpenSpec.ofChange unifyMostSpec)

/-- ITS FALSE NEIGHBOUR: 'it returns false'. Refute it at one input. -/
def unifyMostWrong : ChangeSpec := { name := "unifyMost", fn := fun _ => fun
  | [d1, d2, d3] => { results := [.lit (.bool false)], args := [d1, d2, d3] }
  | _ => none }
def UnifyMostWrongFalsely : Prop := unifyMostRow.holds Tryz.pinned (OpenSpec.ofChange unifyMostWrong)

/-- 'brocadelaw07.UnifyRows': WHATEVER THE INPUT: true; the input reads as it did. -/
def unifyRowsSpec : ChangeSpec := { name := "unifyRows", fn := fun _ => fun
  | [d1, d2] => { results := [.lit (.bool true)], args := [d1, d2] }
  | _ => none }
def unifyRowsRow : OpenClaim := { program := "ytlidonjpgigocaagreat", sum := "76aad97f06aaf1dda3725d9522b8d7d70629397ef74f6ad788b08fd9955e2f0e", func := "brocade/brocadelaw07.UnifyRows", spec := "unifyRows", inPlace := ["maps.clone"], unfollowed := true, recurses := true, apart := false }
def UnifyRowsSaid : Prop := unifyRowsRow.holds Tryz.pinned (OpenSpec.ofChange unifyRowsSpec)

/-- ITS FALSE NEIGHBOUR: 'it returns false'. Refute it at one input. -/
def unifyRowsWrong : ChangeSpec := { name := "unifyRows", fn := fun _ => fun
  | [d1, d2] => { results := [.lit (.bool false)], args := [d1, d2] }
  | _ => none }
def UnifyRowsWrongFalsely : Prop := unifyRowsRow.holds Tryz.pinned (OpenSpec.ofChange unifyRowsWrong)

/-- 'brocadelaw07.UnifyGround': WHATEVER THE INPUT: true; the input reads as it did. -/
def unifyGroundSpec : ChangeSpec := { name := "unifyGround", fn := fun _ => fun
  | [d1, d2] => { results := [.lit (.bool true)], args := [d1, d2] }
  | _ => none }
def unifyGroundRow : OpenClaim := { program := "ytlidonjpgigocaagreat", sum := "76aad97f06aaf1dda3725d9522b8d7d70629397ef74f6ad788b08fd9955e2f0e", func := "brocade/brocadelaw07.UnifyGround", spec := "unifyGround", inPlace := ["maps.clone"], unfollowed := true, recurses := true, loops := true, apart := false }
def UnifyGroundSaid : Prop := unifyGroundRow.holds Tryz.pinned (OpenSpec.ofChange unifyGroundSpec)

/-- ITS FALSE NEIGHBOUR: 'it returns false'. Refute it at one input. -/
def unifyGroundWrong : ChangeSpec := { name := "unifyGround", fn := fun _ => fun
  | [d1, d2] => { results := [.lit (.bool false)], args := [d1, d2] }
  | _ => none }
def UnifyGroundWrongFalsely : Prop := unifyGroundRow.holds Tryz.pinned (OpenSpec.ofChange unifyGroundWrong)

/-- 'brocadelaw07.UnifyThree': WHATEVER THE INPUT: true; the input reads as it did. -/
def unifyThreeSpec : ChangeSpec := { name := "unifyThree", fn := fun _ => fun
  | [d1, d2, d3] => { results := [.lit (.bool true)], args := [d1, d2, d3] }
  | _ => none }
def unifyThreeRow : OpenClaim := { program := "ytlidonjpgigocaagreat", sum := "76aad97f06aaf1dda3725d9522b8d7d70629397ef74f6ad788b08fd9955e2f0e", func := "brocade/brocadelaw07.UnifyThree", spec := "unifyThree", inPlace := ["maps.clone"], unfollowed := true, recurses := true, loops := true, apart := false }
def UnifyThreeSaid : Prop := unifyThreeRow.holds Tryz.pinned (OpenSpec.ofChange unifyThreeSpec)

/-- ITS FALSE NEIGHBOUR: 'it returns false'. Refute it at one input. -/
def unifyThreeWrong : ChangeSpec := { name := "unifyThree", fn := fun _ => fun
  | [d1, d2, d3] => { results := [.lit (.bool false)], args := [d1, d2, d3] }
  | _ => none }
def UnifyThreeWrongFalsely : Prop := unifyThreeRow.holds Tryz.pinned (OpenSpec.ofChange unifyThreeWrong)

/- THE SECOND FORM. 'bulk': how many values and letters a reading holds, each counted each time it is reached (what is shared counts as often as it is met; a slice's spare places count too). A statement '..UptoSaid' is the law's where the arguments, and the package variables that the reading takes, are together of bulk at most 1048576: NARROWER than '..Said'. Prove '..Said' where nothing that the law and all that it calls make is longer than what came in: it says more and counts as full. Else prove '..UptoSaid'. A law counts once. -/
mutual
def uptoBulk {H : Type} : DataW H → Nat
  | .lit (.string bytes) => bytes.length + 1
  | .lit _ => 1
  | .nil => 1
  | .ptr d => uptoBulk d + 1
  | .slice elems spare => uptoBulkAll elems + uptoBulkAll spare + 1
  | .agg parts => uptoBulkAll parts + 1
  | .iface _ d => uptoBulk d + 1
  | .map entries => uptoBulkEntries entries + 1
  | .held _ => 1
def uptoBulkAll {H : Type} : List (DataW H) → Nat
  | [] => 0
  | d :: r => uptoBulk d + uptoBulkAll r
def uptoBulkEntries {H : Type} : List (Lit × DataW H) → Nat
  | [] => 0
  | x :: r => uptoBulkEntry x + uptoBulkEntries r
def uptoBulkEntry {H : Type} : Lit × DataW H → Nat
  | (.string bytes, d) => bytes.length + uptoBulk d + 1
  | (_, d) => uptoBulk d + 1
 end
def uptoSmall : (H : Type) → List (DataW H) → Bool := fun _ ds => decide (uptoBulkAll ds ≤ 1048576)
def OpenSpec.upto (s : _root_.Go.ChangeSpec) : _root_.Go.OpenSpec := { _root_.Go.OpenSpec.ofChange s with cond := some uptoSmall }

/-- 'brocadelaw07.UnifyTells', WHERE WHAT IT READS IS OF BULK AT MOST 1048576: true; the input reads as it did. -/
def unifyTellsUptoRow : OpenClaim := { program := "ytlidonjpgigocaagreat", sum := "76aad97f06aaf1dda3725d9522b8d7d70629397ef74f6ad788b08fd9955e2f0e", func := "brocade/brocadelaw07.UnifyTells", spec := "unifyTells", inPlace := ["maps.clone"], unfollowed := true, recurses := true, loops := true, apart := false, narrowed := true }
def UnifyTellsUptoSaid : Prop := unifyTellsUptoRow.holds Tryz.pinned (OpenSpec.upto unifyTellsSpec)

/-- 'brocadelaw07.UnifySame', WHERE WHAT IT READS IS OF BULK AT MOST 1048576: true; the input reads as it did. -/
def unifySameUptoRow : OpenClaim := { program := "ytlidonjpgigocaagreat", sum := "76aad97f06aaf1dda3725d9522b8d7d70629397ef74f6ad788b08fd9955e2f0e", func := "brocade/brocadelaw07.UnifySame", spec := "unifySame", inPlace := ["maps.clone"], unfollowed := true, recurses := true, loops := true, apart := false, narrowed := true }
def UnifySameUptoSaid : Prop := unifySameUptoRow.holds Tryz.pinned (OpenSpec.upto unifySameSpec)

/-- 'brocadelaw07.UnifyMost', WHERE WHAT IT READS IS OF BULK AT MOST 1048576: true; the input reads as it did. -/
def unifyMostUptoRow : OpenClaim := { program := "ytlidonjpgigocaagreat", sum := "76aad97f06aaf1dda3725d9522b8d7d70629397ef74f6ad788b08fd9955e2f0e", func := "brocade/brocadelaw07.UnifyMost", spec := "unifyMost", inPlace := ["maps.clone"], unfollowed := true, recurses := true, loops := true, apart := false, narrowed := true }
def UnifyMostUptoSaid : Prop := unifyMostUptoRow.holds Tryz.pinned (OpenSpec.upto unifyMostSpec)

/-- 'brocadelaw07.UnifyRows', WHERE WHAT IT READS IS OF BULK AT MOST 1048576: true; the input reads as it did. -/
def unifyRowsUptoRow : OpenClaim := { program := "ytlidonjpgigocaagreat", sum := "76aad97f06aaf1dda3725d9522b8d7d70629397ef74f6ad788b08fd9955e2f0e", func := "brocade/brocadelaw07.UnifyRows", spec := "unifyRows", inPlace := ["maps.clone"], unfollowed := true, recurses := true, apart := false, narrowed := true }
def UnifyRowsUptoSaid : Prop := unifyRowsUptoRow.holds Tryz.pinned (OpenSpec.upto unifyRowsSpec)

/-- 'brocadelaw07.UnifyGround', WHERE WHAT IT READS IS OF BULK AT MOST 1048576: true; the input reads as it did. -/
def unifyGroundUptoRow : OpenClaim := { program := "ytlidonjpgigocaagreat", sum := "76aad97f06aaf1dda3725d9522b8d7d70629397ef74f6ad788b08fd9955e2f0e", func := "brocade/brocadelaw07.UnifyGround", spec := "unifyGround", inPlace := ["maps.clone"], unfollowed := true, recurses := true, loops := true, apart := false, narrowed := true }
def UnifyGroundUptoSaid : Prop := unifyGroundUptoRow.holds Tryz.pinned (OpenSpec.upto unifyGroundSpec)

/-- 'brocadelaw07.UnifyThree', WHERE WHAT IT READS IS OF BULK AT MOST 1048576: true; the input reads as it did. -/
def unifyThreeUptoRow : OpenClaim := { program := "ytlidonjpgigocaagreat", sum := "76aad97f06aaf1dda3725d9522b8d7d70629397ef74f6ad788b08fd9955e2f0e", func := "brocade/brocadelaw07.UnifyThree", spec := "unifyThree", inPlace := ["maps.clone"], unfollowed := true, recurses := true, loops := true, apart := false, narrowed := true }
def UnifyThreeUptoSaid : Prop := unifyThreeUptoRow.holds Tryz.pinned (OpenSpec.upto unifyThreeSpec)

end Rows
end Go.Proofs.YtlidonjpgigocaaGreat
