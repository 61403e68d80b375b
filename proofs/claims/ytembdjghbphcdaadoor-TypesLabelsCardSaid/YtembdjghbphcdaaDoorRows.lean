/-
  NARROWER THAN 'FOR EVERY INPUT', by the rows' own cells (each row's printed sentence says how): TypesTexts: loops, laid · TypesUnlike: loops, laid · TypesFuns: loops, laid · TypesDeep: laid · TypesRefs: loops, laid · TypesSorts: laid · TypesLabels: laid · TypesCommon: laid.
  DERIVED. THE GIVEN ROWS OF THIS SEAT. 8 by the template 'for every input the law returns true; each argument reads behind the call as it read before'; 0 by the template 'total and deterministic' (their statements: YtembdjghbphcdaaDoorTotals.lean).
  GIVEN WITH THE SEED: the statements are not yours to turn. If you find one false, say at which input.
  Laid BY PROGRAM, IN A SANDBOX (cutbox-rows.mjs): the forced cells as the released guide's own fill.sh prints them over the translation 1a68ae1b17c33a4d… (all of the seat's roots in one cut). By AI agents, Wed Nov 11 2026. No macro, syntax, notation, axiom, sorry.
-/
import Derived.Test.YtembdjghbphcdaaDoorChecked
import GoSem.Claim
import GoSem.ClaimJoined
import GoSem.ClaimMapViews
import Derived.JoinedTies
import Derived.KernelRfl
namespace Go.Proofs.YtembdjghbphcdaaDoor
/- THE CELL 'sum', in the pinned program and in every row, IS THE sha256 OF THE DUMP (.gsa) THAT YtembdjghbphcdaaDoorProg.lean LOADS. Nothing in Lean hashes anything: it is a label: what it is worth is what the hold of that sum in a sandbox is worth. -/
noncomputable def Tryd.pinned : Pinned := { name := "ytembdjghbphcdaadoor", sum := "1a68ae1b17c33a4da73f8bdbc15ece1373eccbe3e287478d4a9d503cb2c69312", checked := Tryd.checked }
namespace Rows
def none {H : Type} : Left H := { results := [], args := [] }

/- WHAT THE LISTED PACKAGE-LEVEL VARIABLES READ AS WHEN THE CALL BEGINS. Each datum BY PROGRAM (the guide's laid-datum.mjs) off the statement by which the dump's own 'gosem.cut.vars' lays the variable. In a bare row this is a premise. The card (YtembdjghbphcdaaDoorCards.lean) ties it to the program's text. -/
def laid_math_bits_deBruijn32tab {H : Type} : DataW H := .agg [.lit (.int .u8 0), .lit (.int .u8 1), .lit (.int .u8 28), .lit (.int .u8 2), .lit (.int .u8 29), .lit (.int .u8 14), .lit (.int .u8 24), .lit (.int .u8 3), .lit (.int .u8 30), .lit (.int .u8 22), .lit (.int .u8 20), .lit (.int .u8 15), .lit (.int .u8 25), .lit (.int .u8 17), .lit (.int .u8 4), .lit (.int .u8 8), .lit (.int .u8 31), .lit (.int .u8 27), .lit (.int .u8 13), .lit (.int .u8 23), .lit (.int .u8 21), .lit (.int .u8 19), .lit (.int .u8 16), .lit (.int .u8 7), .lit (.int .u8 26), .lit (.int .u8 12), .lit (.int .u8 18), .lit (.int .u8 6), .lit (.int .u8 11), .lit (.int .u8 5), .lit (.int .u8 10), .lit (.int .u8 9)]
def laid_math_bits_deBruijn64tab {H : Type} : DataW H := .agg [.lit (.int .u8 0), .lit (.int .u8 1), .lit (.int .u8 56), .lit (.int .u8 2), .lit (.int .u8 57), .lit (.int .u8 49), .lit (.int .u8 28), .lit (.int .u8 3), .lit (.int .u8 61), .lit (.int .u8 58), .lit (.int .u8 42), .lit (.int .u8 50), .lit (.int .u8 38), .lit (.int .u8 29), .lit (.int .u8 17), .lit (.int .u8 4), .lit (.int .u8 62), .lit (.int .u8 47), .lit (.int .u8 59), .lit (.int .u8 36), .lit (.int .u8 45), .lit (.int .u8 43), .lit (.int .u8 51), .lit (.int .u8 22), .lit (.int .u8 53), .lit (.int .u8 39), .lit (.int .u8 33), .lit (.int .u8 30), .lit (.int .u8 24), .lit (.int .u8 18), .lit (.int .u8 12), .lit (.int .u8 5), .lit (.int .u8 63), .lit (.int .u8 55), .lit (.int .u8 48), .lit (.int .u8 27), .lit (.int .u8 60), .lit (.int .u8 41), .lit (.int .u8 37), .lit (.int .u8 16), .lit (.int .u8 46), .lit (.int .u8 35), .lit (.int .u8 44), .lit (.int .u8 21), .lit (.int .u8 52), .lit (.int .u8 32), .lit (.int .u8 23), .lit (.int .u8 11), .lit (.int .u8 54), .lit (.int .u8 26), .lit (.int .u8 40), .lit (.int .u8 15), .lit (.int .u8 34), .lit (.int .u8 20), .lit (.int .u8 31), .lit (.int .u8 10), .lit (.int .u8 25), .lit (.int .u8 14), .lit (.int .u8 19), .lit (.int .u8 9), .lit (.int .u8 13), .lit (.int .u8 8), .lit (.int .u8 7), .lit (.int .u8 6)]
def laid_internal_strconv_uint64pow10 {H : Type} : DataW H := .agg [.lit (.int .u64 1), .lit (.int .u64 10), .lit (.int .u64 100), .lit (.int .u64 1000), .lit (.int .u64 10000), .lit (.int .u64 100000), .lit (.int .u64 1000000), .lit (.int .u64 10000000), .lit (.int .u64 100000000), .lit (.int .u64 1000000000), .lit (.int .u64 10000000000), .lit (.int .u64 100000000000), .lit (.int .u64 1000000000000), .lit (.int .u64 10000000000000), .lit (.int .u64 100000000000000), .lit (.int .u64 1000000000000000), .lit (.int .u64 10000000000000000), .lit (.int .u64 100000000000000000), .lit (.int .u64 1000000000000000000), .lit (.int .u64 10000000000000000000)]

/-- 'brocadelaw04.TypesTexts': WHATEVER THE INPUT: true; the input reads as it did. -/
def typesTextsSpec : ChangeSpec := { name := "typesTexts", fn := fun _ => fun
  | [d] => { results := [.lit (.bool true)], args := [d] }
  | _ => none }
def typesTextsRow : OpenClaim := { program := "ytembdjghbphcdaadoor", sum := "1a68ae1b17c33a4da73f8bdbc15ece1373eccbe3e287478d4a9d503cb2c69312", func := "brocade/brocadelaw04.TypesTexts", spec := "typesTexts", inPlace := ["internal/abi.NoEscape", "internal/bytealg.MakeNoZero"], unfollowed := true, recurses := true, named := ["internal/strconv.uint64pow10", "math/bits.deBruijn32tab", "math/bits.deBruijn64tab"], loops := true, apart := false, laid := [("math/bits.deBruijn32tab", laid_math_bits_deBruijn32tab), ("math/bits.deBruijn64tab", laid_math_bits_deBruijn64tab), ("internal/strconv.uint64pow10", laid_internal_strconv_uint64pow10)] }
def TypesTextsSaid : Prop := typesTextsRow.holds Tryd.pinned (OpenSpec.ofChange typesTextsSpec)

/-- ITS FALSE NEIGHBOUR: 'it returns false'. Refute it at one input. -/
def typesTextsWrong : ChangeSpec := { name := "typesTexts", fn := fun _ => fun
  | [d] => { results := [.lit (.bool false)], args := [d] }
  | _ => none }
def TypesTextsWrongFalsely : Prop := typesTextsRow.holds Tryd.pinned (OpenSpec.ofChange typesTextsWrong)

/-- 'brocadelaw04.TypesUnlike': WHATEVER THE INPUT: true; the input reads as it did. -/
def typesUnlikeSpec : ChangeSpec := { name := "typesUnlike", fn := fun _ => fun
  | [d1, d2] => { results := [.lit (.bool true)], args := [d1, d2] }
  | _ => none }
def typesUnlikeRow : OpenClaim := { program := "ytembdjghbphcdaadoor", sum := "1a68ae1b17c33a4da73f8bdbc15ece1373eccbe3e287478d4a9d503cb2c69312", func := "brocade/brocadelaw04.TypesUnlike", spec := "typesUnlike", inPlace := ["internal/abi.NoEscape", "internal/bytealg.MakeNoZero"], unfollowed := true, recurses := true, named := ["internal/strconv.uint64pow10", "math/bits.deBruijn32tab", "math/bits.deBruijn64tab"], loops := true, apart := false, laid := [("math/bits.deBruijn32tab", laid_math_bits_deBruijn32tab), ("math/bits.deBruijn64tab", laid_math_bits_deBruijn64tab), ("internal/strconv.uint64pow10", laid_internal_strconv_uint64pow10)] }
def TypesUnlikeSaid : Prop := typesUnlikeRow.holds Tryd.pinned (OpenSpec.ofChange typesUnlikeSpec)

/-- ITS FALSE NEIGHBOUR: 'it returns false'. Refute it at one input. -/
def typesUnlikeWrong : ChangeSpec := { name := "typesUnlike", fn := fun _ => fun
  | [d1, d2] => { results := [.lit (.bool false)], args := [d1, d2] }
  | _ => none }
def TypesUnlikeWrongFalsely : Prop := typesUnlikeRow.holds Tryd.pinned (OpenSpec.ofChange typesUnlikeWrong)

/-- 'brocadelaw04.TypesFuns': WHATEVER THE INPUT: true; the input reads as it did. -/
def typesFunsSpec : ChangeSpec := { name := "typesFuns", fn := fun _ => fun
  | [d1, d2, d3] => { results := [.lit (.bool true)], args := [d1, d2, d3] }
  | _ => none }
def typesFunsRow : OpenClaim := { program := "ytembdjghbphcdaadoor", sum := "1a68ae1b17c33a4da73f8bdbc15ece1373eccbe3e287478d4a9d503cb2c69312", func := "brocade/brocadelaw04.TypesFuns", spec := "typesFuns", inPlace := ["internal/abi.NoEscape", "internal/bytealg.MakeNoZero"], unfollowed := true, recurses := true, named := ["internal/strconv.uint64pow10", "math/bits.deBruijn32tab", "math/bits.deBruijn64tab"], loops := true, apart := false, laid := [("math/bits.deBruijn32tab", laid_math_bits_deBruijn32tab), ("math/bits.deBruijn64tab", laid_math_bits_deBruijn64tab), ("internal/strconv.uint64pow10", laid_internal_strconv_uint64pow10)] }
def TypesFunsSaid : Prop := typesFunsRow.holds Tryd.pinned (OpenSpec.ofChange typesFunsSpec)

/-- ITS FALSE NEIGHBOUR: 'it returns false'. Refute it at one input. -/
def typesFunsWrong : ChangeSpec := { name := "typesFuns", fn := fun _ => fun
  | [d1, d2, d3] => { results := [.lit (.bool false)], args := [d1, d2, d3] }
  | _ => none }
def TypesFunsWrongFalsely : Prop := typesFunsRow.holds Tryd.pinned (OpenSpec.ofChange typesFunsWrong)

/-- 'brocadelaw04.TypesDeep': WHATEVER THE INPUT: true; the input reads as it did. -/
def typesDeepSpec : ChangeSpec := { name := "typesDeep", fn := fun _ => fun
  | [d] => { results := [.lit (.bool true)], args := [d] }
  | _ => none }
def typesDeepRow : OpenClaim := { program := "ytembdjghbphcdaadoor", sum := "1a68ae1b17c33a4da73f8bdbc15ece1373eccbe3e287478d4a9d503cb2c69312", func := "brocade/brocadelaw04.TypesDeep", spec := "typesDeep", inPlace := ["internal/abi.NoEscape", "internal/bytealg.MakeNoZero"], unfollowed := true, recurses := true, named := ["internal/strconv.uint64pow10", "math/bits.deBruijn32tab", "math/bits.deBruijn64tab"], apart := false, laid := [("math/bits.deBruijn32tab", laid_math_bits_deBruijn32tab), ("math/bits.deBruijn64tab", laid_math_bits_deBruijn64tab), ("internal/strconv.uint64pow10", laid_internal_strconv_uint64pow10)] }
def TypesDeepSaid : Prop := typesDeepRow.holds Tryd.pinned (OpenSpec.ofChange typesDeepSpec)

/-- ITS FALSE NEIGHBOUR: 'it returns false'. Refute it at one input. -/
def typesDeepWrong : ChangeSpec := { name := "typesDeep", fn := fun _ => fun
  | [d] => { results := [.lit (.bool false)], args := [d] }
  | _ => none }
def TypesDeepWrongFalsely : Prop := typesDeepRow.holds Tryd.pinned (OpenSpec.ofChange typesDeepWrong)

/-- 'brocadelaw04.TypesRefs': WHATEVER THE INPUT: true; the input reads as it did. -/
def typesRefsSpec : ChangeSpec := { name := "typesRefs", fn := fun _ => fun
  | [d1, d2] => { results := [.lit (.bool true)], args := [d1, d2] }
  | _ => none }
def typesRefsRow : OpenClaim := { program := "ytembdjghbphcdaadoor", sum := "1a68ae1b17c33a4da73f8bdbc15ece1373eccbe3e287478d4a9d503cb2c69312", func := "brocade/brocadelaw04.TypesRefs", spec := "typesRefs", inPlace := ["internal/abi.NoEscape", "internal/bytealg.MakeNoZero"], unfollowed := true, recurses := true, named := ["internal/strconv.uint64pow10", "math/bits.deBruijn32tab", "math/bits.deBruijn64tab"], loops := true, apart := false, laid := [("math/bits.deBruijn32tab", laid_math_bits_deBruijn32tab), ("math/bits.deBruijn64tab", laid_math_bits_deBruijn64tab), ("internal/strconv.uint64pow10", laid_internal_strconv_uint64pow10)] }
def TypesRefsSaid : Prop := typesRefsRow.holds Tryd.pinned (OpenSpec.ofChange typesRefsSpec)

/-- ITS FALSE NEIGHBOUR: 'it returns false'. Refute it at one input. -/
def typesRefsWrong : ChangeSpec := { name := "typesRefs", fn := fun _ => fun
  | [d1, d2] => { results := [.lit (.bool false)], args := [d1, d2] }
  | _ => none }
def TypesRefsWrongFalsely : Prop := typesRefsRow.holds Tryd.pinned (OpenSpec.ofChange typesRefsWrong)

/-- 'brocadelaw04.TypesSorts': WHATEVER THE INPUT: true; the input reads as it did. -/
def typesSortsSpec : ChangeSpec := { name := "typesSorts", fn := fun _ => fun
  | [d1, d2, d3] => { results := [.lit (.bool true)], args := [d1, d2, d3] }
  | _ => none }
def typesSortsRow : OpenClaim := { program := "ytembdjghbphcdaadoor", sum := "1a68ae1b17c33a4da73f8bdbc15ece1373eccbe3e287478d4a9d503cb2c69312", func := "brocade/brocadelaw04.TypesSorts", spec := "typesSorts", inPlace := ["internal/abi.NoEscape", "internal/bytealg.MakeNoZero"], unfollowed := true, recurses := true, named := ["internal/strconv.uint64pow10", "math/bits.deBruijn32tab", "math/bits.deBruijn64tab"], apart := false, laid := [("math/bits.deBruijn32tab", laid_math_bits_deBruijn32tab), ("math/bits.deBruijn64tab", laid_math_bits_deBruijn64tab), ("internal/strconv.uint64pow10", laid_internal_strconv_uint64pow10)] }
def TypesSortsSaid : Prop := typesSortsRow.holds Tryd.pinned (OpenSpec.ofChange typesSortsSpec)

/-- ITS FALSE NEIGHBOUR: 'it returns false'. Refute it at one input. -/
def typesSortsWrong : ChangeSpec := { name := "typesSorts", fn := fun _ => fun
  | [d1, d2, d3] => { results := [.lit (.bool false)], args := [d1, d2, d3] }
  | _ => none }
def TypesSortsWrongFalsely : Prop := typesSortsRow.holds Tryd.pinned (OpenSpec.ofChange typesSortsWrong)

/-- 'brocadelaw04.TypesLabels': WHATEVER THE INPUT: true; the input reads as it did. -/
def typesLabelsSpec : ChangeSpec := { name := "typesLabels", fn := fun _ => fun
  | [d1, d2] => { results := [.lit (.bool true)], args := [d1, d2] }
  | _ => none }
def typesLabelsRow : OpenClaim := { program := "ytembdjghbphcdaadoor", sum := "1a68ae1b17c33a4da73f8bdbc15ece1373eccbe3e287478d4a9d503cb2c69312", func := "brocade/brocadelaw04.TypesLabels", spec := "typesLabels", inPlace := ["internal/abi.NoEscape", "internal/bytealg.MakeNoZero"], unfollowed := true, recurses := true, named := ["internal/strconv.uint64pow10", "math/bits.deBruijn32tab", "math/bits.deBruijn64tab"], apart := false, laid := [("math/bits.deBruijn32tab", laid_math_bits_deBruijn32tab), ("math/bits.deBruijn64tab", laid_math_bits_deBruijn64tab), ("internal/strconv.uint64pow10", laid_internal_strconv_uint64pow10)] }
def TypesLabelsSaid : Prop := typesLabelsRow.holds Tryd.pinned (OpenSpec.ofChange typesLabelsSpec)

/-- ITS FALSE NEIGHBOUR: 'it returns false'. Refute it at one input. -/
def typesLabelsWrong : ChangeSpec := { name := "typesLabels", fn := fun _ => fun
  | [d1, d2] => { results := [.lit (.bool false)], args := [d1, d2] }
  | _ => none }
def TypesLabelsWrongFalsely : Prop := typesLabelsRow.holds Tryd.pinned (OpenSpec.ofChange typesLabelsWrong)

/-- 'brocadelaw04.TypesCommon': WHATEVER THE INPUT: true; the input reads as it did. -/
def typesCommonSpec : ChangeSpec := { name := "typesCommon", fn := fun _ => fun
  | [d1, d2, d3] => { results := [.lit (.bool true)], args := [d1, d2, d3] }
  | _ => none }
def typesCommonRow : OpenClaim := { program := "ytembdjghbphcdaadoor", sum := "1a68ae1b17c33a4da73f8bdbc15ece1373eccbe3e287478d4a9d503cb2c69312", func := "brocade/brocadelaw04.TypesCommon", spec := "typesCommon", inPlace := ["internal/abi.NoEscape", "internal/bytealg.MakeNoZero"], unfollowed := true, recurses := true, named := ["internal/strconv.uint64pow10", "math/bits.deBruijn32tab", "math/bits.deBruijn64tab"], apart := false, laid := [("math/bits.deBruijn32tab", laid_math_bits_deBruijn32tab), ("math/bits.deBruijn64tab", laid_math_bits_deBruijn64tab), ("internal/strconv.uint64pow10", laid_internal_strconv_uint64pow10)] }
def TypesCommonSaid : Prop := typesCommonRow.holds Tryd.pinned (OpenSpec.ofChange typesCommonSpec)

/-- ITS FALSE NEIGHBOUR: 'it returns false'. Refute it at one input. -/
def typesCommonWrong : ChangeSpec := { name := "typesCommon", fn := fun _ => fun
  | [d1, d2, d3] => { results := [.lit (.bool false)], args := [d1, d2, d3] }
  | _ => none }
def TypesCommonWrongFalsely : Prop := typesCommonRow.holds Tryd.pinned (OpenSpec.ofChange typesCommonWrong)

/- THE SECOND FORM. 'bulk': how many values and letters a reading holds, each counted each time it is reached (what is shared counts as often as it is met; a slice's spare places count too). A statement '..UptoSaid' is the law's where the arguments, and the package variables that the reading takes, are together of bulk at most 1048576: NARROWER than '..Said'. Prove '..Said' where nothing that the law and all that it calls make is longer than what came in: it says more and counts as full. Else prove '..UptoSaid'. A law counts once. -/
mutual
def uptoBulk {H : Type} : DataW H → Nat
  | .lit (.string bytes) => bytes.length + 1
  | .lit _ => 1
  | .nil => 1
  | .ptr d => uptoBulk d + 1
  | .slice elems spare => uptoBulkAll elems + uptoBulkAll spare + 1
  | .agg parts => uptoBulkAll parts + 1
  | .iface _ d => uptoBulk d + 1
  | .map entries => uptoBulkEntries entries + 1
  | .held _ => 1
def uptoBulkAll {H : Type} : List (DataW H) → Nat
  | [] => 0
  | d :: r => uptoBulk d + uptoBulkAll r
def uptoBulkEntries {H : Type} : List (Lit × DataW H) → Nat
  | [] => 0
  | x :: r => uptoBulkEntry x + uptoBulkEntries r
def uptoBulkEntry {H : Type} : Lit × DataW H → Nat
  | (.string bytes, d) => bytes.length + uptoBulk d + 1
  | (_, d) => uptoBulk d + 1
 end
def uptoSmall : (H : Type) → List (DataW H) → Bool := fun _ ds => decide (uptoBulkAll ds ≤ 1048576)
def OpenSpec.upto (s : _root_.Go.ChangeSpec) : _root_.Go.OpenSpec := { _root_.Go.OpenSpec.ofChange s with cond := some uptoSmall }

/-- 'brocadelaw04.TypesTexts', WHERE WHAT IT READS IS OF BULK AT MOST 1048576: true; the input reads as it did. -/
def typesTextsUptoRow : OpenClaim := { program := "ytembdjghbphcdaadoor", sum := "1a68ae1b17c33a4da73f8bdbc15ece1373eccbe3e287478d4a9d503cb2c69312", func := "brocade/brocadelaw04.TypesTexts", spec := "typesTexts", inPlace := ["internal/abi.NoEscape", "internal/bytealg.MakeNoZero"], unfollowed := true, recurses := true, named := ["internal/strconv.uint64pow10", "math/bits.deBruijn32tab", "math/bits.deBruijn64tab"], loops := true, apart := false, laid := [("math/bits.deBruijn32tab", laid_math_bits_deBruijn32tab), ("math/bits.deBruijn64tab", laid_math_bits_deBruijn64tab), ("internal/strconv.uint64pow10", laid_internal_strconv_uint64pow10)], narrowed := true }
def TypesTextsUptoSaid : Prop := typesTextsUptoRow.holds Tryd.pinned (OpenSpec.upto typesTextsSpec)

/-- 'brocadelaw04.TypesUnlike', WHERE WHAT IT READS IS OF BULK AT MOST 1048576: true; the input reads as it did. -/
def typesUnlikeUptoRow : OpenClaim := { program := "ytembdjghbphcdaadoor", sum := "1a68ae1b17c33a4da73f8bdbc15ece1373eccbe3e287478d4a9d503cb2c69312", func := "brocade/brocadelaw04.TypesUnlike", spec := "typesUnlike", inPlace := ["internal/abi.NoEscape", "internal/bytealg.MakeNoZero"], unfollowed := true, recurses := true, named := ["internal/strconv.uint64pow10", "math/bits.deBruijn32tab", "math/bits.deBruijn64tab"], loops := true, apart := false, laid := [("math/bits.deBruijn32tab", laid_math_bits_deBruijn32tab), ("math/bits.deBruijn64tab", laid_math_bits_deBruijn64tab), ("internal/strconv.uint64pow10", laid_internal_strconv_uint64pow10)], narrowed := true }
def TypesUnlikeUptoSaid : Prop := typesUnlikeUptoRow.holds Tryd.pinned (OpenSpec.upto typesUnlikeSpec)

/-- 'brocadelaw04.TypesFuns', WHERE WHAT IT READS IS OF BULK AT MOST 1048576: true; the input reads as it did. -/
def typesFunsUptoRow : OpenClaim := { program := "ytembdjghbphcdaadoor", sum := "1a68ae1b17c33a4da73f8bdbc15ece1373eccbe3e287478d4a9d503cb2c69312", func := "brocade/brocadelaw04.TypesFuns", spec := "typesFuns", inPlace := ["internal/abi.NoEscape", "internal/bytealg.MakeNoZero"], unfollowed := true, recurses := true, named := ["internal/strconv.uint64pow10", "math/bits.deBruijn32tab", "math/bits.deBruijn64tab"], loops := true, apart := false, laid := [("math/bits.deBruijn32tab", laid_math_bits_deBruijn32tab), ("math/bits.deBruijn64tab", laid_math_bits_deBruijn64tab), ("internal/strconv.uint64pow10", laid_internal_strconv_uint64pow10)], narrowed := true }
def TypesFunsUptoSaid : Prop := typesFunsUptoRow.holds Tryd.pinned (OpenSpec.upto typesFunsSpec)

/-- 'brocadelaw04.TypesDeep', WHERE WHAT IT READS IS OF BULK AT MOST 1048576: true; the input reads as it did. -/
def typesDeepUptoRow : OpenClaim := { program := "ytembdjghbphcdaadoor", sum := "1a68ae1b17c33a4da73f8bdbc15ece1373eccbe3e287478d4a9d503cb2c69312", func := "brocade/brocadelaw04.TypesDeep", spec := "typesDeep", inPlace := ["internal/abi.NoEscape", "internal/bytealg.MakeNoZero"], unfollowed := true, recurses := true, named := ["internal/strconv.uint64pow10", "math/bits.deBruijn32tab", "math/bits.deBruijn64tab"], apart := false, laid := [("math/bits.deBruijn32tab", laid_math_bits_deBruijn32tab), ("math/bits.deBruijn64tab", laid_math_bits_deBruijn64tab), ("internal/strconv.uint64pow10", laid_internal_strconv_uint64pow10)], narrowed := true }
def TypesDeepUptoSaid : Prop := typesDeepUptoRow.holds Tryd.pinned (OpenSpec.upto typesDeepSpec)

/-- 'brocadelaw04.TypesRefs', WHERE WHAT IT READS IS OF BULK AT MOST 1048576: true; the input reads as it did. -/
def typesRefsUptoRow : OpenClaim := { program := "ytembdjghbphcdaadoor", sum := "1a68ae1b17c33a4da73f8bdbc15ece1373eccbe3e287478d4a9d503cb2c69312", func := "brocade/brocadelaw04.TypesRefs", spec := "typesRefs", inPlace := ["internal/abi.NoEscape", "internal/bytealg.MakeNoZero"], unfollowed := true, recurses := true, named := ["internal/strconv.uint64pow10", "math/bits.deBruijn32tab", "math/bits.deBruijn64tab"], loops := true, apart := false, laid := [("math/bits.deBruijn32tab", laid_math_bits_deBruijn32tab), ("math/bits.deBruijn64tab", laid_math_bits_deBruijn64tab), ("internal/strconv.uint64pow10", laid_internal_strconv_uint64pow10)], narrowed := true }
def TypesRefsUptoSaid : Prop := typesRefsUptoRow.holds Tryd.pinned (OpenSpec.upto typesRefsSpec)

/-- 'brocadelaw04.TypesSorts', WHERE WHAT IT READS IS OF BULK AT MOST 1048576: true; the input reads as it did. -/
def typesSortsUptoRow : OpenClaim := { program := "ytembdjghbphcdaadoor", sum := "1a68ae1b17c33a4da73f8bdbc15ece1373eccbe3e287478d4a9d503cb2c69312", func := "brocade/brocadelaw04.TypesSorts", spec := "typesSorts", inPlace := ["internal/abi.NoEscape", "internal/bytealg.MakeNoZero"], unfollowed := true, recurses := true, named := ["internal/strconv.uint64pow10", "math/bits.deBruijn32tab", "math/bits.deBruijn64tab"], apart := false, laid := [("math/bits.deBruijn32tab", laid_math_bits_deBruijn32tab), ("math/bits.deBruijn64tab", laid_math_bits_deBruijn64tab), ("internal/strconv.uint64pow10", laid_internal_strconv_uint64pow10)], narrowed := true }
def TypesSortsUptoSaid : Prop := typesSortsUptoRow.holds Tryd.pinned (OpenSpec.upto typesSortsSpec)

/-- 'brocadelaw04.TypesLabels', WHERE WHAT IT READS IS OF BULK AT MOST 1048576: true; the input reads as it did. -/
def typesLabelsUptoRow : OpenClaim := { program := "ytembdjghbphcdaadoor", sum := "1a68ae1b17c33a4da73f8bdbc15ece1373eccbe3e287478d4a9d503cb2c69312", func := "brocade/brocadelaw04.TypesLabels", spec := "typesLabels", inPlace := ["internal/abi.NoEscape", "internal/bytealg.MakeNoZero"], unfollowed := true, recurses := true, named := ["internal/strconv.uint64pow10", "math/bits.deBruijn32tab", "math/bits.deBruijn64tab"], apart := false, laid := [("math/bits.deBruijn32tab", laid_math_bits_deBruijn32tab), ("math/bits.deBruijn64tab", laid_math_bits_deBruijn64tab), ("internal/strconv.uint64pow10", laid_internal_strconv_uint64pow10)], narrowed := true }
def TypesLabelsUptoSaid : Prop := typesLabelsUptoRow.holds Tryd.pinned (OpenSpec.upto typesLabelsSpec)

/-- 'brocadelaw04.TypesCommon', WHERE WHAT IT READS IS OF BULK AT MOST 1048576: true; the input reads as it did. -/
def typesCommonUptoRow : OpenClaim := { program := "ytembdjghbphcdaadoor", sum := "1a68ae1b17c33a4da73f8bdbc15ece1373eccbe3e287478d4a9d503cb2c69312", func := "brocade/brocadelaw04.TypesCommon", spec := "typesCommon", inPlace := ["internal/abi.NoEscape", "internal/bytealg.MakeNoZero"], unfollowed := true, recurses := true, named := ["internal/strconv.uint64pow10", "math/bits.deBruijn32tab", "math/bits.deBruijn64tab"], apart := false, laid := [("math/bits.deBruijn32tab", laid_math_bits_deBruijn32tab), ("math/bits.deBruijn64tab", laid_math_bits_deBruijn64tab), ("internal/strconv.uint64pow10", laid_internal_strconv_uint64pow10)], narrowed := true }
def TypesCommonUptoSaid : Prop := typesCommonUptoRow.holds Tryd.pinned (OpenSpec.upto typesCommonSpec)

end Rows
end Go.Proofs.YtembdjghbphcdaaDoor
