/-
  NARROWER THAN 'FOR EVERY INPUT', by the rows' own cells (each row's printed sentence says how): PartParse: laid · PartMake: laid · PartRight: laid · PartJoined: laid · PartFirst: laid · PartAll: laid · PartPrint: laid · PartAgain: laid · PartStraight: laid.
  DERIVED. THE GIVEN ROWS OF THIS SEAT. 9 by the template 'for every input the law returns true; each argument reads behind the call as it read before'; 0 by the template 'total and deterministic' (their statements: YtnkkcknogkgdkaaGreatDoorTotals.lean).
  GIVEN WITH THE SEED: the statements are not yours to turn. If you find one false, say at which input.
  Laid BY PROGRAM, IN A SANDBOX (cutbox-rows.mjs): the forced cells as the released guide's own fill.sh prints them over the translation 551987eeff48888a… (all of the seat's roots in one cut). By AI agents, Wed Nov 11 2026. No macro, syntax, notation, axiom, sorry.
-/
import Derived.Test.YtnkkcknogkgdkaaGreatDoorChecked
import GoSem.Claim
import GoSem.ClaimJoined
import GoSem.ClaimMapViews
import Derived.JoinedTies
import Derived.KernelRfl
namespace Go.Proofs.YtnkkcknogkgdkaaGreatDoor
/- THE CELL 'sum', in the pinned program and in every row, IS THE sha256 OF THE DUMP (.gsa) THAT YtnkkcknogkgdkaaGreatDoorProg.lean LOADS. Nothing in Lean hashes anything: it is a label: what it is worth is what the hold of that sum in a sandbox is worth. -/
noncomputable def Tryz.pinned : Pinned := { name := "ytnkkcknogkgdkaagreatdoor", sum := "551987eeff48888a17bfe72d25492103fcaa38005f99583c61425db4f327f562", checked := Tryz.checked }
namespace Rows
def none {H : Type} : Left H := { results := [], args := [] }

/- WHAT THE LISTED PACKAGE-LEVEL VARIABLES READ AS WHEN THE CALL BEGINS. Each datum BY PROGRAM (the guide's laid-datum.mjs) off the statement by which the dump's own 'gosem.cut.vars' lays the variable. In a bare row this is a premise. The card (YtnkkcknogkgdkaaGreatDoorCards.lean) ties it to the program's text. -/
def laid_math_bits_deBruijn32tab {H : Type} : DataW H := .agg [.lit (.int .u8 0), .lit (.int .u8 1), .lit (.int .u8 28), .lit (.int .u8 2), .lit (.int .u8 29), .lit (.int .u8 14), .lit (.int .u8 24), .lit (.int .u8 3), .lit (.int .u8 30), .lit (.int .u8 22), .lit (.int .u8 20), .lit (.int .u8 15), .lit (.int .u8 25), .lit (.int .u8 17), .lit (.int .u8 4), .lit (.int .u8 8), .lit (.int .u8 31), .lit (.int .u8 27), .lit (.int .u8 13), .lit (.int .u8 23), .lit (.int .u8 21), .lit (.int .u8 19), .lit (.int .u8 16), .lit (.int .u8 7), .lit (.int .u8 26), .lit (.int .u8 12), .lit (.int .u8 18), .lit (.int .u8 6), .lit (.int .u8 11), .lit (.int .u8 5), .lit (.int .u8 10), .lit (.int .u8 9)]
def laid_math_bits_deBruijn64tab {H : Type} : DataW H := .agg [.lit (.int .u8 0), .lit (.int .u8 1), .lit (.int .u8 56), .lit (.int .u8 2), .lit (.int .u8 57), .lit (.int .u8 49), .lit (.int .u8 28), .lit (.int .u8 3), .lit (.int .u8 61), .lit (.int .u8 58), .lit (.int .u8 42), .lit (.int .u8 50), .lit (.int .u8 38), .lit (.int .u8 29), .lit (.int .u8 17), .lit (.int .u8 4), .lit (.int .u8 62), .lit (.int .u8 47), .lit (.int .u8 59), .lit (.int .u8 36), .lit (.int .u8 45), .lit (.int .u8 43), .lit (.int .u8 51), .lit (.int .u8 22), .lit (.int .u8 53), .lit (.int .u8 39), .lit (.int .u8 33), .lit (.int .u8 30), .lit (.int .u8 24), .lit (.int .u8 18), .lit (.int .u8 12), .lit (.int .u8 5), .lit (.int .u8 63), .lit (.int .u8 55), .lit (.int .u8 48), .lit (.int .u8 27), .lit (.int .u8 60), .lit (.int .u8 41), .lit (.int .u8 37), .lit (.int .u8 16), .lit (.int .u8 46), .lit (.int .u8 35), .lit (.int .u8 44), .lit (.int .u8 21), .lit (.int .u8 52), .lit (.int .u8 32), .lit (.int .u8 23), .lit (.int .u8 11), .lit (.int .u8 54), .lit (.int .u8 26), .lit (.int .u8 40), .lit (.int .u8 15), .lit (.int .u8 34), .lit (.int .u8 20), .lit (.int .u8 31), .lit (.int .u8 10), .lit (.int .u8 25), .lit (.int .u8 14), .lit (.int .u8 19), .lit (.int .u8 9), .lit (.int .u8 13), .lit (.int .u8 8), .lit (.int .u8 7), .lit (.int .u8 6)]
def laid_internal_strconv_uint64pow10 {H : Type} : DataW H := .agg [.lit (.int .u64 1), .lit (.int .u64 10), .lit (.int .u64 100), .lit (.int .u64 1000), .lit (.int .u64 10000), .lit (.int .u64 100000), .lit (.int .u64 1000000), .lit (.int .u64 10000000), .lit (.int .u64 100000000), .lit (.int .u64 1000000000), .lit (.int .u64 10000000000), .lit (.int .u64 100000000000), .lit (.int .u64 1000000000000), .lit (.int .u64 10000000000000), .lit (.int .u64 100000000000000), .lit (.int .u64 1000000000000000), .lit (.int .u64 10000000000000000), .lit (.int .u64 100000000000000000), .lit (.int .u64 1000000000000000000), .lit (.int .u64 10000000000000000000)]
def laid_strconv_ErrRange {H : Type} : DataW H := .iface "*errors.errorString" (.ptr (.agg [.lit (.string [118, 97, 108, 117, 101, 32, 111, 117, 116, 32, 111, 102, 32, 114, 97, 110, 103, 101])]))
def laid_strconv_ErrSyntax {H : Type} : DataW H := .iface "*errors.errorString" (.ptr (.agg [.lit (.string [105, 110, 118, 97, 108, 105, 100, 32, 115, 121, 110, 116, 97, 120])]))

/-- 'fretsawlaw22.PartParse': WHATEVER THE INPUT: true; the input reads as it did. -/
def partParseSpec : ChangeSpec := { name := "partParse", fn := fun _ => fun
  | [d] => { results := [.lit (.bool true)], args := [d] }
  | _ => none }
def partParseRow : OpenClaim := { program := "ytnkkcknogkgdkaagreatdoor", sum := "551987eeff48888a17bfe72d25492103fcaa38005f99583c61425db4f327f562", func := "fretsaw/fretsawlaw22.PartParse", spec := "partParse", inPlace := ["internal/bytealg.IndexByteString", "math.sqrt"], unfollowed := true, recurses := true, named := ["strconv.ErrSyntax", "strconv.ErrRange", "internal/strconv.uint64pow10", "math/bits.deBruijn32tab", "math/bits.deBruijn64tab"], apart := false, laid := [("math/bits.deBruijn32tab", laid_math_bits_deBruijn32tab), ("math/bits.deBruijn64tab", laid_math_bits_deBruijn64tab), ("internal/strconv.uint64pow10", laid_internal_strconv_uint64pow10), ("strconv.ErrRange", laid_strconv_ErrRange), ("strconv.ErrSyntax", laid_strconv_ErrSyntax)] }
def PartParseSaid : Prop := partParseRow.holds Tryz.pinned (OpenSpec.ofChange partParseSpec)

/-- ITS FALSE NEIGHBOUR: 'it returns false'. Refute it at one input. -/
def partParseWrong : ChangeSpec := { name := "partParse", fn := fun _ => fun
  | [d] => { results := [.lit (.bool false)], args := [d] }
  | _ => none }
def PartParseWrongFalsely : Prop := partParseRow.holds Tryz.pinned (OpenSpec.ofChange partParseWrong)

/-- 'fretsawlaw22.PartMake': WHATEVER THE INPUT: true; the input reads as it did. -/
def partMakeSpec : ChangeSpec := { name := "partMake", fn := fun _ => fun
  | [d] => { results := [.lit (.bool true)], args := [d] }
  | _ => none }
def partMakeRow : OpenClaim := { program := "ytnkkcknogkgdkaagreatdoor", sum := "551987eeff48888a17bfe72d25492103fcaa38005f99583c61425db4f327f562", func := "fretsaw/fretsawlaw22.PartMake", spec := "partMake", inPlace := ["internal/bytealg.IndexByteString", "math.sqrt"], unfollowed := true, recurses := true, named := ["strconv.ErrSyntax", "strconv.ErrRange", "internal/strconv.uint64pow10", "math/bits.deBruijn32tab", "math/bits.deBruijn64tab"], apart := false, laid := [("math/bits.deBruijn32tab", laid_math_bits_deBruijn32tab), ("math/bits.deBruijn64tab", laid_math_bits_deBruijn64tab), ("internal/strconv.uint64pow10", laid_internal_strconv_uint64pow10), ("strconv.ErrRange", laid_strconv_ErrRange), ("strconv.ErrSyntax", laid_strconv_ErrSyntax)] }
def PartMakeSaid : Prop := partMakeRow.holds Tryz.pinned (OpenSpec.ofChange partMakeSpec)

/-- ITS FALSE NEIGHBOUR: 'it returns false'. Refute it at one input. -/
def partMakeWrong : ChangeSpec := { name := "partMake", fn := fun _ => fun
  | [d] => { results := [.lit (.bool false)], args := [d] }
  | _ => none }
def PartMakeWrongFalsely : Prop := partMakeRow.holds Tryz.pinned (OpenSpec.ofChange partMakeWrong)

/-- 'fretsawlaw22.PartRight': WHATEVER THE INPUT: true; the input reads as it did. -/
def partRightSpec : ChangeSpec := { name := "partRight", fn := fun _ => fun
  | [d] => { results := [.lit (.bool true)], args := [d] }
  | _ => none }
def partRightRow : OpenClaim := { program := "ytnkkcknogkgdkaagreatdoor", sum := "551987eeff48888a17bfe72d25492103fcaa38005f99583c61425db4f327f562", func := "fretsaw/fretsawlaw22.PartRight", spec := "partRight", inPlace := ["internal/bytealg.IndexByteString", "math.sqrt"], unfollowed := true, recurses := true, named := ["strconv.ErrSyntax", "strconv.ErrRange", "internal/strconv.uint64pow10", "math/bits.deBruijn32tab", "math/bits.deBruijn64tab"], apart := false, laid := [("math/bits.deBruijn32tab", laid_math_bits_deBruijn32tab), ("math/bits.deBruijn64tab", laid_math_bits_deBruijn64tab), ("internal/strconv.uint64pow10", laid_internal_strconv_uint64pow10), ("strconv.ErrRange", laid_strconv_ErrRange), ("strconv.ErrSyntax", laid_strconv_ErrSyntax)] }
def PartRightSaid : Prop := partRightRow.holds Tryz.pinned (OpenSpec.ofChange partRightSpec)

/-- ITS FALSE NEIGHBOUR: 'it returns false'. Refute it at one input. -/
def partRightWrong : ChangeSpec := { name := "partRight", fn := fun _ => fun
  | [d] => { results := [.lit (.bool false)], args := [d] }
  | _ => none }
def PartRightWrongFalsely : Prop := partRightRow.holds Tryz.pinned (OpenSpec.ofChange partRightWrong)

/-- 'fretsawlaw22.PartJoined': WHATEVER THE INPUT: true; the input reads as it did. -/
def partJoinedSpec : ChangeSpec := { name := "partJoined", fn := fun _ => fun
  | [d1, d2] => { results := [.lit (.bool true)], args := [d1, d2] }
  | _ => none }
def partJoinedRow : OpenClaim := { program := "ytnkkcknogkgdkaagreatdoor", sum := "551987eeff48888a17bfe72d25492103fcaa38005f99583c61425db4f327f562", func := "fretsaw/fretsawlaw22.PartJoined", spec := "partJoined", inPlace := ["internal/bytealg.IndexByteString", "math.sqrt"], unfollowed := true, recurses := true, named := ["strconv.ErrSyntax", "strconv.ErrRange", "internal/strconv.uint64pow10", "math/bits.deBruijn32tab", "math/bits.deBruijn64tab"], apart := false, laid := [("math/bits.deBruijn32tab", laid_math_bits_deBruijn32tab), ("math/bits.deBruijn64tab", laid_math_bits_deBruijn64tab), ("internal/strconv.uint64pow10", laid_internal_strconv_uint64pow10), ("strconv.ErrRange", laid_strconv_ErrRange), ("strconv.ErrSyntax", laid_strconv_ErrSyntax)] }
def PartJoinedSaid : Prop := partJoinedRow.holds Tryz.pinned (OpenSpec.ofChange partJoinedSpec)

/-- ITS FALSE NEIGHBOUR: 'it returns false'. Refute it at one input. -/
def partJoinedWrong : ChangeSpec := { name := "partJoined", fn := fun _ => fun
  | [d1, d2] => { results := [.lit (.bool false)], args := [d1, d2] }
  | _ => none }
def PartJoinedWrongFalsely : Prop := partJoinedRow.holds Tryz.pinned (OpenSpec.ofChange partJoinedWrong)

/-- 'fretsawlaw22.PartFirst': WHATEVER THE INPUT: true; the input reads as it did. -/
def partFirstSpec : ChangeSpec := { name := "partFirst", fn := fun _ => fun
  | [d1, d2] => { results := [.lit (.bool true)], args := [d1, d2] }
  | _ => none }
def partFirstRow : OpenClaim := { program := "ytnkkcknogkgdkaagreatdoor", sum := "551987eeff48888a17bfe72d25492103fcaa38005f99583c61425db4f327f562", func := "fretsaw/fretsawlaw22.PartFirst", spec := "partFirst", inPlace := ["internal/bytealg.IndexByteString", "math.sqrt"], unfollowed := true, recurses := true, named := ["strconv.ErrSyntax", "strconv.ErrRange", "internal/strconv.uint64pow10", "math/bits.deBruijn32tab", "math/bits.deBruijn64tab"], apart := false, laid := [("math/bits.deBruijn32tab", laid_math_bits_deBruijn32tab), ("math/bits.deBruijn64tab", laid_math_bits_deBruijn64tab), ("internal/strconv.uint64pow10", laid_internal_strconv_uint64pow10), ("strconv.ErrRange", laid_strconv_ErrRange), ("strconv.ErrSyntax", laid_strconv_ErrSyntax)] }
def PartFirstSaid : Prop := partFirstRow.holds Tryz.pinned (OpenSpec.ofChange partFirstSpec)

/-- ITS FALSE NEIGHBOUR: 'it returns false'. Refute it at one input. -/
def partFirstWrong : ChangeSpec := { name := "partFirst", fn := fun _ => fun
  | [d1, d2] => { results := [.lit (.bool false)], args := [d1, d2] }
  | _ => none }
def PartFirstWrongFalsely : Prop := partFirstRow.holds Tryz.pinned (OpenSpec.ofChange partFirstWrong)

/-- 'fretsawlaw22.PartAll': WHATEVER THE INPUT: true; the input reads as it did. -/
def partAllSpec : ChangeSpec := { name := "partAll", fn := fun _ => fun
  | [d] => { results := [.lit (.bool true)], args := [d] }
  | _ => none }
def partAllRow : OpenClaim := { program := "ytnkkcknogkgdkaagreatdoor", sum := "551987eeff48888a17bfe72d25492103fcaa38005f99583c61425db4f327f562", func := "fretsaw/fretsawlaw22.PartAll", spec := "partAll", inPlace := ["internal/bytealg.IndexByteString", "math.sqrt"], unfollowed := true, recurses := true, named := ["strconv.ErrSyntax", "strconv.ErrRange", "internal/strconv.uint64pow10", "math/bits.deBruijn32tab", "math/bits.deBruijn64tab"], apart := false, laid := [("math/bits.deBruijn32tab", laid_math_bits_deBruijn32tab), ("math/bits.deBruijn64tab", laid_math_bits_deBruijn64tab), ("internal/strconv.uint64pow10", laid_internal_strconv_uint64pow10), ("strconv.ErrRange", laid_strconv_ErrRange), ("strconv.ErrSyntax", laid_strconv_ErrSyntax)] }
def PartAllSaid : Prop := partAllRow.holds Tryz.pinned (OpenSpec.ofChange partAllSpec)

/-- ITS FALSE NEIGHBOUR: 'it returns false'. Refute it at one input. -/
def partAllWrong : ChangeSpec := { name := "partAll", fn := fun _ => fun
  | [d] => { results := [.lit (.bool false)], args := [d] }
  | _ => none }
def PartAllWrongFalsely : Prop := partAllRow.holds Tryz.pinned (OpenSpec.ofChange partAllWrong)

/-- 'fretsawlaw22.PartPrint': WHATEVER THE INPUT: true; the input reads as it did. -/
def partPrintSpec : ChangeSpec := { name := "partPrint", fn := fun _ => fun
  | [d] => { results := [.lit (.bool true)], args := [d] }
  | _ => none }
def partPrintRow : OpenClaim := { program := "ytnkkcknogkgdkaagreatdoor", sum := "551987eeff48888a17bfe72d25492103fcaa38005f99583c61425db4f327f562", func := "fretsaw/fretsawlaw22.PartPrint", spec := "partPrint", inPlace := ["internal/bytealg.IndexByteString", "math.sqrt", "internal/abi.NoEscape", "internal/bytealg.MakeNoZero"], unfollowed := true, recurses := true, named := ["strconv.ErrSyntax", "strconv.ErrRange", "internal/strconv.uint64pow10", "math/bits.deBruijn32tab", "math/bits.deBruijn64tab"], apart := false, laid := [("math/bits.deBruijn32tab", laid_math_bits_deBruijn32tab), ("math/bits.deBruijn64tab", laid_math_bits_deBruijn64tab), ("internal/strconv.uint64pow10", laid_internal_strconv_uint64pow10), ("strconv.ErrRange", laid_strconv_ErrRange), ("strconv.ErrSyntax", laid_strconv_ErrSyntax)] }
def PartPrintSaid : Prop := partPrintRow.holds Tryz.pinned (OpenSpec.ofChange partPrintSpec)

/-- ITS FALSE NEIGHBOUR: 'it returns false'. Refute it at one input. -/
def partPrintWrong : ChangeSpec := { name := "partPrint", fn := fun _ => fun
  | [d] => { results := [.lit (.bool false)], args := [d] }
  | _ => none }
def PartPrintWrongFalsely : Prop := partPrintRow.holds Tryz.pinned (OpenSpec.ofChange partPrintWrong)

/-- 'fretsawlaw22.PartAgain': WHATEVER THE INPUT: true; the input reads as it did. -/
def partAgainSpec : ChangeSpec := { name := "partAgain", fn := fun _ => fun
  | [d1, d2] => { results := [.lit (.bool true)], args := [d1, d2] }
  | _ => none }
def partAgainRow : OpenClaim := { program := "ytnkkcknogkgdkaagreatdoor", sum := "551987eeff48888a17bfe72d25492103fcaa38005f99583c61425db4f327f562", func := "fretsaw/fretsawlaw22.PartAgain", spec := "partAgain", inPlace := ["internal/bytealg.IndexByteString", "math.sqrt", "internal/abi.NoEscape", "internal/bytealg.MakeNoZero"], unfollowed := true, recurses := true, named := ["strconv.ErrSyntax", "strconv.ErrRange", "internal/strconv.uint64pow10", "math/bits.deBruijn32tab", "math/bits.deBruijn64tab"], apart := false, laid := [("math/bits.deBruijn32tab", laid_math_bits_deBruijn32tab), ("math/bits.deBruijn64tab", laid_math_bits_deBruijn64tab), ("internal/strconv.uint64pow10", laid_internal_strconv_uint64pow10), ("strconv.ErrRange", laid_strconv_ErrRange), ("strconv.ErrSyntax", laid_strconv_ErrSyntax)] }
def PartAgainSaid : Prop := partAgainRow.holds Tryz.pinned (OpenSpec.ofChange partAgainSpec)

/-- ITS FALSE NEIGHBOUR: 'it returns false'. Refute it at one input. -/
def partAgainWrong : ChangeSpec := { name := "partAgain", fn := fun _ => fun
  | [d1, d2] => { results := [.lit (.bool false)], args := [d1, d2] }
  | _ => none }
def PartAgainWrongFalsely : Prop := partAgainRow.holds Tryz.pinned (OpenSpec.ofChange partAgainWrong)

/-- 'fretsawlaw22.PartStraight': WHATEVER THE INPUT: true; the input reads as it did. -/
def partStraightSpec : ChangeSpec := { name := "partStraight", fn := fun _ => fun
  | [d] => { results := [.lit (.bool true)], args := [d] }
  | _ => none }
def partStraightRow : OpenClaim := { program := "ytnkkcknogkgdkaagreatdoor", sum := "551987eeff48888a17bfe72d25492103fcaa38005f99583c61425db4f327f562", func := "fretsaw/fretsawlaw22.PartStraight", spec := "partStraight", inPlace := ["internal/bytealg.IndexByteString", "math.sqrt", "internal/abi.NoEscape", "internal/bytealg.MakeNoZero"], unfollowed := true, recurses := true, named := ["strconv.ErrSyntax", "strconv.ErrRange", "internal/strconv.uint64pow10", "math/bits.deBruijn32tab", "math/bits.deBruijn64tab"], apart := false, laid := [("math/bits.deBruijn32tab", laid_math_bits_deBruijn32tab), ("math/bits.deBruijn64tab", laid_math_bits_deBruijn64tab), ("internal/strconv.uint64pow10", laid_internal_strconv_uint64pow10), ("strconv.ErrRange", laid_strconv_ErrRange), ("strconv.ErrSyntax", laid_strconv_ErrSyntax)] }
def PartStraightSaid : Prop := partStraightRow.holds Tryz.pinned (OpenSpec.ofChange partStraightSpec)

/-- ITS FALSE NEIGHBOUR: 'it returns false'. Refute it at one input. -/
def partStraightWrong : ChangeSpec := { name := "partStraight", fn := fun _ => fun
  | [d] => { results := [.lit (.bool false)], args := [d] }
  | _ => none }
def PartStraightWrongFalsely : Prop := partStraightRow.holds Tryz.pinned (OpenSpec.ofChange partStraightWrong)

/- THE SECOND FORM. 'bulk': how many values and letters a reading holds, each counted each time it is reached (what is shared counts as often as it is met; a slice's spare places count too). A statement '..UptoSaid' is the law's where the arguments, and the package variables that the reading takes, are together of bulk at most 1048576: NARROWER than '..Said'. Prove '..Said' where nothing that the law and all that it calls make is longer than what came in: it says more and counts as full. Else prove '..UptoSaid'. A law counts once. -/
mutual
def uptoBulk {H : Type} : DataW H → Nat
  | .lit (.string bytes) => bytes.length + 1
  | .lit _ => 1
  | .nil => 1
  | .ptr d => uptoBulk d + 1
  | .slice elems spare => uptoBulkAll elems + uptoBulkAll spare + 1
  | .agg parts => uptoBulkAll parts + 1
  | .iface _ d => uptoBulk d + 1
  | .map entries => uptoBulkEntries entries + 1
  | .held _ => 1
def uptoBulkAll {H : Type} : List (DataW H) → Nat
  | [] => 0
  | d :: r => uptoBulk d + uptoBulkAll r
def uptoBulkEntries {H : Type} : List (Lit × DataW H) → Nat
  | [] => 0
  | x :: r => uptoBulkEntry x + uptoBulkEntries r
def uptoBulkEntry {H : Type} : Lit × DataW H → Nat
  | (.string bytes, d) => bytes.length + uptoBulk d + 1
  | (_, d) => uptoBulk d + 1
 end
def uptoSmall : (H : Type) → List (DataW H) → Bool := fun _ ds => decide (uptoBulkAll ds ≤ 1048576)
def OpenSpec.upto (s : _root_.Go.ChangeSpec) : _root_.Go.OpenSpec := { _root_.Go.OpenSpec.ofChange s with cond := some uptoSmall }

/-- 'fretsawlaw22.PartParse', WHERE WHAT IT READS IS OF BULK AT MOST 1048576: true; the input reads as it did. -/
def partParseUptoRow : OpenClaim := { program := "ytnkkcknogkgdkaagreatdoor", sum := "551987eeff48888a17bfe72d25492103fcaa38005f99583c61425db4f327f562", func := "fretsaw/fretsawlaw22.PartParse", spec := "partParse", inPlace := ["internal/bytealg.IndexByteString", "math.sqrt"], unfollowed := true, recurses := true, named := ["strconv.ErrSyntax", "strconv.ErrRange", "internal/strconv.uint64pow10", "math/bits.deBruijn32tab", "math/bits.deBruijn64tab"], apart := false, laid := [("math/bits.deBruijn32tab", laid_math_bits_deBruijn32tab), ("math/bits.deBruijn64tab", laid_math_bits_deBruijn64tab), ("internal/strconv.uint64pow10", laid_internal_strconv_uint64pow10), ("strconv.ErrRange", laid_strconv_ErrRange), ("strconv.ErrSyntax", laid_strconv_ErrSyntax)], narrowed := true }
def PartParseUptoSaid : Prop := partParseUptoRow.holds Tryz.pinned (OpenSpec.upto partParseSpec)

/-- 'fretsawlaw22.PartMake', WHERE WHAT IT READS IS OF BULK AT MOST 1048576: true; the input reads as it did. -/
def partMakeUptoRow : OpenClaim := { program := "ytnkkcknogkgdkaagreatdoor", sum := "551987eeff48888a17bfe72d25492103fcaa38005f99583c61425db4f327f562", func := "fretsaw/fretsawlaw22.PartMake", spec := "partMake", inPlace := ["internal/bytealg.IndexByteString", "math.sqrt"], unfollowed := true, recurses := true, named := ["strconv.ErrSyntax", "strconv.ErrRange", "internal/strconv.uint64pow10", "math/bits.deBruijn32tab", "math/bits.deBruijn64tab"], apart := false, laid := [("math/bits.deBruijn32tab", laid_math_bits_deBruijn32tab), ("math/bits.deBruijn64tab", laid_math_bits_deBruijn64tab), ("internal/strconv.uint64pow10", laid_internal_strconv_uint64pow10), ("strconv.ErrRange", laid_strconv_ErrRange), ("strconv.ErrSyntax", laid_strconv_ErrSyntax)], narrowed := true }
def PartMakeUptoSaid : Prop := partMakeUptoRow.holds Tryz.pinned (OpenSpec.upto partMakeSpec)

/-- 'fretsawlaw22.PartRight', WHERE WHAT IT READS IS OF BULK AT MOST 1048576: true; the input reads as it did. -/
def partRightUptoRow : OpenClaim := { program := "ytnkkcknogkgdkaagreatdoor", sum := "551987eeff48888a17bfe72d25492103fcaa38005f99583c61425db4f327f562", func := "fretsaw/fretsawlaw22.PartRight", spec := "partRight", inPlace := ["internal/bytealg.IndexByteString", "math.sqrt"], unfollowed := true, recurses := true, named := ["strconv.ErrSyntax", "strconv.ErrRange", "internal/strconv.uint64pow10", "math/bits.deBruijn32tab", "math/bits.deBruijn64tab"], apart := false, laid := [("math/bits.deBruijn32tab", laid_math_bits_deBruijn32tab), ("math/bits.deBruijn64tab", laid_math_bits_deBruijn64tab), ("internal/strconv.uint64pow10", laid_internal_strconv_uint64pow10), ("strconv.ErrRange", laid_strconv_ErrRange), ("strconv.ErrSyntax", laid_strconv_ErrSyntax)], narrowed := true }
def PartRightUptoSaid : Prop := partRightUptoRow.holds Tryz.pinned (OpenSpec.upto partRightSpec)

/-- 'fretsawlaw22.PartJoined', WHERE WHAT IT READS IS OF BULK AT MOST 1048576: true; the input reads as it did. -/
def partJoinedUptoRow : OpenClaim := { program := "ytnkkcknogkgdkaagreatdoor", sum := "551987eeff48888a17bfe72d25492103fcaa38005f99583c61425db4f327f562", func := "fretsaw/fretsawlaw22.PartJoined", spec := "partJoined", inPlace := ["internal/bytealg.IndexByteString", "math.sqrt"], unfollowed := true, recurses := true, named := ["strconv.ErrSyntax", "strconv.ErrRange", "internal/strconv.uint64pow10", "math/bits.deBruijn32tab", "math/bits.deBruijn64tab"], apart := false, laid := [("math/bits.deBruijn32tab", laid_math_bits_deBruijn32tab), ("math/bits.deBruijn64tab", laid_math_bits_deBruijn64tab), ("internal/strconv.uint64pow10", laid_internal_strconv_uint64pow10), ("strconv.ErrRange", laid_strconv_ErrRange), ("strconv.ErrSyntax", laid_strconv_ErrSyntax)], narrowed := true }
def PartJoinedUptoSaid : Prop := partJoinedUptoRow.holds Tryz.pinned (OpenSpec.upto partJoinedSpec)

/-- 'fretsawlaw22.PartFirst', WHERE WHAT IT READS IS OF BULK AT MOST 1048576: true; the input reads as it did. -/
def partFirstUptoRow : OpenClaim := { program := "ytnkkcknogkgdkaagreatdoor", sum := "551987eeff48888a17bfe72d25492103fcaa38005f99583c61425db4f327f562", func := "fretsaw/fretsawlaw22.PartFirst", spec := "partFirst", inPlace := ["internal/bytealg.IndexByteString", "math.sqrt"], unfollowed := true, recurses := true, named := ["strconv.ErrSyntax", "strconv.ErrRange", "internal/strconv.uint64pow10", "math/bits.deBruijn32tab", "math/bits.deBruijn64tab"], apart := false, laid := [("math/bits.deBruijn32tab", laid_math_bits_deBruijn32tab), ("math/bits.deBruijn64tab", laid_math_bits_deBruijn64tab), ("internal/strconv.uint64pow10", laid_internal_strconv_uint64pow10), ("strconv.ErrRange", laid_strconv_ErrRange), ("strconv.ErrSyntax", laid_strconv_ErrSyntax)], narrowed := true }
def PartFirstUptoSaid : Prop := partFirstUptoRow.holds Tryz.pinned (OpenSpec.upto partFirstSpec)

/-- 'fretsawlaw22.PartAll', WHERE WHAT IT READS IS OF BULK AT MOST 1048576: true; the input reads as it did. -/
def partAllUptoRow : OpenClaim := { program := "ytnkkcknogkgdkaagreatdoor", sum := "551987eeff48888a17bfe72d25492103fcaa38005f99583c61425db4f327f562", func := "fretsaw/fretsawlaw22.PartAll", spec := "partAll", inPlace := ["internal/bytealg.IndexByteString", "math.sqrt"], unfollowed := true, recurses := true, named := ["strconv.ErrSyntax", "strconv.ErrRange", "internal/strconv.uint64pow10", "math/bits.deBruijn32tab", "math/bits.deBruijn64tab"], apart := false, laid := [("math/bits.deBruijn32tab", laid_math_bits_deBruijn32tab), ("math/bits.deBruijn64tab", laid_math_bits_deBruijn64tab), ("internal/strconv.uint64pow10", laid_internal_strconv_uint64pow10), ("strconv.ErrRange", laid_strconv_ErrRange), ("strconv.ErrSyntax", laid_strconv_ErrSyntax)], narrowed := true }
def PartAllUptoSaid : Prop := partAllUptoRow.holds Tryz.pinned (OpenSpec.upto partAllSpec)

/-- 'fretsawlaw22.PartPrint', WHERE WHAT IT READS IS OF BULK AT MOST 1048576: true; the input reads as it did. -/
def partPrintUptoRow : OpenClaim := { program := "ytnkkcknogkgdkaagreatdoor", sum := "551987eeff48888a17bfe72d25492103fcaa38005f99583c61425db4f327f562", func := "fretsaw/fretsawlaw22.PartPrint", spec := "partPrint", inPlace := ["internal/bytealg.IndexByteString", "math.sqrt", "internal/abi.NoEscape", "internal/bytealg.MakeNoZero"], unfollowed := true, recurses := true, named := ["strconv.ErrSyntax", "strconv.ErrRange", "internal/strconv.uint64pow10", "math/bits.deBruijn32tab", "math/bits.deBruijn64tab"], apart := false, laid := [("math/bits.deBruijn32tab", laid_math_bits_deBruijn32tab), ("math/bits.deBruijn64tab", laid_math_bits_deBruijn64tab), ("internal/strconv.uint64pow10", laid_internal_strconv_uint64pow10), ("strconv.ErrRange", laid_strconv_ErrRange), ("strconv.ErrSyntax", laid_strconv_ErrSyntax)], narrowed := true }
def PartPrintUptoSaid : Prop := partPrintUptoRow.holds Tryz.pinned (OpenSpec.upto partPrintSpec)

/-- 'fretsawlaw22.PartAgain', WHERE WHAT IT READS IS OF BULK AT MOST 1048576: true; the input reads as it did. -/
def partAgainUptoRow : OpenClaim := { program := "ytnkkcknogkgdkaagreatdoor", sum := "551987eeff48888a17bfe72d25492103fcaa38005f99583c61425db4f327f562", func := "fretsaw/fretsawlaw22.PartAgain", spec := "partAgain", inPlace := ["internal/bytealg.IndexByteString", "math.sqrt", "internal/abi.NoEscape", "internal/bytealg.MakeNoZero"], unfollowed := true, recurses := true, named := ["strconv.ErrSyntax", "strconv.ErrRange", "internal/strconv.uint64pow10", "math/bits.deBruijn32tab", "math/bits.deBruijn64tab"], apart := false, laid := [("math/bits.deBruijn32tab", laid_math_bits_deBruijn32tab), ("math/bits.deBruijn64tab", laid_math_bits_deBruijn64tab), ("internal/strconv.uint64pow10", laid_internal_strconv_uint64pow10), ("strconv.ErrRange", laid_strconv_ErrRange), ("strconv.ErrSyntax", laid_strconv_ErrSyntax)], narrowed := true }
def PartAgainUptoSaid : Prop := partAgainUptoRow.holds Tryz.pinned (OpenSpec.upto partAgainSpec)

/-- 'fretsawlaw22.PartStraight', WHERE WHAT IT READS IS OF BULK AT MOST 1048576: true; the input reads as it did. -/
def partStraightUptoRow : OpenClaim := { program := "ytnkkcknogkgdkaagreatdoor", sum := "551987eeff48888a17bfe72d25492103fcaa38005f99583c61425db4f327f562", func := "fretsaw/fretsawlaw22.PartStraight", spec := "partStraight", inPlace := ["internal/bytealg.IndexByteString", "math.sqrt", "internal/abi.NoEscape", "internal/bytealg.MakeNoZero"], unfollowed := true, recurses := true, named := ["strconv.ErrSyntax", "strconv.ErrRange", "internal/strconv.uint64pow10", "math/bits.deBruijn32tab", "math/bits.deBruijn64tab"], apart := false, laid := [("math/bits.deBruijn32tab", laid_math_bits_deBruijn32tab), ("math/bits.deBruijn64tab", laid_math_bits_deBruijn64tab), ("internal/strconv.uint64pow10", laid_internal_strconv_uint64pow10), ("strconv.ErrRange", laid_strconv_ErrRange), ("strconv.ErrSyntax", laid_strconv_ErrSyntax)], narrowed := true }
def PartStraightUptoSaid : Prop := partStraightUptoRow.holds Tryz.pinned (OpenSpec.upto partStraightSpec)

end Rows
end Go.Proofs.YtnkkcknogkgdkaaGreatDoor
