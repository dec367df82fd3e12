/-
  NARROWER THAN 'FOR EVERY INPUT', by the rows' own cells (each row's printed sentence says how): FnExactStateAt: laid · FnExactTold: laid · FnExactHeadingText: laid · FnExactSkyText: laid · FnTimes: laid · FnExactReadStamp: laid · FnExactParts: laid · FnExactWorstSight: laid · FnExactReadHeading: laid · FnExactTafText: laid · FnHeadings: laid.
  DERIVED. THE GIVEN ROWS OF THIS SEAT. 11 by the template 'for every input the law returns true; each argument reads behind the call as it read before'; 0 by the template 'total and deterministic' (their statements: YtmcmkdiefpepnaaDoorTotals.lean).
  GIVEN WITH THE SEED: the statements are not yours to turn. If you find one false, say at which input.
  Laid BY PROGRAM, IN A SANDBOX (cutbox-rows.mjs): the forced cells as the released guide's own fill.sh prints them over the translation f53fef2a2b5d315f… (all of the seat's roots in one cut). By AI agents, Wed Nov 11 2026. No macro, syntax, notation, axiom, sorry.
-/
import Derived.Test.YtmcmkdiefpepnaaDoorChecked
import GoSem.PinnedTables
import GoSem.Claim
import GoSem.ClaimJoined
import GoSem.ClaimMapViews
import Derived.JoinedTies
import Derived.KernelRfl
namespace Go.Proofs.YtmcmkdiefpepnaaDoor
/- THE CELL 'sum', in the pinned program and in every row, IS THE sha256 OF THE DUMP (.gsa) THAT YtmcmkdiefpepnaaDoorProg.lean LOADS. Nothing in Lean hashes anything: it is a label: what it is worth is what the hold of that sum in a sandbox is worth. -/
noncomputable def Tryd.pinned : Pinned := { name := "ytmcmkdiefpepnaadoor", sum := "f53fef2a2b5d315ffc1b9022c3a1aed9a4d6179806f7d2e765796f85e2286146", checked := Tryd.checked }
namespace Rows
def none {H : Type} : Left H := { results := [], args := [] }

/- WHAT THE LISTED PACKAGE-LEVEL VARIABLES READ AS WHEN THE CALL BEGINS. Each datum BY PROGRAM (the guide's laid-datum.mjs) off the statement by which the dump's own 'gosem.cut.vars' lays the variable. In a bare row this is a premise. The card (YtmcmkdiefpepnaaDoorCards.lean) ties it to the program's text. -/
def laid_loop_example_g00051_impl_weathers {H : Type} : DataW H := .slice [.lit (.string [78, 83, 87]), .lit (.string [82, 65]), .lit (.string [45, 82, 65]), .lit (.string [43, 82, 65]), .lit (.string [83, 78]), .lit (.string [45, 83, 78]), .lit (.string [43, 83, 78]), .lit (.string [84, 83, 82, 65]), .lit (.string [70, 71]), .lit (.string [66, 82])] []
def laid_loop_example_g00051_impl_covers {H : Type} : DataW H := .slice [.lit (.string [70, 69, 87]), .lit (.string [83, 67, 84]), .lit (.string [66, 75, 78]), .lit (.string [79, 86, 67])] []
def laid_math_bits_deBruijn32tab {H : Type} : DataW H := .agg [.lit (.int .u8 0), .lit (.int .u8 1), .lit (.int .u8 28), .lit (.int .u8 2), .lit (.int .u8 29), .lit (.int .u8 14), .lit (.int .u8 24), .lit (.int .u8 3), .lit (.int .u8 30), .lit (.int .u8 22), .lit (.int .u8 20), .lit (.int .u8 15), .lit (.int .u8 25), .lit (.int .u8 17), .lit (.int .u8 4), .lit (.int .u8 8), .lit (.int .u8 31), .lit (.int .u8 27), .lit (.int .u8 13), .lit (.int .u8 23), .lit (.int .u8 21), .lit (.int .u8 19), .lit (.int .u8 16), .lit (.int .u8 7), .lit (.int .u8 26), .lit (.int .u8 12), .lit (.int .u8 18), .lit (.int .u8 6), .lit (.int .u8 11), .lit (.int .u8 5), .lit (.int .u8 10), .lit (.int .u8 9)]
def laid_math_bits_deBruijn64tab {H : Type} : DataW H := .agg [.lit (.int .u8 0), .lit (.int .u8 1), .lit (.int .u8 56), .lit (.int .u8 2), .lit (.int .u8 57), .lit (.int .u8 49), .lit (.int .u8 28), .lit (.int .u8 3), .lit (.int .u8 61), .lit (.int .u8 58), .lit (.int .u8 42), .lit (.int .u8 50), .lit (.int .u8 38), .lit (.int .u8 29), .lit (.int .u8 17), .lit (.int .u8 4), .lit (.int .u8 62), .lit (.int .u8 47), .lit (.int .u8 59), .lit (.int .u8 36), .lit (.int .u8 45), .lit (.int .u8 43), .lit (.int .u8 51), .lit (.int .u8 22), .lit (.int .u8 53), .lit (.int .u8 39), .lit (.int .u8 33), .lit (.int .u8 30), .lit (.int .u8 24), .lit (.int .u8 18), .lit (.int .u8 12), .lit (.int .u8 5), .lit (.int .u8 63), .lit (.int .u8 55), .lit (.int .u8 48), .lit (.int .u8 27), .lit (.int .u8 60), .lit (.int .u8 41), .lit (.int .u8 37), .lit (.int .u8 16), .lit (.int .u8 46), .lit (.int .u8 35), .lit (.int .u8 44), .lit (.int .u8 21), .lit (.int .u8 52), .lit (.int .u8 32), .lit (.int .u8 23), .lit (.int .u8 11), .lit (.int .u8 54), .lit (.int .u8 26), .lit (.int .u8 40), .lit (.int .u8 15), .lit (.int .u8 34), .lit (.int .u8 20), .lit (.int .u8 31), .lit (.int .u8 10), .lit (.int .u8 25), .lit (.int .u8 14), .lit (.int .u8 19), .lit (.int .u8 9), .lit (.int .u8 13), .lit (.int .u8 8), .lit (.int .u8 7), .lit (.int .u8 6)]
def laid_internal_strconv_uint64pow10 {H : Type} : DataW H := .agg [.lit (.int .u64 1), .lit (.int .u64 10), .lit (.int .u64 100), .lit (.int .u64 1000), .lit (.int .u64 10000), .lit (.int .u64 100000), .lit (.int .u64 1000000), .lit (.int .u64 10000000), .lit (.int .u64 100000000), .lit (.int .u64 1000000000), .lit (.int .u64 10000000000), .lit (.int .u64 100000000000), .lit (.int .u64 1000000000000), .lit (.int .u64 10000000000000), .lit (.int .u64 100000000000000), .lit (.int .u64 1000000000000000), .lit (.int .u64 10000000000000000), .lit (.int .u64 100000000000000000), .lit (.int .u64 1000000000000000000), .lit (.int .u64 10000000000000000000)]
def laid_strconv_ErrRange {H : Type} : DataW H := .iface "*errors.errorString" (.ptr (.agg [.lit (.string [118, 97, 108, 117, 101, 32, 111, 117, 116, 32, 111, 102, 32, 114, 97, 110, 103, 101])]))
def laid_strconv_ErrSyntax {H : Type} : DataW H := .iface "*errors.errorString" (.ptr (.agg [.lit (.string [105, 110, 118, 97, 108, 105, 100, 32, 115, 121, 110, 116, 97, 120])]))
def laid_unicode_utf8_acceptRanges {H : Type} : DataW H := .agg [.agg [.lit (.int .u8 128), .lit (.int .u8 191)], .agg [.lit (.int .u8 160), .lit (.int .u8 191)], .agg [.lit (.int .u8 128), .lit (.int .u8 159)], .agg [.lit (.int .u8 144), .lit (.int .u8 191)], .agg [.lit (.int .u8 128), .lit (.int .u8 143)], .agg [.lit (.int .u8 0), .lit (.int .u8 0)], .agg [.lit (.int .u8 0), .lit (.int .u8 0)], .agg [.lit (.int .u8 0), .lit (.int .u8 0)], .agg [.lit (.int .u8 0), .lit (.int .u8 0)], .agg [.lit (.int .u8 0), .lit (.int .u8 0)], .agg [.lit (.int .u8 0), .lit (.int .u8 0)], .agg [.lit (.int .u8 0), .lit (.int .u8 0)], .agg [.lit (.int .u8 0), .lit (.int .u8 0)], .agg [.lit (.int .u8 0), .lit (.int .u8 0)], .agg [.lit (.int .u8 0), .lit (.int .u8 0)], .agg [.lit (.int .u8 0), .lit (.int .u8 0)]]
/-- One of Go's own tables, pinned by name: the form's constant. -/
def laid_unicode_utf8_first : DataW Unit := Go.Pinned.utf8First
def laid_loop_example_g00051_impl_changeWords {H : Type} : DataW H := .agg [.lit (.string []), .lit (.string []), .lit (.string [66, 69, 67, 77, 71]), .lit (.string [84, 69, 77, 80, 79]), .lit (.string [80, 82, 79, 66, 51, 48])]

/-- 'laws.FnExactStateAt': WHATEVER THE INPUT: true; the input reads as it did. -/
def fnExactStateAtSpec : ChangeSpec := { name := "fnExactStateAt", vars := ["loop.example/g00051/impl.weathers", "loop.example/g00051/impl.covers"], fn := fun _ => fun
  | [d1, d2, g1, g2] => { results := [.lit (.bool true)], args := [d1, d2], vars := [g1, g2] }
  | _ => none }
def fnExactStateAtRow : OpenClaim := { program := "ytmcmkdiefpepnaadoor", sum := "f53fef2a2b5d315ffc1b9022c3a1aed9a4d6179806f7d2e765796f85e2286146", func := "loop.example/g00051/laws.FnExactStateAt", spec := "fnExactStateAt", named := ["loop.example/g00051/impl.weathers", "loop.example/g00051/impl.covers"], apart := false, laid := [("loop.example/g00051/impl.weathers", laid_loop_example_g00051_impl_weathers), ("loop.example/g00051/impl.covers", laid_loop_example_g00051_impl_covers)] }
def FnExactStateAtSaid : Prop := fnExactStateAtRow.holds Tryd.pinned (OpenSpec.ofChange fnExactStateAtSpec)

/-- ITS FALSE NEIGHBOUR: 'it returns false'. Refute it at one input. -/
def fnExactStateAtWrong : ChangeSpec := { name := "fnExactStateAt", vars := ["loop.example/g00051/impl.weathers", "loop.example/g00051/impl.covers"], fn := fun _ => fun
  | [d1, d2, g1, g2] => { results := [.lit (.bool false)], args := [d1, d2], vars := [g1, g2] }
  | _ => none }
def FnExactStateAtWrongFalsely : Prop := fnExactStateAtRow.holds Tryd.pinned (OpenSpec.ofChange fnExactStateAtWrong)

/-- 'laws.FnExactTold': WHATEVER THE INPUT: true; the input reads as it did. -/
def fnExactToldSpec : ChangeSpec := { name := "fnExactTold", fn := fun _ => fun
  | [d1, d2] => { results := [.lit (.bool true)], args := [d1, d2] }
  | _ => none }
def fnExactToldRow : OpenClaim := { program := "ytmcmkdiefpepnaadoor", sum := "f53fef2a2b5d315ffc1b9022c3a1aed9a4d6179806f7d2e765796f85e2286146", func := "loop.example/g00051/laws.FnExactTold", spec := "fnExactTold", inPlace := ["math.Float64bits", "math.Float64frombits", "math.RoundToEven", "internal/abi.NoEscape", "internal/bytealg.MakeNoZero"], named := ["internal/strconv.uint64pow10", "math/bits.deBruijn32tab", "math/bits.deBruijn64tab"], apart := false, laid := [("math/bits.deBruijn32tab", laid_math_bits_deBruijn32tab), ("math/bits.deBruijn64tab", laid_math_bits_deBruijn64tab), ("internal/strconv.uint64pow10", laid_internal_strconv_uint64pow10)] }
def FnExactToldSaid : Prop := fnExactToldRow.holds Tryd.pinned (OpenSpec.ofChange fnExactToldSpec)

/-- ITS FALSE NEIGHBOUR: 'it returns false'. Refute it at one input. -/
def fnExactToldWrong : ChangeSpec := { name := "fnExactTold", fn := fun _ => fun
  | [d1, d2] => { results := [.lit (.bool false)], args := [d1, d2] }
  | _ => none }
def FnExactToldWrongFalsely : Prop := fnExactToldRow.holds Tryd.pinned (OpenSpec.ofChange fnExactToldWrong)

/-- 'laws.FnExactHeadingText': WHATEVER THE INPUT: true; the input reads as it did. -/
def fnExactHeadingTextSpec : ChangeSpec := { name := "fnExactHeadingText", fn := fun _ => fun
  | [d] => { results := [.lit (.bool true)], args := [d] }
  | _ => none }
def fnExactHeadingTextRow : OpenClaim := { program := "ytmcmkdiefpepnaadoor", sum := "f53fef2a2b5d315ffc1b9022c3a1aed9a4d6179806f7d2e765796f85e2286146", func := "loop.example/g00051/laws.FnExactHeadingText", spec := "fnExactHeadingText", inPlace := ["internal/abi.NoEscape", "internal/bytealg.MakeNoZero"], named := ["internal/strconv.uint64pow10", "math/bits.deBruijn32tab", "math/bits.deBruijn64tab"], apart := false, laid := [("math/bits.deBruijn32tab", laid_math_bits_deBruijn32tab), ("math/bits.deBruijn64tab", laid_math_bits_deBruijn64tab), ("internal/strconv.uint64pow10", laid_internal_strconv_uint64pow10)] }
def FnExactHeadingTextSaid : Prop := fnExactHeadingTextRow.holds Tryd.pinned (OpenSpec.ofChange fnExactHeadingTextSpec)

/-- ITS FALSE NEIGHBOUR: 'it returns false'. Refute it at one input. -/
def fnExactHeadingTextWrong : ChangeSpec := { name := "fnExactHeadingText", fn := fun _ => fun
  | [d] => { results := [.lit (.bool false)], args := [d] }
  | _ => none }
def FnExactHeadingTextWrongFalsely : Prop := fnExactHeadingTextRow.holds Tryd.pinned (OpenSpec.ofChange fnExactHeadingTextWrong)

/-- 'laws.FnExactSkyText': WHATEVER THE INPUT: true; the input reads as it did. -/
def fnExactSkyTextSpec : ChangeSpec := { name := "fnExactSkyText", vars := ["loop.example/g00051/impl.weathers", "loop.example/g00051/impl.covers"], fn := fun _ => fun
  | [d, g1, g2] => { results := [.lit (.bool true)], args := [d], vars := [g1, g2] }
  | _ => none }
def fnExactSkyTextRow : OpenClaim := { program := "ytmcmkdiefpepnaadoor", sum := "f53fef2a2b5d315ffc1b9022c3a1aed9a4d6179806f7d2e765796f85e2286146", func := "loop.example/g00051/laws.FnExactSkyText", spec := "fnExactSkyText", inPlace := ["internal/abi.NoEscape", "internal/bytealg.MakeNoZero"], named := ["loop.example/g00051/impl.weathers", "loop.example/g00051/impl.covers", "internal/strconv.uint64pow10", "math/bits.deBruijn32tab", "math/bits.deBruijn64tab"], apart := false, laid := [("math/bits.deBruijn32tab", laid_math_bits_deBruijn32tab), ("math/bits.deBruijn64tab", laid_math_bits_deBruijn64tab), ("internal/strconv.uint64pow10", laid_internal_strconv_uint64pow10), ("loop.example/g00051/impl.weathers", laid_loop_example_g00051_impl_weathers), ("loop.example/g00051/impl.covers", laid_loop_example_g00051_impl_covers)] }
def FnExactSkyTextSaid : Prop := fnExactSkyTextRow.holds Tryd.pinned (OpenSpec.ofChange fnExactSkyTextSpec)

/-- ITS FALSE NEIGHBOUR: 'it returns false'. Refute it at one input. -/
def fnExactSkyTextWrong : ChangeSpec := { name := "fnExactSkyText", vars := ["loop.example/g00051/impl.weathers", "loop.example/g00051/impl.covers"], fn := fun _ => fun
  | [d, g1, g2] => { results := [.lit (.bool false)], args := [d], vars := [g1, g2] }
  | _ => none }
def FnExactSkyTextWrongFalsely : Prop := fnExactSkyTextRow.holds Tryd.pinned (OpenSpec.ofChange fnExactSkyTextWrong)

/-- 'laws.FnTimes': WHATEVER THE INPUT: true; the input reads as it did. -/
def fnTimesSpec : ChangeSpec := { name := "fnTimes", fn := fun _ => fun
  | [d1, d2] => { results := [.lit (.bool true)], args := [d1, d2] }
  | _ => none }
def fnTimesRow : OpenClaim := { program := "ytmcmkdiefpepnaadoor", sum := "f53fef2a2b5d315ffc1b9022c3a1aed9a4d6179806f7d2e765796f85e2286146", func := "loop.example/g00051/laws.FnTimes", spec := "fnTimes", inPlace := ["internal/abi.NoEscape", "internal/bytealg.MakeNoZero"], unfollowed := true, recurses := true, named := ["internal/strconv.uint64pow10", "math/bits.deBruijn32tab", "math/bits.deBruijn64tab", "strconv.ErrSyntax", "strconv.ErrRange"], apart := false, laid := [("math/bits.deBruijn32tab", laid_math_bits_deBruijn32tab), ("math/bits.deBruijn64tab", laid_math_bits_deBruijn64tab), ("internal/strconv.uint64pow10", laid_internal_strconv_uint64pow10), ("strconv.ErrRange", laid_strconv_ErrRange), ("strconv.ErrSyntax", laid_strconv_ErrSyntax)] }
def FnTimesSaid : Prop := fnTimesRow.holds Tryd.pinned (OpenSpec.ofChange fnTimesSpec)

/-- ITS FALSE NEIGHBOUR: 'it returns false'. Refute it at one input. -/
def fnTimesWrong : ChangeSpec := { name := "fnTimes", fn := fun _ => fun
  | [d1, d2] => { results := [.lit (.bool false)], args := [d1, d2] }
  | _ => none }
def FnTimesWrongFalsely : Prop := fnTimesRow.holds Tryd.pinned (OpenSpec.ofChange fnTimesWrong)

/-- 'laws.FnExactReadStamp': WHATEVER THE INPUT: true; the input reads as it did. -/
def fnExactReadStampSpec : ChangeSpec := { name := "fnExactReadStamp", fn := fun _ => fun
  | [d] => { results := [.lit (.bool true)], args := [d] }
  | _ => none }
def fnExactReadStampRow : OpenClaim := { program := "ytmcmkdiefpepnaadoor", sum := "f53fef2a2b5d315ffc1b9022c3a1aed9a4d6179806f7d2e765796f85e2286146", func := "loop.example/g00051/laws.FnExactReadStamp", spec := "fnExactReadStamp", inPlace := ["internal/abi.NoEscape", "internal/bytealg.MakeNoZero"], unfollowed := true, recurses := true, named := ["strconv.ErrSyntax", "strconv.ErrRange", "internal/strconv.uint64pow10", "math/bits.deBruijn32tab", "math/bits.deBruijn64tab"], apart := false, laid := [("math/bits.deBruijn32tab", laid_math_bits_deBruijn32tab), ("math/bits.deBruijn64tab", laid_math_bits_deBruijn64tab), ("internal/strconv.uint64pow10", laid_internal_strconv_uint64pow10), ("strconv.ErrRange", laid_strconv_ErrRange), ("strconv.ErrSyntax", laid_strconv_ErrSyntax)] }
def FnExactReadStampSaid : Prop := fnExactReadStampRow.holds Tryd.pinned (OpenSpec.ofChange fnExactReadStampSpec)

/-- ITS FALSE NEIGHBOUR: 'it returns false'. Refute it at one input. -/
def fnExactReadStampWrong : ChangeSpec := { name := "fnExactReadStamp", fn := fun _ => fun
  | [d] => { results := [.lit (.bool false)], args := [d] }
  | _ => none }
def FnExactReadStampWrongFalsely : Prop := fnExactReadStampRow.holds Tryd.pinned (OpenSpec.ofChange fnExactReadStampWrong)

/-- 'laws.FnExactParts': WHATEVER THE INPUT: true; the input reads as it did. -/
def fnExactPartsSpec : ChangeSpec := { name := "fnExactParts", vars := ["loop.example/g00051/impl.weathers", "loop.example/g00051/impl.covers"], fn := fun _ => fun
  | [d, g1, g2] => { results := [.lit (.bool true)], args := [d], vars := [g1, g2] }
  | _ => none }
def fnExactPartsRow : OpenClaim := { program := "ytmcmkdiefpepnaadoor", sum := "f53fef2a2b5d315ffc1b9022c3a1aed9a4d6179806f7d2e765796f85e2286146", func := "loop.example/g00051/laws.FnExactParts", spec := "fnExactParts", recurses := true, named := ["loop.example/g00051/impl.weathers", "loop.example/g00051/impl.covers"], apart := false, laid := [("loop.example/g00051/impl.weathers", laid_loop_example_g00051_impl_weathers), ("loop.example/g00051/impl.covers", laid_loop_example_g00051_impl_covers)] }
def FnExactPartsSaid : Prop := fnExactPartsRow.holds Tryd.pinned (OpenSpec.ofChange fnExactPartsSpec)

/-- ITS FALSE NEIGHBOUR: 'it returns false'. Refute it at one input. -/
def fnExactPartsWrong : ChangeSpec := { name := "fnExactParts", vars := ["loop.example/g00051/impl.weathers", "loop.example/g00051/impl.covers"], fn := fun _ => fun
  | [d, g1, g2] => { results := [.lit (.bool false)], args := [d], vars := [g1, g2] }
  | _ => none }
def FnExactPartsWrongFalsely : Prop := fnExactPartsRow.holds Tryd.pinned (OpenSpec.ofChange fnExactPartsWrong)

/-- 'laws.FnExactWorstSight': WHATEVER THE INPUT: true; the input reads as it did. -/
def fnExactWorstSightSpec : ChangeSpec := { name := "fnExactWorstSight", vars := ["loop.example/g00051/impl.weathers", "loop.example/g00051/impl.covers"], fn := fun _ => fun
  | [d, g1, g2] => { results := [.lit (.bool true)], args := [d], vars := [g1, g2] }
  | _ => none }
def fnExactWorstSightRow : OpenClaim := { program := "ytmcmkdiefpepnaadoor", sum := "f53fef2a2b5d315ffc1b9022c3a1aed9a4d6179806f7d2e765796f85e2286146", func := "loop.example/g00051/laws.FnExactWorstSight", spec := "fnExactWorstSight", recurses := true, named := ["loop.example/g00051/impl.weathers", "loop.example/g00051/impl.covers"], apart := false, laid := [("loop.example/g00051/impl.weathers", laid_loop_example_g00051_impl_weathers), ("loop.example/g00051/impl.covers", laid_loop_example_g00051_impl_covers)] }
def FnExactWorstSightSaid : Prop := fnExactWorstSightRow.holds Tryd.pinned (OpenSpec.ofChange fnExactWorstSightSpec)

/-- ITS FALSE NEIGHBOUR: 'it returns false'. Refute it at one input. -/
def fnExactWorstSightWrong : ChangeSpec := { name := "fnExactWorstSight", vars := ["loop.example/g00051/impl.weathers", "loop.example/g00051/impl.covers"], fn := fun _ => fun
  | [d, g1, g2] => { results := [.lit (.bool false)], args := [d], vars := [g1, g2] }
  | _ => none }
def FnExactWorstSightWrongFalsely : Prop := fnExactWorstSightRow.holds Tryd.pinned (OpenSpec.ofChange fnExactWorstSightWrong)

/-- 'laws.FnExactReadHeading': WHATEVER THE INPUT: true; the input reads as it did. -/
def fnExactReadHeadingSpec : ChangeSpec := { name := "fnExactReadHeading", fn := fun _ => fun
  | [d] => { results := [.lit (.bool true)], args := [d] }
  | _ => none }
def fnExactReadHeadingRow : OpenClaim := { program := "ytmcmkdiefpepnaadoor", sum := "f53fef2a2b5d315ffc1b9022c3a1aed9a4d6179806f7d2e765796f85e2286146", func := "loop.example/g00051/laws.FnExactReadHeading", spec := "fnExactReadHeading", inPlace := ["internal/bytealg.CountString", "internal/bytealg.IndexByteString", "internal/bytealg.IndexString"], named := ["unicode/utf8.first", "unicode/utf8.acceptRanges", "internal/bytealg.MaxLen", "strconv.ErrSyntax", "strconv.ErrRange", "internal/strconv.uint64pow10", "math/bits.deBruijn32tab", "math/bits.deBruijn64tab"], apart := false, laid := [("math/bits.deBruijn32tab", laid_math_bits_deBruijn32tab), ("math/bits.deBruijn64tab", laid_math_bits_deBruijn64tab), ("internal/strconv.uint64pow10", laid_internal_strconv_uint64pow10), ("unicode/utf8.acceptRanges", laid_unicode_utf8_acceptRanges), ("strconv.ErrRange", laid_strconv_ErrRange), ("strconv.ErrSyntax", laid_strconv_ErrSyntax), ("unicode/utf8.first", laid_unicode_utf8_first)] }
def FnExactReadHeadingSaid : Prop := fnExactReadHeadingRow.holds Tryd.pinned (OpenSpec.ofChange fnExactReadHeadingSpec)

/-- ITS FALSE NEIGHBOUR: 'it returns false'. Refute it at one input. -/
def fnExactReadHeadingWrong : ChangeSpec := { name := "fnExactReadHeading", fn := fun _ => fun
  | [d] => { results := [.lit (.bool false)], args := [d] }
  | _ => none }
def FnExactReadHeadingWrongFalsely : Prop := fnExactReadHeadingRow.holds Tryd.pinned (OpenSpec.ofChange fnExactReadHeadingWrong)

/-- 'laws.FnExactTafText': WHATEVER THE INPUT: true; the input reads as it did. -/
def fnExactTafTextSpec : ChangeSpec := { name := "fnExactTafText", vars := ["loop.example/g00051/impl.changeWords", "loop.example/g00051/impl.weathers", "loop.example/g00051/impl.covers"], fn := fun _ => fun
  | [d, g1, g2, g3] => { results := [.lit (.bool true)], args := [d], vars := [g1, g2, g3] }
  | _ => none }
def fnExactTafTextRow : OpenClaim := { program := "ytmcmkdiefpepnaadoor", sum := "f53fef2a2b5d315ffc1b9022c3a1aed9a4d6179806f7d2e765796f85e2286146", func := "loop.example/g00051/laws.FnExactTafText", spec := "fnExactTafText", inPlace := ["internal/abi.NoEscape", "internal/bytealg.MakeNoZero"], named := ["loop.example/g00051/impl.changeWords", "loop.example/g00051/impl.weathers", "loop.example/g00051/impl.covers", "internal/strconv.uint64pow10", "math/bits.deBruijn32tab", "math/bits.deBruijn64tab"], apart := false, laid := [("math/bits.deBruijn32tab", laid_math_bits_deBruijn32tab), ("math/bits.deBruijn64tab", laid_math_bits_deBruijn64tab), ("internal/strconv.uint64pow10", laid_internal_strconv_uint64pow10), ("loop.example/g00051/impl.weathers", laid_loop_example_g00051_impl_weathers), ("loop.example/g00051/impl.covers", laid_loop_example_g00051_impl_covers), ("loop.example/g00051/impl.changeWords", laid_loop_example_g00051_impl_changeWords)] }
def FnExactTafTextSaid : Prop := fnExactTafTextRow.holds Tryd.pinned (OpenSpec.ofChange fnExactTafTextSpec)

/-- ITS FALSE NEIGHBOUR: 'it returns false'. Refute it at one input. -/
def fnExactTafTextWrong : ChangeSpec := { name := "fnExactTafText", vars := ["loop.example/g00051/impl.changeWords", "loop.example/g00051/impl.weathers", "loop.example/g00051/impl.covers"], fn := fun _ => fun
  | [d, g1, g2, g3] => { results := [.lit (.bool false)], args := [d], vars := [g1, g2, g3] }
  | _ => none }
def FnExactTafTextWrongFalsely : Prop := fnExactTafTextRow.holds Tryd.pinned (OpenSpec.ofChange fnExactTafTextWrong)

/-- 'laws.FnHeadings': WHATEVER THE INPUT: true; the input reads as it did. -/
def fnHeadingsSpec : ChangeSpec := { name := "fnHeadings", fn := fun _ => fun
  | [d1, d2] => { results := [.lit (.bool true)], args := [d1, d2] }
  | _ => none }
def fnHeadingsRow : OpenClaim := { program := "ytmcmkdiefpepnaadoor", sum := "f53fef2a2b5d315ffc1b9022c3a1aed9a4d6179806f7d2e765796f85e2286146", func := "loop.example/g00051/laws.FnHeadings", spec := "fnHeadings", inPlace := ["internal/abi.NoEscape", "internal/bytealg.MakeNoZero", "internal/bytealg.CountString", "internal/bytealg.IndexByteString", "internal/bytealg.IndexString"], named := ["internal/strconv.uint64pow10", "math/bits.deBruijn32tab", "math/bits.deBruijn64tab", "unicode/utf8.first", "unicode/utf8.acceptRanges", "internal/bytealg.MaxLen", "strconv.ErrSyntax", "strconv.ErrRange"], apart := false, laid := [("math/bits.deBruijn32tab", laid_math_bits_deBruijn32tab), ("math/bits.deBruijn64tab", laid_math_bits_deBruijn64tab), ("internal/strconv.uint64pow10", laid_internal_strconv_uint64pow10), ("unicode/utf8.acceptRanges", laid_unicode_utf8_acceptRanges), ("strconv.ErrRange", laid_strconv_ErrRange), ("strconv.ErrSyntax", laid_strconv_ErrSyntax), ("unicode/utf8.first", laid_unicode_utf8_first)] }
def FnHeadingsSaid : Prop := fnHeadingsRow.holds Tryd.pinned (OpenSpec.ofChange fnHeadingsSpec)

/-- ITS FALSE NEIGHBOUR: 'it returns false'. Refute it at one input. -/
def fnHeadingsWrong : ChangeSpec := { name := "fnHeadings", fn := fun _ => fun
  | [d1, d2] => { results := [.lit (.bool false)], args := [d1, d2] }
  | _ => none }
def FnHeadingsWrongFalsely : Prop := fnHeadingsRow.holds Tryd.pinned (OpenSpec.ofChange fnHeadingsWrong)

/- THE SECOND FORM. 'bulk': how many values and letters a reading holds, each counted each time it is reached (what is shared counts as often as it is met; a slice's spare places count too). A statement '..UptoSaid' is the law's where the arguments, and the package variables that the reading takes, are together of bulk at most 1048576: NARROWER than '..Said'. Prove '..Said' where nothing that the law and all that it calls make is longer than what came in: it says more and counts as full. Else prove '..UptoSaid'. A law counts once. -/
mutual
def uptoBulk {H : Type} : DataW H → Nat
  | .lit (.string bytes) => bytes.length + 1
  | .lit _ => 1
  | .nil => 1
  | .ptr d => uptoBulk d + 1
  | .slice elems spare => uptoBulkAll elems + uptoBulkAll spare + 1
  | .agg parts => uptoBulkAll parts + 1
  | .iface _ d => uptoBulk d + 1
  | .map entries => uptoBulkEntries entries + 1
  | .held _ => 1
def uptoBulkAll {H : Type} : List (DataW H) → Nat
  | [] => 0
  | d :: r => uptoBulk d + uptoBulkAll r
def uptoBulkEntries {H : Type} : List (Lit × DataW H) → Nat
  | [] => 0
  | x :: r => uptoBulkEntry x + uptoBulkEntries r
def uptoBulkEntry {H : Type} : Lit × DataW H → Nat
  | (.string bytes, d) => bytes.length + uptoBulk d + 1
  | (_, d) => uptoBulk d + 1
 end
def uptoSmall : (H : Type) → List (DataW H) → Bool := fun _ ds => decide (uptoBulkAll ds ≤ 1048576)
def OpenSpec.upto (s : _root_.Go.ChangeSpec) : _root_.Go.OpenSpec := { _root_.Go.OpenSpec.ofChange s with cond := some uptoSmall }

/-- 'laws.FnExactStateAt', WHERE WHAT IT READS IS OF BULK AT MOST 1048576: true; the input reads as it did. -/
def fnExactStateAtUptoRow : OpenClaim := { program := "ytmcmkdiefpepnaadoor", sum := "f53fef2a2b5d315ffc1b9022c3a1aed9a4d6179806f7d2e765796f85e2286146", func := "loop.example/g00051/laws.FnExactStateAt", spec := "fnExactStateAt", named := ["loop.example/g00051/impl.weathers", "loop.example/g00051/impl.covers"], apart := false, laid := [("loop.example/g00051/impl.weathers", laid_loop_example_g00051_impl_weathers), ("loop.example/g00051/impl.covers", laid_loop_example_g00051_impl_covers)], narrowed := true }
def FnExactStateAtUptoSaid : Prop := fnExactStateAtUptoRow.holds Tryd.pinned (OpenSpec.upto fnExactStateAtSpec)

/-- 'laws.FnExactTold', WHERE WHAT IT READS IS OF BULK AT MOST 1048576: true; the input reads as it did. -/
def fnExactToldUptoRow : OpenClaim := { program := "ytmcmkdiefpepnaadoor", sum := "f53fef2a2b5d315ffc1b9022c3a1aed9a4d6179806f7d2e765796f85e2286146", func := "loop.example/g00051/laws.FnExactTold", spec := "fnExactTold", inPlace := ["math.Float64bits", "math.Float64frombits", "math.RoundToEven", "internal/abi.NoEscape", "internal/bytealg.MakeNoZero"], named := ["internal/strconv.uint64pow10", "math/bits.deBruijn32tab", "math/bits.deBruijn64tab"], apart := false, laid := [("math/bits.deBruijn32tab", laid_math_bits_deBruijn32tab), ("math/bits.deBruijn64tab", laid_math_bits_deBruijn64tab), ("internal/strconv.uint64pow10", laid_internal_strconv_uint64pow10)], narrowed := true }
def FnExactToldUptoSaid : Prop := fnExactToldUptoRow.holds Tryd.pinned (OpenSpec.upto fnExactToldSpec)

/-- 'laws.FnExactHeadingText', WHERE WHAT IT READS IS OF BULK AT MOST 1048576: true; the input reads as it did. -/
def fnExactHeadingTextUptoRow : OpenClaim := { program := "ytmcmkdiefpepnaadoor", sum := "f53fef2a2b5d315ffc1b9022c3a1aed9a4d6179806f7d2e765796f85e2286146", func := "loop.example/g00051/laws.FnExactHeadingText", spec := "fnExactHeadingText", inPlace := ["internal/abi.NoEscape", "internal/bytealg.MakeNoZero"], named := ["internal/strconv.uint64pow10", "math/bits.deBruijn32tab", "math/bits.deBruijn64tab"], apart := false, laid := [("math/bits.deBruijn32tab", laid_math_bits_deBruijn32tab), ("math/bits.deBruijn64tab", laid_math_bits_deBruijn64tab), ("internal/strconv.uint64pow10", laid_internal_strconv_uint64pow10)], narrowed := true }
def FnExactHeadingTextUptoSaid : Prop := fnExactHeadingTextUptoRow.holds Tryd.pinned (OpenSpec.upto fnExactHeadingTextSpec)

/-- 'laws.FnExactSkyText', WHERE WHAT IT READS IS OF BULK AT MOST 1048576: true; the input reads as it did. -/
def fnExactSkyTextUptoRow : OpenClaim := { program := "ytmcmkdiefpepnaadoor", sum := "f53fef2a2b5d315ffc1b9022c3a1aed9a4d6179806f7d2e765796f85e2286146", func := "loop.example/g00051/laws.FnExactSkyText", spec := "fnExactSkyText", inPlace := ["internal/abi.NoEscape", "internal/bytealg.MakeNoZero"], named := ["loop.example/g00051/impl.weathers", "loop.example/g00051/impl.covers", "internal/strconv.uint64pow10", "math/bits.deBruijn32tab", "math/bits.deBruijn64tab"], apart := false, laid := [("math/bits.deBruijn32tab", laid_math_bits_deBruijn32tab), ("math/bits.deBruijn64tab", laid_math_bits_deBruijn64tab), ("internal/strconv.uint64pow10", laid_internal_strconv_uint64pow10), ("loop.example/g00051/impl.weathers", laid_loop_example_g00051_impl_weathers), ("loop.example/g00051/impl.covers", laid_loop_example_g00051_impl_covers)], narrowed := true }
def FnExactSkyTextUptoSaid : Prop := fnExactSkyTextUptoRow.holds Tryd.pinned (OpenSpec.upto fnExactSkyTextSpec)

/-- 'laws.FnTimes', WHERE WHAT IT READS IS OF BULK AT MOST 1048576: true; the input reads as it did. -/
def fnTimesUptoRow : OpenClaim := { program := "ytmcmkdiefpepnaadoor", sum := "f53fef2a2b5d315ffc1b9022c3a1aed9a4d6179806f7d2e765796f85e2286146", func := "loop.example/g00051/laws.FnTimes", spec := "fnTimes", inPlace := ["internal/abi.NoEscape", "internal/bytealg.MakeNoZero"], unfollowed := true, recurses := true, named := ["internal/strconv.uint64pow10", "math/bits.deBruijn32tab", "math/bits.deBruijn64tab", "strconv.ErrSyntax", "strconv.ErrRange"], apart := false, laid := [("math/bits.deBruijn32tab", laid_math_bits_deBruijn32tab), ("math/bits.deBruijn64tab", laid_math_bits_deBruijn64tab), ("internal/strconv.uint64pow10", laid_internal_strconv_uint64pow10), ("strconv.ErrRange", laid_strconv_ErrRange), ("strconv.ErrSyntax", laid_strconv_ErrSyntax)], narrowed := true }
def FnTimesUptoSaid : Prop := fnTimesUptoRow.holds Tryd.pinned (OpenSpec.upto fnTimesSpec)

/-- 'laws.FnExactReadStamp', WHERE WHAT IT READS IS OF BULK AT MOST 1048576: true; the input reads as it did. -/
def fnExactReadStampUptoRow : OpenClaim := { program := "ytmcmkdiefpepnaadoor", sum := "f53fef2a2b5d315ffc1b9022c3a1aed9a4d6179806f7d2e765796f85e2286146", func := "loop.example/g00051/laws.FnExactReadStamp", spec := "fnExactReadStamp", inPlace := ["internal/abi.NoEscape", "internal/bytealg.MakeNoZero"], unfollowed := true, recurses := true, named := ["strconv.ErrSyntax", "strconv.ErrRange", "internal/strconv.uint64pow10", "math/bits.deBruijn32tab", "math/bits.deBruijn64tab"], apart := false, laid := [("math/bits.deBruijn32tab", laid_math_bits_deBruijn32tab), ("math/bits.deBruijn64tab", laid_math_bits_deBruijn64tab), ("internal/strconv.uint64pow10", laid_internal_strconv_uint64pow10), ("strconv.ErrRange", laid_strconv_ErrRange), ("strconv.ErrSyntax", laid_strconv_ErrSyntax)], narrowed := true }
def FnExactReadStampUptoSaid : Prop := fnExactReadStampUptoRow.holds Tryd.pinned (OpenSpec.upto fnExactReadStampSpec)

/-- 'laws.FnExactParts', WHERE WHAT IT READS IS OF BULK AT MOST 1048576: true; the input reads as it did. -/
def fnExactPartsUptoRow : OpenClaim := { program := "ytmcmkdiefpepnaadoor", sum := "f53fef2a2b5d315ffc1b9022c3a1aed9a4d6179806f7d2e765796f85e2286146", func := "loop.example/g00051/laws.FnExactParts", spec := "fnExactParts", recurses := true, named := ["loop.example/g00051/impl.weathers", "loop.example/g00051/impl.covers"], apart := false, laid := [("loop.example/g00051/impl.weathers", laid_loop_example_g00051_impl_weathers), ("loop.example/g00051/impl.covers", laid_loop_example_g00051_impl_covers)], narrowed := true }
def FnExactPartsUptoSaid : Prop := fnExactPartsUptoRow.holds Tryd.pinned (OpenSpec.upto fnExactPartsSpec)

/-- 'laws.FnExactWorstSight', WHERE WHAT IT READS IS OF BULK AT MOST 1048576: true; the input reads as it did. -/
def fnExactWorstSightUptoRow : OpenClaim := { program := "ytmcmkdiefpepnaadoor", sum := "f53fef2a2b5d315ffc1b9022c3a1aed9a4d6179806f7d2e765796f85e2286146", func := "loop.example/g00051/laws.FnExactWorstSight", spec := "fnExactWorstSight", recurses := true, named := ["loop.example/g00051/impl.weathers", "loop.example/g00051/impl.covers"], apart := false, laid := [("loop.example/g00051/impl.weathers", laid_loop_example_g00051_impl_weathers), ("loop.example/g00051/impl.covers", laid_loop_example_g00051_impl_covers)], narrowed := true }
def FnExactWorstSightUptoSaid : Prop := fnExactWorstSightUptoRow.holds Tryd.pinned (OpenSpec.upto fnExactWorstSightSpec)

/-- 'laws.FnExactReadHeading', WHERE WHAT IT READS IS OF BULK AT MOST 1048576: true; the input reads as it did. -/
def fnExactReadHeadingUptoRow : OpenClaim := { program := "ytmcmkdiefpepnaadoor", sum := "f53fef2a2b5d315ffc1b9022c3a1aed9a4d6179806f7d2e765796f85e2286146", func := "loop.example/g00051/laws.FnExactReadHeading", spec := "fnExactReadHeading", inPlace := ["internal/bytealg.CountString", "internal/bytealg.IndexByteString", "internal/bytealg.IndexString"], named := ["unicode/utf8.first", "unicode/utf8.acceptRanges", "internal/bytealg.MaxLen", "strconv.ErrSyntax", "strconv.ErrRange", "internal/strconv.uint64pow10", "math/bits.deBruijn32tab", "math/bits.deBruijn64tab"], apart := false, laid := [("math/bits.deBruijn32tab", laid_math_bits_deBruijn32tab), ("math/bits.deBruijn64tab", laid_math_bits_deBruijn64tab), ("internal/strconv.uint64pow10", laid_internal_strconv_uint64pow10), ("unicode/utf8.acceptRanges", laid_unicode_utf8_acceptRanges), ("strconv.ErrRange", laid_strconv_ErrRange), ("strconv.ErrSyntax", laid_strconv_ErrSyntax), ("unicode/utf8.first", laid_unicode_utf8_first)], narrowed := true }
def FnExactReadHeadingUptoSaid : Prop := fnExactReadHeadingUptoRow.holds Tryd.pinned (OpenSpec.upto fnExactReadHeadingSpec)

/-- 'laws.FnExactTafText', WHERE WHAT IT READS IS OF BULK AT MOST 1048576: true; the input reads as it did. -/
def fnExactTafTextUptoRow : OpenClaim := { program := "ytmcmkdiefpepnaadoor", sum := "f53fef2a2b5d315ffc1b9022c3a1aed9a4d6179806f7d2e765796f85e2286146", func := "loop.example/g00051/laws.FnExactTafText", spec := "fnExactTafText", inPlace := ["internal/abi.NoEscape", "internal/bytealg.MakeNoZero"], named := ["loop.example/g00051/impl.changeWords", "loop.example/g00051/impl.weathers", "loop.example/g00051/impl.covers", "internal/strconv.uint64pow10", "math/bits.deBruijn32tab", "math/bits.deBruijn64tab"], apart := false, laid := [("math/bits.deBruijn32tab", laid_math_bits_deBruijn32tab), ("math/bits.deBruijn64tab", laid_math_bits_deBruijn64tab), ("internal/strconv.uint64pow10", laid_internal_strconv_uint64pow10), ("loop.example/g00051/impl.weathers", laid_loop_example_g00051_impl_weathers), ("loop.example/g00051/impl.covers", laid_loop_example_g00051_impl_covers), ("loop.example/g00051/impl.changeWords", laid_loop_example_g00051_impl_changeWords)], narrowed := true }
def FnExactTafTextUptoSaid : Prop := fnExactTafTextUptoRow.holds Tryd.pinned (OpenSpec.upto fnExactTafTextSpec)

/-- 'laws.FnHeadings', WHERE WHAT IT READS IS OF BULK AT MOST 1048576: true; the input reads as it did. -/
def fnHeadingsUptoRow : OpenClaim := { program := "ytmcmkdiefpepnaadoor", sum := "f53fef2a2b5d315ffc1b9022c3a1aed9a4d6179806f7d2e765796f85e2286146", func := "loop.example/g00051/laws.FnHeadings", spec := "fnHeadings", inPlace := ["internal/abi.NoEscape", "internal/bytealg.MakeNoZero", "internal/bytealg.CountString", "internal/bytealg.IndexByteString", "internal/bytealg.IndexString"], named := ["internal/strconv.uint64pow10", "math/bits.deBruijn32tab", "math/bits.deBruijn64tab", "unicode/utf8.first", "unicode/utf8.acceptRanges", "internal/bytealg.MaxLen", "strconv.ErrSyntax", "strconv.ErrRange"], apart := false, laid := [("math/bits.deBruijn32tab", laid_math_bits_deBruijn32tab), ("math/bits.deBruijn64tab", laid_math_bits_deBruijn64tab), ("internal/strconv.uint64pow10", laid_internal_strconv_uint64pow10), ("unicode/utf8.acceptRanges", laid_unicode_utf8_acceptRanges), ("strconv.ErrRange", laid_strconv_ErrRange), ("strconv.ErrSyntax", laid_strconv_ErrSyntax), ("unicode/utf8.first", laid_unicode_utf8_first)], narrowed := true }
def FnHeadingsUptoSaid : Prop := fnHeadingsUptoRow.holds Tryd.pinned (OpenSpec.upto fnHeadingsSpec)

end Rows
end Go.Proofs.YtmcmkdiefpepnaaDoor
