/-
  NARROWER THAN 'FOR EVERY INPUT', by the rows' own cells (each row's printed sentence says how): GraphOwn: laid · GraphErrors: laid · GraphReaches: laid · GraphCopies: laid · GraphPlays: laid · GraphNone: laid · OpParses: laid · OpRegs: laid · OpChecks: laid · OpUses: laid · OpLines: laid.
  DERIVED. THE GIVEN ROWS OF THIS SEAT. 11 by the template 'for every input the law returns true; each argument reads behind the call as it read before'; 0 by the template 'total and deterministic' (their statements: YtdplakfmdkjfdaaDoorTotals.lean).
  GIVEN WITH THE SEED: the statements are not yours to turn. If you find one false, say at which input.
  Laid BY PROGRAM, IN A SANDBOX (cutbox-rows.mjs): the forced cells as the released guide's own fill.sh prints them over the translation ef2c62f1cbb26d54… (all of the seat's roots in one cut). By AI agents, Wed Nov 11 2026. No macro, syntax, notation, axiom, sorry.
-/
import Derived.Test.YtdplakfmdkjfdaaDoorChecked
import GoSem.PinnedTables
import GoSem.Claim
import GoSem.ClaimJoined
import GoSem.ClaimMapViews
import Derived.JoinedTies
import Derived.KernelRfl
namespace Go.Proofs.YtdplakfmdkjfdaaDoor
/- THE CELL 'sum', in the pinned program and in every row, IS THE sha256 OF THE DUMP (.gsa) THAT YtdplakfmdkjfdaaDoorProg.lean LOADS. Nothing in Lean hashes anything: it is a label: what it is worth is what the hold of that sum in a sandbox is worth. -/
noncomputable def Tryd.pinned : Pinned := { name := "ytdplakfmdkjfdaadoor", sum := "ef2c62f1cbb26d543b4b7911f3e4ca64193544fe0e253640ce6bd52aca396f52", checked := Tryd.checked }
namespace Rows
def none {H : Type} : Left H := { results := [], args := [] }

/- WHAT THE LISTED PACKAGE-LEVEL VARIABLES READ AS WHEN THE CALL BEGINS. Each datum BY PROGRAM (the guide's laid-datum.mjs) off the statement by which the dump's own 'gosem.cut.vars' lays the variable. In a bare row this is a premise. The card (YtdplakfmdkjfdaaDoorCards.lean) ties it to the program's text. -/
def laid_dustpan_config_limits {H : Type} : DataW H := .agg [.agg [.lit (.int .i64 1), .lit (.int .i64 4096)], .agg [.lit (.int .i64 16), .lit (.int .i64 256)], .agg [.lit (.int .i64 1), .lit (.int .i64 8)], .agg [.lit (.int .i64 1), .lit (.int .i64 64)], .agg [.lit (.int .i64 0), .lit (.int .i64 64)], .agg [.lit (.int .i64 1), .lit (.int .i64 256)], .agg [.lit (.int .i64 1), .lit (.int .i64 4096)]]
def laid_dustpan_op_kinds {H : Type} : DataW H := .agg [.agg [.lit (.string []), .lit (.string [])], .agg [.lit (.string [97, 108, 108, 111, 99]), .lit (.string [114, 115])], .agg [.lit (.string [108, 111, 97, 100]), .lit (.string [114, 114, 102])], .agg [.lit (.string [115, 116, 111, 114, 101]), .lit (.string [114, 102, 114])], .agg [.lit (.string [103, 101, 116]), .lit (.string [114, 99])], .agg [.lit (.string [115, 101, 116]), .lit (.string [99, 114])], .agg [.lit (.string [100, 114, 111, 112]), .lit (.string [114])], .agg [.lit (.string [109, 111, 118, 101]), .lit (.string [114, 114])], .agg [.lit (.string [115, 97, 102, 101]), .lit (.string [])]]
def laid_math_bits_deBruijn32tab {H : Type} : DataW H := .agg [.lit (.int .u8 0), .lit (.int .u8 1), .lit (.int .u8 28), .lit (.int .u8 2), .lit (.int .u8 29), .lit (.int .u8 14), .lit (.int .u8 24), .lit (.int .u8 3), .lit (.int .u8 30), .lit (.int .u8 22), .lit (.int .u8 20), .lit (.int .u8 15), .lit (.int .u8 25), .lit (.int .u8 17), .lit (.int .u8 4), .lit (.int .u8 8), .lit (.int .u8 31), .lit (.int .u8 27), .lit (.int .u8 13), .lit (.int .u8 23), .lit (.int .u8 21), .lit (.int .u8 19), .lit (.int .u8 16), .lit (.int .u8 7), .lit (.int .u8 26), .lit (.int .u8 12), .lit (.int .u8 18), .lit (.int .u8 6), .lit (.int .u8 11), .lit (.int .u8 5), .lit (.int .u8 10), .lit (.int .u8 9)]
def laid_math_bits_deBruijn64tab {H : Type} : DataW H := .agg [.lit (.int .u8 0), .lit (.int .u8 1), .lit (.int .u8 56), .lit (.int .u8 2), .lit (.int .u8 57), .lit (.int .u8 49), .lit (.int .u8 28), .lit (.int .u8 3), .lit (.int .u8 61), .lit (.int .u8 58), .lit (.int .u8 42), .lit (.int .u8 50), .lit (.int .u8 38), .lit (.int .u8 29), .lit (.int .u8 17), .lit (.int .u8 4), .lit (.int .u8 62), .lit (.int .u8 47), .lit (.int .u8 59), .lit (.int .u8 36), .lit (.int .u8 45), .lit (.int .u8 43), .lit (.int .u8 51), .lit (.int .u8 22), .lit (.int .u8 53), .lit (.int .u8 39), .lit (.int .u8 33), .lit (.int .u8 30), .lit (.int .u8 24), .lit (.int .u8 18), .lit (.int .u8 12), .lit (.int .u8 5), .lit (.int .u8 63), .lit (.int .u8 55), .lit (.int .u8 48), .lit (.int .u8 27), .lit (.int .u8 60), .lit (.int .u8 41), .lit (.int .u8 37), .lit (.int .u8 16), .lit (.int .u8 46), .lit (.int .u8 35), .lit (.int .u8 44), .lit (.int .u8 21), .lit (.int .u8 52), .lit (.int .u8 32), .lit (.int .u8 23), .lit (.int .u8 11), .lit (.int .u8 54), .lit (.int .u8 26), .lit (.int .u8 40), .lit (.int .u8 15), .lit (.int .u8 34), .lit (.int .u8 20), .lit (.int .u8 31), .lit (.int .u8 10), .lit (.int .u8 25), .lit (.int .u8 14), .lit (.int .u8 19), .lit (.int .u8 9), .lit (.int .u8 13), .lit (.int .u8 8), .lit (.int .u8 7), .lit (.int .u8 6)]
def laid_internal_strconv_uint64pow10 {H : Type} : DataW H := .agg [.lit (.int .u64 1), .lit (.int .u64 10), .lit (.int .u64 100), .lit (.int .u64 1000), .lit (.int .u64 10000), .lit (.int .u64 100000), .lit (.int .u64 1000000), .lit (.int .u64 10000000), .lit (.int .u64 100000000), .lit (.int .u64 1000000000), .lit (.int .u64 10000000000), .lit (.int .u64 100000000000), .lit (.int .u64 1000000000000), .lit (.int .u64 10000000000000), .lit (.int .u64 100000000000000), .lit (.int .u64 1000000000000000), .lit (.int .u64 10000000000000000), .lit (.int .u64 100000000000000000), .lit (.int .u64 1000000000000000000), .lit (.int .u64 10000000000000000000)]
def laid_unicode_utf8_acceptRanges {H : Type} : DataW H := .agg [.agg [.lit (.int .u8 128), .lit (.int .u8 191)], .agg [.lit (.int .u8 160), .lit (.int .u8 191)], .agg [.lit (.int .u8 128), .lit (.int .u8 159)], .agg [.lit (.int .u8 144), .lit (.int .u8 191)], .agg [.lit (.int .u8 128), .lit (.int .u8 143)], .agg [.lit (.int .u8 0), .lit (.int .u8 0)], .agg [.lit (.int .u8 0), .lit (.int .u8 0)], .agg [.lit (.int .u8 0), .lit (.int .u8 0)], .agg [.lit (.int .u8 0), .lit (.int .u8 0)], .agg [.lit (.int .u8 0), .lit (.int .u8 0)], .agg [.lit (.int .u8 0), .lit (.int .u8 0)], .agg [.lit (.int .u8 0), .lit (.int .u8 0)], .agg [.lit (.int .u8 0), .lit (.int .u8 0)], .agg [.lit (.int .u8 0), .lit (.int .u8 0)], .agg [.lit (.int .u8 0), .lit (.int .u8 0)], .agg [.lit (.int .u8 0), .lit (.int .u8 0)]]
def laid_strconv_ErrRange {H : Type} : DataW H := .iface "*errors.errorString" (.ptr (.agg [.lit (.string [118, 97, 108, 117, 101, 32, 111, 117, 116, 32, 111, 102, 32, 114, 97, 110, 103, 101])]))
def laid_strconv_ErrSyntax {H : Type} : DataW H := .iface "*errors.errorString" (.ptr (.agg [.lit (.string [105, 110, 118, 97, 108, 105, 100, 32, 115, 121, 110, 116, 97, 120])]))
/-- One of Go's own tables, pinned by name: the form's constant. -/
def laid_unicode_utf8_first : DataW Unit := Go.Pinned.utf8First

/-- 'dustpanlaw18.GraphOwn': WHATEVER THE INPUT: true; the input reads as it did. -/
def graphOwnSpec : ChangeSpec := { name := "graphOwn", fn := fun _ => fun
  | [d1, d2] => { results := [.lit (.bool true)], args := [d1, d2] }
  | _ => none }
def graphOwnRow : OpenClaim := { program := "ytdplakfmdkjfdaadoor", sum := "ef2c62f1cbb26d543b4b7911f3e4ca64193544fe0e253640ce6bd52aca396f52", func := "dustpan/dustpanlaw18.GraphOwn", spec := "graphOwn", unfollowed := true, recurses := true, named := ["dustpan/config.limits", "dustpan/op.kinds"], apart := false, laid := [("dustpan/config.limits", laid_dustpan_config_limits), ("dustpan/op.kinds", laid_dustpan_op_kinds)] }
def GraphOwnSaid : Prop := graphOwnRow.holds Tryd.pinned (OpenSpec.ofChange graphOwnSpec)

/-- ITS FALSE NEIGHBOUR: 'it returns false'. Refute it at one input. -/
def graphOwnWrong : ChangeSpec := { name := "graphOwn", fn := fun _ => fun
  | [d1, d2] => { results := [.lit (.bool false)], args := [d1, d2] }
  | _ => none }
def GraphOwnWrongFalsely : Prop := graphOwnRow.holds Tryd.pinned (OpenSpec.ofChange graphOwnWrong)

/-- 'dustpanlaw18.GraphErrors': WHATEVER THE INPUT: true; the input reads as it did. -/
def graphErrorsSpec : ChangeSpec := { name := "graphErrors", fn := fun _ => fun
  | [d1, d2, d3] => { results := [.lit (.bool true)], args := [d1, d2, d3] }
  | _ => none }
def graphErrorsRow : OpenClaim := { program := "ytdplakfmdkjfdaadoor", sum := "ef2c62f1cbb26d543b4b7911f3e4ca64193544fe0e253640ce6bd52aca396f52", func := "dustpan/dustpanlaw18.GraphErrors", spec := "graphErrors", unfollowed := true, recurses := true, named := ["dustpan/config.limits", "dustpan/op.kinds"], apart := false, laid := [("dustpan/config.limits", laid_dustpan_config_limits), ("dustpan/op.kinds", laid_dustpan_op_kinds)] }
def GraphErrorsSaid : Prop := graphErrorsRow.holds Tryd.pinned (OpenSpec.ofChange graphErrorsSpec)

/-- ITS FALSE NEIGHBOUR: 'it returns false'. Refute it at one input. -/
def graphErrorsWrong : ChangeSpec := { name := "graphErrors", fn := fun _ => fun
  | [d1, d2, d3] => { results := [.lit (.bool false)], args := [d1, d2, d3] }
  | _ => none }
def GraphErrorsWrongFalsely : Prop := graphErrorsRow.holds Tryd.pinned (OpenSpec.ofChange graphErrorsWrong)

/-- 'dustpanlaw18.GraphReaches': WHATEVER THE INPUT: true; the input reads as it did. -/
def graphReachesSpec : ChangeSpec := { name := "graphReaches", fn := fun _ => fun
  | [d1, d2, d3] => { results := [.lit (.bool true)], args := [d1, d2, d3] }
  | _ => none }
def graphReachesRow : OpenClaim := { program := "ytdplakfmdkjfdaadoor", sum := "ef2c62f1cbb26d543b4b7911f3e4ca64193544fe0e253640ce6bd52aca396f52", func := "dustpan/dustpanlaw18.GraphReaches", spec := "graphReaches", unfollowed := true, recurses := true, named := ["dustpan/config.limits", "dustpan/op.kinds"], apart := false, laid := [("dustpan/config.limits", laid_dustpan_config_limits), ("dustpan/op.kinds", laid_dustpan_op_kinds)] }
def GraphReachesSaid : Prop := graphReachesRow.holds Tryd.pinned (OpenSpec.ofChange graphReachesSpec)

/-- ITS FALSE NEIGHBOUR: 'it returns false'. Refute it at one input. -/
def graphReachesWrong : ChangeSpec := { name := "graphReaches", fn := fun _ => fun
  | [d1, d2, d3] => { results := [.lit (.bool false)], args := [d1, d2, d3] }
  | _ => none }
def GraphReachesWrongFalsely : Prop := graphReachesRow.holds Tryd.pinned (OpenSpec.ofChange graphReachesWrong)

/-- 'dustpanlaw18.GraphCopies': WHATEVER THE INPUT: true; the input reads as it did. -/
def graphCopiesSpec : ChangeSpec := { name := "graphCopies", fn := fun _ => fun
  | [d1, d2, d3] => { results := [.lit (.bool true)], args := [d1, d2, d3] }
  | _ => none }
def graphCopiesRow : OpenClaim := { program := "ytdplakfmdkjfdaadoor", sum := "ef2c62f1cbb26d543b4b7911f3e4ca64193544fe0e253640ce6bd52aca396f52", func := "dustpan/dustpanlaw18.GraphCopies", spec := "graphCopies", unfollowed := true, recurses := true, named := ["dustpan/config.limits", "dustpan/op.kinds"], apart := false, laid := [("dustpan/config.limits", laid_dustpan_config_limits), ("dustpan/op.kinds", laid_dustpan_op_kinds)] }
def GraphCopiesSaid : Prop := graphCopiesRow.holds Tryd.pinned (OpenSpec.ofChange graphCopiesSpec)

/-- ITS FALSE NEIGHBOUR: 'it returns false'. Refute it at one input. -/
def graphCopiesWrong : ChangeSpec := { name := "graphCopies", fn := fun _ => fun
  | [d1, d2, d3] => { results := [.lit (.bool false)], args := [d1, d2, d3] }
  | _ => none }
def GraphCopiesWrongFalsely : Prop := graphCopiesRow.holds Tryd.pinned (OpenSpec.ofChange graphCopiesWrong)

/-- 'dustpanlaw18.GraphPlays': WHATEVER THE INPUT: true; the input reads as it did. -/
def graphPlaysSpec : ChangeSpec := { name := "graphPlays", fn := fun _ => fun
  | [d1, d2] => { results := [.lit (.bool true)], args := [d1, d2] }
  | _ => none }
def graphPlaysRow : OpenClaim := { program := "ytdplakfmdkjfdaadoor", sum := "ef2c62f1cbb26d543b4b7911f3e4ca64193544fe0e253640ce6bd52aca396f52", func := "dustpan/dustpanlaw18.GraphPlays", spec := "graphPlays", unfollowed := true, recurses := true, named := ["dustpan/config.limits", "dustpan/op.kinds"], apart := false, laid := [("dustpan/config.limits", laid_dustpan_config_limits), ("dustpan/op.kinds", laid_dustpan_op_kinds)] }
def GraphPlaysSaid : Prop := graphPlaysRow.holds Tryd.pinned (OpenSpec.ofChange graphPlaysSpec)

/-- ITS FALSE NEIGHBOUR: 'it returns false'. Refute it at one input. -/
def graphPlaysWrong : ChangeSpec := { name := "graphPlays", fn := fun _ => fun
  | [d1, d2] => { results := [.lit (.bool false)], args := [d1, d2] }
  | _ => none }
def GraphPlaysWrongFalsely : Prop := graphPlaysRow.holds Tryd.pinned (OpenSpec.ofChange graphPlaysWrong)

/-- 'dustpanlaw18.GraphNone': WHATEVER THE INPUT: true; the input reads as it did. -/
def graphNoneSpec : ChangeSpec := { name := "graphNone", fn := fun _ => fun
  | [d1, d2, d3] => { results := [.lit (.bool true)], args := [d1, d2, d3] }
  | _ => none }
def graphNoneRow : OpenClaim := { program := "ytdplakfmdkjfdaadoor", sum := "ef2c62f1cbb26d543b4b7911f3e4ca64193544fe0e253640ce6bd52aca396f52", func := "dustpan/dustpanlaw18.GraphNone", spec := "graphNone", unfollowed := true, recurses := true, named := ["dustpan/config.limits", "dustpan/op.kinds"], apart := false, laid := [("dustpan/config.limits", laid_dustpan_config_limits), ("dustpan/op.kinds", laid_dustpan_op_kinds)] }
def GraphNoneSaid : Prop := graphNoneRow.holds Tryd.pinned (OpenSpec.ofChange graphNoneSpec)

/-- ITS FALSE NEIGHBOUR: 'it returns false'. Refute it at one input. -/
def graphNoneWrong : ChangeSpec := { name := "graphNone", fn := fun _ => fun
  | [d1, d2, d3] => { results := [.lit (.bool false)], args := [d1, d2, d3] }
  | _ => none }
def GraphNoneWrongFalsely : Prop := graphNoneRow.holds Tryd.pinned (OpenSpec.ofChange graphNoneWrong)

/-- 'dustpanlaw17.OpParses': WHATEVER THE INPUT: true; the input reads as it did. -/
def opParsesSpec : ChangeSpec := { name := "opParses", fn := fun _ => fun
  | [d] => { results := [.lit (.bool true)], args := [d] }
  | _ => none }
def opParsesRow : OpenClaim := { program := "ytdplakfmdkjfdaadoor", sum := "ef2c62f1cbb26d543b4b7911f3e4ca64193544fe0e253640ce6bd52aca396f52", func := "dustpan/dustpanlaw17.OpParses", spec := "opParses", inPlace := ["internal/bytealg.CountString", "internal/bytealg.IndexByteString", "internal/bytealg.IndexString"], unfollowed := true, recurses := true, named := ["dustpan/op.kinds", "unicode/utf8.first", "unicode/utf8.acceptRanges", "internal/bytealg.MaxLen", "strconv.ErrSyntax", "strconv.ErrRange", "internal/strconv.uint64pow10", "math/bits.deBruijn32tab", "math/bits.deBruijn64tab", "dustpan/config.limits"], apart := false, laid := [("math/bits.deBruijn32tab", laid_math_bits_deBruijn32tab), ("math/bits.deBruijn64tab", laid_math_bits_deBruijn64tab), ("dustpan/config.limits", laid_dustpan_config_limits), ("internal/strconv.uint64pow10", laid_internal_strconv_uint64pow10), ("unicode/utf8.acceptRanges", laid_unicode_utf8_acceptRanges), ("strconv.ErrRange", laid_strconv_ErrRange), ("strconv.ErrSyntax", laid_strconv_ErrSyntax), ("dustpan/op.kinds", laid_dustpan_op_kinds), ("unicode/utf8.first", laid_unicode_utf8_first)] }
def OpParsesSaid : Prop := opParsesRow.holds Tryd.pinned (OpenSpec.ofChange opParsesSpec)

/-- ITS FALSE NEIGHBOUR: 'it returns false'. Refute it at one input. -/
def opParsesWrong : ChangeSpec := { name := "opParses", fn := fun _ => fun
  | [d] => { results := [.lit (.bool false)], args := [d] }
  | _ => none }
def OpParsesWrongFalsely : Prop := opParsesRow.holds Tryd.pinned (OpenSpec.ofChange opParsesWrong)

/-- 'dustpanlaw17.OpRegs': WHATEVER THE INPUT: true; the input reads as it did. -/
def opRegsSpec : ChangeSpec := { name := "opRegs", fn := fun _ => fun
  | [d1, d2] => { results := [.lit (.bool true)], args := [d1, d2] }
  | _ => none }
def opRegsRow : OpenClaim := { program := "ytdplakfmdkjfdaadoor", sum := "ef2c62f1cbb26d543b4b7911f3e4ca64193544fe0e253640ce6bd52aca396f52", func := "dustpan/dustpanlaw17.OpRegs", spec := "opRegs", inPlace := ["internal/bytealg.CountString", "internal/bytealg.IndexByteString", "internal/bytealg.IndexString"], unfollowed := true, recurses := true, named := ["dustpan/config.limits", "dustpan/op.kinds", "unicode/utf8.first", "unicode/utf8.acceptRanges", "internal/bytealg.MaxLen", "strconv.ErrSyntax", "strconv.ErrRange", "internal/strconv.uint64pow10", "math/bits.deBruijn32tab", "math/bits.deBruijn64tab"], apart := false, laid := [("math/bits.deBruijn32tab", laid_math_bits_deBruijn32tab), ("math/bits.deBruijn64tab", laid_math_bits_deBruijn64tab), ("dustpan/config.limits", laid_dustpan_config_limits), ("internal/strconv.uint64pow10", laid_internal_strconv_uint64pow10), ("unicode/utf8.acceptRanges", laid_unicode_utf8_acceptRanges), ("strconv.ErrRange", laid_strconv_ErrRange), ("strconv.ErrSyntax", laid_strconv_ErrSyntax), ("dustpan/op.kinds", laid_dustpan_op_kinds), ("unicode/utf8.first", laid_unicode_utf8_first)] }
def OpRegsSaid : Prop := opRegsRow.holds Tryd.pinned (OpenSpec.ofChange opRegsSpec)

/-- ITS FALSE NEIGHBOUR: 'it returns false'. Refute it at one input. -/
def opRegsWrong : ChangeSpec := { name := "opRegs", fn := fun _ => fun
  | [d1, d2] => { results := [.lit (.bool false)], args := [d1, d2] }
  | _ => none }
def OpRegsWrongFalsely : Prop := opRegsRow.holds Tryd.pinned (OpenSpec.ofChange opRegsWrong)

/-- 'dustpanlaw17.OpChecks': WHATEVER THE INPUT: true; the input reads as it did. -/
def opChecksSpec : ChangeSpec := { name := "opChecks", fn := fun _ => fun
  | [d1, d2, d3] => { results := [.lit (.bool true)], args := [d1, d2, d3] }
  | _ => none }
def opChecksRow : OpenClaim := { program := "ytdplakfmdkjfdaadoor", sum := "ef2c62f1cbb26d543b4b7911f3e4ca64193544fe0e253640ce6bd52aca396f52", func := "dustpan/dustpanlaw17.OpChecks", spec := "opChecks", inPlace := ["internal/bytealg.CountString", "internal/bytealg.IndexByteString", "internal/bytealg.IndexString"], unfollowed := true, recurses := true, named := ["dustpan/op.kinds", "unicode/utf8.first", "unicode/utf8.acceptRanges", "internal/bytealg.MaxLen", "strconv.ErrSyntax", "strconv.ErrRange", "internal/strconv.uint64pow10", "math/bits.deBruijn32tab", "math/bits.deBruijn64tab", "dustpan/config.limits"], apart := false, laid := [("math/bits.deBruijn32tab", laid_math_bits_deBruijn32tab), ("math/bits.deBruijn64tab", laid_math_bits_deBruijn64tab), ("dustpan/config.limits", laid_dustpan_config_limits), ("internal/strconv.uint64pow10", laid_internal_strconv_uint64pow10), ("unicode/utf8.acceptRanges", laid_unicode_utf8_acceptRanges), ("strconv.ErrRange", laid_strconv_ErrRange), ("strconv.ErrSyntax", laid_strconv_ErrSyntax), ("dustpan/op.kinds", laid_dustpan_op_kinds), ("unicode/utf8.first", laid_unicode_utf8_first)] }
def OpChecksSaid : Prop := opChecksRow.holds Tryd.pinned (OpenSpec.ofChange opChecksSpec)

/-- ITS FALSE NEIGHBOUR: 'it returns false'. Refute it at one input. -/
def opChecksWrong : ChangeSpec := { name := "opChecks", fn := fun _ => fun
  | [d1, d2, d3] => { results := [.lit (.bool false)], args := [d1, d2, d3] }
  | _ => none }
def OpChecksWrongFalsely : Prop := opChecksRow.holds Tryd.pinned (OpenSpec.ofChange opChecksWrong)

/-- 'dustpanlaw17.OpUses': WHATEVER THE INPUT: true; the input reads as it did. -/
def opUsesSpec : ChangeSpec := { name := "opUses", fn := fun _ => fun
  | [d1, d2, d3] => { results := [.lit (.bool true)], args := [d1, d2, d3] }
  | _ => none }
def opUsesRow : OpenClaim := { program := "ytdplakfmdkjfdaadoor", sum := "ef2c62f1cbb26d543b4b7911f3e4ca64193544fe0e253640ce6bd52aca396f52", func := "dustpan/dustpanlaw17.OpUses", spec := "opUses", inPlace := ["internal/bytealg.CountString", "internal/bytealg.IndexByteString", "internal/bytealg.IndexString"], unfollowed := true, recurses := true, named := ["dustpan/op.kinds", "dustpan/config.limits", "internal/strconv.uint64pow10", "math/bits.deBruijn32tab", "math/bits.deBruijn64tab", "unicode/utf8.first", "unicode/utf8.acceptRanges", "internal/bytealg.MaxLen", "strconv.ErrSyntax", "strconv.ErrRange"], apart := false, laid := [("math/bits.deBruijn32tab", laid_math_bits_deBruijn32tab), ("math/bits.deBruijn64tab", laid_math_bits_deBruijn64tab), ("dustpan/config.limits", laid_dustpan_config_limits), ("internal/strconv.uint64pow10", laid_internal_strconv_uint64pow10), ("unicode/utf8.acceptRanges", laid_unicode_utf8_acceptRanges), ("strconv.ErrRange", laid_strconv_ErrRange), ("strconv.ErrSyntax", laid_strconv_ErrSyntax), ("dustpan/op.kinds", laid_dustpan_op_kinds), ("unicode/utf8.first", laid_unicode_utf8_first)] }
def OpUsesSaid : Prop := opUsesRow.holds Tryd.pinned (OpenSpec.ofChange opUsesSpec)

/-- ITS FALSE NEIGHBOUR: 'it returns false'. Refute it at one input. -/
def opUsesWrong : ChangeSpec := { name := "opUses", fn := fun _ => fun
  | [d1, d2, d3] => { results := [.lit (.bool false)], args := [d1, d2, d3] }
  | _ => none }
def OpUsesWrongFalsely : Prop := opUsesRow.holds Tryd.pinned (OpenSpec.ofChange opUsesWrong)

/-- 'dustpanlaw17.OpLines': WHATEVER THE INPUT: true; the input reads as it did. -/
def opLinesSpec : ChangeSpec := { name := "opLines", fn := fun _ => fun
  | [d] => { results := [.lit (.bool true)], args := [d] }
  | _ => none }
def opLinesRow : OpenClaim := { program := "ytdplakfmdkjfdaadoor", sum := "ef2c62f1cbb26d543b4b7911f3e4ca64193544fe0e253640ce6bd52aca396f52", func := "dustpan/dustpanlaw17.OpLines", spec := "opLines", inPlace := ["internal/bytealg.CountString", "internal/bytealg.IndexByteString", "internal/bytealg.IndexString"], unfollowed := true, recurses := true, named := ["dustpan/op.kinds", "internal/strconv.uint64pow10", "math/bits.deBruijn32tab", "math/bits.deBruijn64tab", "unicode/utf8.first", "unicode/utf8.acceptRanges", "internal/bytealg.MaxLen", "strconv.ErrSyntax", "strconv.ErrRange", "dustpan/config.limits"], apart := false, laid := [("math/bits.deBruijn32tab", laid_math_bits_deBruijn32tab), ("math/bits.deBruijn64tab", laid_math_bits_deBruijn64tab), ("dustpan/config.limits", laid_dustpan_config_limits), ("internal/strconv.uint64pow10", laid_internal_strconv_uint64pow10), ("unicode/utf8.acceptRanges", laid_unicode_utf8_acceptRanges), ("strconv.ErrRange", laid_strconv_ErrRange), ("strconv.ErrSyntax", laid_strconv_ErrSyntax), ("dustpan/op.kinds", laid_dustpan_op_kinds), ("unicode/utf8.first", laid_unicode_utf8_first)] }
def OpLinesSaid : Prop := opLinesRow.holds Tryd.pinned (OpenSpec.ofChange opLinesSpec)

/-- ITS FALSE NEIGHBOUR: 'it returns false'. Refute it at one input. -/
def opLinesWrong : ChangeSpec := { name := "opLines", fn := fun _ => fun
  | [d] => { results := [.lit (.bool false)], args := [d] }
  | _ => none }
def OpLinesWrongFalsely : Prop := opLinesRow.holds Tryd.pinned (OpenSpec.ofChange opLinesWrong)

/- THE SECOND FORM. 'bulk': how many values and letters a reading holds, each counted each time it is reached (what is shared counts as often as it is met; a slice's spare places count too). A statement '..UptoSaid' is the law's where the arguments, and the package variables that the reading takes, are together of bulk at most 1048576: NARROWER than '..Said'. Prove '..Said' where nothing that the law and all that it calls make is longer than what came in: it says more and counts as full. Else prove '..UptoSaid'. A law counts once. -/
mutual
def uptoBulk {H : Type} : DataW H → Nat
  | .lit (.string bytes) => bytes.length + 1
  | .lit _ => 1
  | .nil => 1
  | .ptr d => uptoBulk d + 1
  | .slice elems spare => uptoBulkAll elems + uptoBulkAll spare + 1
  | .agg parts => uptoBulkAll parts + 1
  | .iface _ d => uptoBulk d + 1
  | .map entries => uptoBulkEntries entries + 1
  | .held _ => 1
def uptoBulkAll {H : Type} : List (DataW H) → Nat
  | [] => 0
  | d :: r => uptoBulk d + uptoBulkAll r
def uptoBulkEntries {H : Type} : List (Lit × DataW H) → Nat
  | [] => 0
  | x :: r => uptoBulkEntry x + uptoBulkEntries r
def uptoBulkEntry {H : Type} : Lit × DataW H → Nat
  | (.string bytes, d) => bytes.length + uptoBulk d + 1
  | (_, d) => uptoBulk d + 1
 end
def uptoSmall : (H : Type) → List (DataW H) → Bool := fun _ ds => decide (uptoBulkAll ds ≤ 1048576)
def OpenSpec.upto (s : _root_.Go.ChangeSpec) : _root_.Go.OpenSpec := { _root_.Go.OpenSpec.ofChange s with cond := some uptoSmall }

/-- 'dustpanlaw18.GraphOwn', WHERE WHAT IT READS IS OF BULK AT MOST 1048576: true; the input reads as it did. -/
def graphOwnUptoRow : OpenClaim := { program := "ytdplakfmdkjfdaadoor", sum := "ef2c62f1cbb26d543b4b7911f3e4ca64193544fe0e253640ce6bd52aca396f52", func := "dustpan/dustpanlaw18.GraphOwn", spec := "graphOwn", unfollowed := true, recurses := true, named := ["dustpan/config.limits", "dustpan/op.kinds"], apart := false, laid := [("dustpan/config.limits", laid_dustpan_config_limits), ("dustpan/op.kinds", laid_dustpan_op_kinds)], narrowed := true }
def GraphOwnUptoSaid : Prop := graphOwnUptoRow.holds Tryd.pinned (OpenSpec.upto graphOwnSpec)

/-- 'dustpanlaw18.GraphErrors', WHERE WHAT IT READS IS OF BULK AT MOST 1048576: true; the input reads as it did. -/
def graphErrorsUptoRow : OpenClaim := { program := "ytdplakfmdkjfdaadoor", sum := "ef2c62f1cbb26d543b4b7911f3e4ca64193544fe0e253640ce6bd52aca396f52", func := "dustpan/dustpanlaw18.GraphErrors", spec := "graphErrors", unfollowed := true, recurses := true, named := ["dustpan/config.limits", "dustpan/op.kinds"], apart := false, laid := [("dustpan/config.limits", laid_dustpan_config_limits), ("dustpan/op.kinds", laid_dustpan_op_kinds)], narrowed := true }
def GraphErrorsUptoSaid : Prop := graphErrorsUptoRow.holds Tryd.pinned (OpenSpec.upto graphErrorsSpec)

/-- 'dustpanlaw18.GraphReaches', WHERE WHAT IT READS IS OF BULK AT MOST 1048576: true; the input reads as it did. -/
def graphReachesUptoRow : OpenClaim := { program := "ytdplakfmdkjfdaadoor", sum := "ef2c62f1cbb26d543b4b7911f3e4ca64193544fe0e253640ce6bd52aca396f52", func := "dustpan/dustpanlaw18.GraphReaches", spec := "graphReaches", unfollowed := true, recurses := true, named := ["dustpan/config.limits", "dustpan/op.kinds"], apart := false, laid := [("dustpan/config.limits", laid_dustpan_config_limits), ("dustpan/op.kinds", laid_dustpan_op_kinds)], narrowed := true }
def GraphReachesUptoSaid : Prop := graphReachesUptoRow.holds Tryd.pinned (OpenSpec.upto graphReachesSpec)

/-- 'dustpanlaw18.GraphCopies', WHERE WHAT IT READS IS OF BULK AT MOST 1048576: true; the input reads as it did. -/
def graphCopiesUptoRow : OpenClaim := { program := "ytdplakfmdkjfdaadoor", sum := "ef2c62f1cbb26d543b4b7911f3e4ca64193544fe0e253640ce6bd52aca396f52", func := "dustpan/dustpanlaw18.GraphCopies", spec := "graphCopies", unfollowed := true, recurses := true, named := ["dustpan/config.limits", "dustpan/op.kinds"], apart := false, laid := [("dustpan/config.limits", laid_dustpan_config_limits), ("dustpan/op.kinds", laid_dustpan_op_kinds)], narrowed := true }
def GraphCopiesUptoSaid : Prop := graphCopiesUptoRow.holds Tryd.pinned (OpenSpec.upto graphCopiesSpec)

/-- 'dustpanlaw18.GraphPlays', WHERE WHAT IT READS IS OF BULK AT MOST 1048576: true; the input reads as it did. -/
def graphPlaysUptoRow : OpenClaim := { program := "ytdplakfmdkjfdaadoor", sum := "ef2c62f1cbb26d543b4b7911f3e4ca64193544fe0e253640ce6bd52aca396f52", func := "dustpan/dustpanlaw18.GraphPlays", spec := "graphPlays", unfollowed := true, recurses := true, named := ["dustpan/config.limits", "dustpan/op.kinds"], apart := false, laid := [("dustpan/config.limits", laid_dustpan_config_limits), ("dustpan/op.kinds", laid_dustpan_op_kinds)], narrowed := true }
def GraphPlaysUptoSaid : Prop := graphPlaysUptoRow.holds Tryd.pinned (OpenSpec.upto graphPlaysSpec)

/-- 'dustpanlaw18.GraphNone', WHERE WHAT IT READS IS OF BULK AT MOST 1048576: true; the input reads as it did. -/
def graphNoneUptoRow : OpenClaim := { program := "ytdplakfmdkjfdaadoor", sum := "ef2c62f1cbb26d543b4b7911f3e4ca64193544fe0e253640ce6bd52aca396f52", func := "dustpan/dustpanlaw18.GraphNone", spec := "graphNone", unfollowed := true, recurses := true, named := ["dustpan/config.limits", "dustpan/op.kinds"], apart := false, laid := [("dustpan/config.limits", laid_dustpan_config_limits), ("dustpan/op.kinds", laid_dustpan_op_kinds)], narrowed := true }
def GraphNoneUptoSaid : Prop := graphNoneUptoRow.holds Tryd.pinned (OpenSpec.upto graphNoneSpec)

/-- 'dustpanlaw17.OpParses', WHERE WHAT IT READS IS OF BULK AT MOST 1048576: true; the input reads as it did. -/
def opParsesUptoRow : OpenClaim := { program := "ytdplakfmdkjfdaadoor", sum := "ef2c62f1cbb26d543b4b7911f3e4ca64193544fe0e253640ce6bd52aca396f52", func := "dustpan/dustpanlaw17.OpParses", spec := "opParses", inPlace := ["internal/bytealg.CountString", "internal/bytealg.IndexByteString", "internal/bytealg.IndexString"], unfollowed := true, recurses := true, named := ["dustpan/op.kinds", "unicode/utf8.first", "unicode/utf8.acceptRanges", "internal/bytealg.MaxLen", "strconv.ErrSyntax", "strconv.ErrRange", "internal/strconv.uint64pow10", "math/bits.deBruijn32tab", "math/bits.deBruijn64tab", "dustpan/config.limits"], apart := false, laid := [("math/bits.deBruijn32tab", laid_math_bits_deBruijn32tab), ("math/bits.deBruijn64tab", laid_math_bits_deBruijn64tab), ("dustpan/config.limits", laid_dustpan_config_limits), ("internal/strconv.uint64pow10", laid_internal_strconv_uint64pow10), ("unicode/utf8.acceptRanges", laid_unicode_utf8_acceptRanges), ("strconv.ErrRange", laid_strconv_ErrRange), ("strconv.ErrSyntax", laid_strconv_ErrSyntax), ("dustpan/op.kinds", laid_dustpan_op_kinds), ("unicode/utf8.first", laid_unicode_utf8_first)], narrowed := true }
def OpParsesUptoSaid : Prop := opParsesUptoRow.holds Tryd.pinned (OpenSpec.upto opParsesSpec)

/-- 'dustpanlaw17.OpRegs', WHERE WHAT IT READS IS OF BULK AT MOST 1048576: true; the input reads as it did. -/
def opRegsUptoRow : OpenClaim := { program := "ytdplakfmdkjfdaadoor", sum := "ef2c62f1cbb26d543b4b7911f3e4ca64193544fe0e253640ce6bd52aca396f52", func := "dustpan/dustpanlaw17.OpRegs", spec := "opRegs", inPlace := ["internal/bytealg.CountString", "internal/bytealg.IndexByteString", "internal/bytealg.IndexString"], unfollowed := true, recurses := true, named := ["dustpan/config.limits", "dustpan/op.kinds", "unicode/utf8.first", "unicode/utf8.acceptRanges", "internal/bytealg.MaxLen", "strconv.ErrSyntax", "strconv.ErrRange", "internal/strconv.uint64pow10", "math/bits.deBruijn32tab", "math/bits.deBruijn64tab"], apart := false, laid := [("math/bits.deBruijn32tab", laid_math_bits_deBruijn32tab), ("math/bits.deBruijn64tab", laid_math_bits_deBruijn64tab), ("dustpan/config.limits", laid_dustpan_config_limits), ("internal/strconv.uint64pow10", laid_internal_strconv_uint64pow10), ("unicode/utf8.acceptRanges", laid_unicode_utf8_acceptRanges), ("strconv.ErrRange", laid_strconv_ErrRange), ("strconv.ErrSyntax", laid_strconv_ErrSyntax), ("dustpan/op.kinds", laid_dustpan_op_kinds), ("unicode/utf8.first", laid_unicode_utf8_first)], narrowed := true }
def OpRegsUptoSaid : Prop := opRegsUptoRow.holds Tryd.pinned (OpenSpec.upto opRegsSpec)

/-- 'dustpanlaw17.OpChecks', WHERE WHAT IT READS IS OF BULK AT MOST 1048576: true; the input reads as it did. -/
def opChecksUptoRow : OpenClaim := { program := "ytdplakfmdkjfdaadoor", sum := "ef2c62f1cbb26d543b4b7911f3e4ca64193544fe0e253640ce6bd52aca396f52", func := "dustpan/dustpanlaw17.OpChecks", spec := "opChecks", inPlace := ["internal/bytealg.CountString", "internal/bytealg.IndexByteString", "internal/bytealg.IndexString"], unfollowed := true, recurses := true, named := ["dustpan/op.kinds", "unicode/utf8.first", "unicode/utf8.acceptRanges", "internal/bytealg.MaxLen", "strconv.ErrSyntax", "strconv.ErrRange", "internal/strconv.uint64pow10", "math/bits.deBruijn32tab", "math/bits.deBruijn64tab", "dustpan/config.limits"], apart := false, laid := [("math/bits.deBruijn32tab", laid_math_bits_deBruijn32tab), ("math/bits.deBruijn64tab", laid_math_bits_deBruijn64tab), ("dustpan/config.limits", laid_dustpan_config_limits), ("internal/strconv.uint64pow10", laid_internal_strconv_uint64pow10), ("unicode/utf8.acceptRanges", laid_unicode_utf8_acceptRanges), ("strconv.ErrRange", laid_strconv_ErrRange), ("strconv.ErrSyntax", laid_strconv_ErrSyntax), ("dustpan/op.kinds", laid_dustpan_op_kinds), ("unicode/utf8.first", laid_unicode_utf8_first)], narrowed := true }
def OpChecksUptoSaid : Prop := opChecksUptoRow.holds Tryd.pinned (OpenSpec.upto opChecksSpec)

/-- 'dustpanlaw17.OpUses', WHERE WHAT IT READS IS OF BULK AT MOST 1048576: true; the input reads as it did. -/
def opUsesUptoRow : OpenClaim := { program := "ytdplakfmdkjfdaadoor", sum := "ef2c62f1cbb26d543b4b7911f3e4ca64193544fe0e253640ce6bd52aca396f52", func := "dustpan/dustpanlaw17.OpUses", spec := "opUses", inPlace := ["internal/bytealg.CountString", "internal/bytealg.IndexByteString", "internal/bytealg.IndexString"], unfollowed := true, recurses := true, named := ["dustpan/op.kinds", "dustpan/config.limits", "internal/strconv.uint64pow10", "math/bits.deBruijn32tab", "math/bits.deBruijn64tab", "unicode/utf8.first", "unicode/utf8.acceptRanges", "internal/bytealg.MaxLen", "strconv.ErrSyntax", "strconv.ErrRange"], apart := false, laid := [("math/bits.deBruijn32tab", laid_math_bits_deBruijn32tab), ("math/bits.deBruijn64tab", laid_math_bits_deBruijn64tab), ("dustpan/config.limits", laid_dustpan_config_limits), ("internal/strconv.uint64pow10", laid_internal_strconv_uint64pow10), ("unicode/utf8.acceptRanges", laid_unicode_utf8_acceptRanges), ("strconv.ErrRange", laid_strconv_ErrRange), ("strconv.ErrSyntax", laid_strconv_ErrSyntax), ("dustpan/op.kinds", laid_dustpan_op_kinds), ("unicode/utf8.first", laid_unicode_utf8_first)], narrowed := true }
def OpUsesUptoSaid : Prop := opUsesUptoRow.holds Tryd.pinned (OpenSpec.upto opUsesSpec)

/-- 'dustpanlaw17.OpLines', WHERE WHAT IT READS IS OF BULK AT MOST 1048576: true; the input reads as it did. -/
def opLinesUptoRow : OpenClaim := { program := "ytdplakfmdkjfdaadoor", sum := "ef2c62f1cbb26d543b4b7911f3e4ca64193544fe0e253640ce6bd52aca396f52", func := "dustpan/dustpanlaw17.OpLines", spec := "opLines", inPlace := ["internal/bytealg.CountString", "internal/bytealg.IndexByteString", "internal/bytealg.IndexString"], unfollowed := true, recurses := true, named := ["dustpan/op.kinds", "internal/strconv.uint64pow10", "math/bits.deBruijn32tab", "math/bits.deBruijn64tab", "unicode/utf8.first", "unicode/utf8.acceptRanges", "internal/bytealg.MaxLen", "strconv.ErrSyntax", "strconv.ErrRange", "dustpan/config.limits"], apart := false, laid := [("math/bits.deBruijn32tab", laid_math_bits_deBruijn32tab), ("math/bits.deBruijn64tab", laid_math_bits_deBruijn64tab), ("dustpan/config.limits", laid_dustpan_config_limits), ("internal/strconv.uint64pow10", laid_internal_strconv_uint64pow10), ("unicode/utf8.acceptRanges", laid_unicode_utf8_acceptRanges), ("strconv.ErrRange", laid_strconv_ErrRange), ("strconv.ErrSyntax", laid_strconv_ErrSyntax), ("dustpan/op.kinds", laid_dustpan_op_kinds), ("unicode/utf8.first", laid_unicode_utf8_first)], narrowed := true }
def OpLinesUptoSaid : Prop := opLinesUptoRow.holds Tryd.pinned (OpenSpec.upto opLinesSpec)

end Rows
end Go.Proofs.YtdplakfmdkjfdaaDoor
