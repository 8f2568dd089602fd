/-
  NARROWER THAN 'FOR EVERY INPUT', by the rows' own cells (each row's printed sentence says how): WorldNone: laid · TapeEvents: laid · TapeWrites: laid · TapeReads: laid · TapeLong: laid · TapeParts: laid.
  DERIVED. THE GIVEN ROWS OF THIS SEAT. 6 by the template 'for every input the law returns true; each argument reads behind the call as it read before'; 0 by the template 'total and deterministic' (their statements: YtoamcpbapedofaaGreatDoorTotals.lean).
  GIVEN WITH THE SEED: the statements are not yours to turn. If you find one false, say at which input.
  Laid BY PROGRAM, IN A SANDBOX (cutbox-rows.mjs): the forced cells as the released guide's own fill.sh prints them over the translation 15511a046b014328… (all of the seat's roots in one cut). By AI agents, Wed Nov 11 2026. No macro, syntax, notation, axiom, sorry.
-/
import Derived.Test.YtoamcpbapedofaaGreatDoorChecked
import GoSem.PinnedTables
import GoSem.Claim
import GoSem.ClaimJoined
import GoSem.ClaimMapViews
import Derived.JoinedTies
import Derived.KernelRfl
namespace Go.Proofs.YtoamcpbapedofaaGreatDoor
/- THE CELL 'sum', in the pinned program and in every row, IS THE sha256 OF THE DUMP (.gsa) THAT YtoamcpbapedofaaGreatDoorProg.lean LOADS. Nothing in Lean hashes anything: it is a label: what it is worth is what the hold of that sum in a sandbox is worth. -/
noncomputable def Tryz.pinned : Pinned := { name := "ytoamcpbapedofaagreatdoor", sum := "15511a046b0143288b1e0e0438b6462c1985843a186477f5205b367a15f702c5", checked := Tryz.checked }
namespace Rows
def none {H : Type} : Left H := { results := [], args := [] }

/- WHAT THE LISTED PACKAGE-LEVEL VARIABLES READ AS WHEN THE CALL BEGINS. Each datum BY PROGRAM (the guide's laid-datum.mjs) off the statement by which the dump's own 'gosem.cut.vars' lays the variable. In a bare row this is a premise. The card (YtoamcpbapedofaaGreatDoorCards.lean) ties it to the program's text. -/
def laid_dustpan_config_limits {H : Type} : DataW H := .agg [.agg [.lit (.int .i64 1), .lit (.int .i64 4096)], .agg [.lit (.int .i64 16), .lit (.int .i64 256)], .agg [.lit (.int .i64 1), .lit (.int .i64 8)], .agg [.lit (.int .i64 1), .lit (.int .i64 64)], .agg [.lit (.int .i64 0), .lit (.int .i64 64)], .agg [.lit (.int .i64 1), .lit (.int .i64 256)], .agg [.lit (.int .i64 1), .lit (.int .i64 4096)]]
def laid_math_bits_deBruijn32tab {H : Type} : DataW H := .agg [.lit (.int .u8 0), .lit (.int .u8 1), .lit (.int .u8 28), .lit (.int .u8 2), .lit (.int .u8 29), .lit (.int .u8 14), .lit (.int .u8 24), .lit (.int .u8 3), .lit (.int .u8 30), .lit (.int .u8 22), .lit (.int .u8 20), .lit (.int .u8 15), .lit (.int .u8 25), .lit (.int .u8 17), .lit (.int .u8 4), .lit (.int .u8 8), .lit (.int .u8 31), .lit (.int .u8 27), .lit (.int .u8 13), .lit (.int .u8 23), .lit (.int .u8 21), .lit (.int .u8 19), .lit (.int .u8 16), .lit (.int .u8 7), .lit (.int .u8 26), .lit (.int .u8 12), .lit (.int .u8 18), .lit (.int .u8 6), .lit (.int .u8 11), .lit (.int .u8 5), .lit (.int .u8 10), .lit (.int .u8 9)]
def laid_math_bits_deBruijn64tab {H : Type} : DataW H := .agg [.lit (.int .u8 0), .lit (.int .u8 1), .lit (.int .u8 56), .lit (.int .u8 2), .lit (.int .u8 57), .lit (.int .u8 49), .lit (.int .u8 28), .lit (.int .u8 3), .lit (.int .u8 61), .lit (.int .u8 58), .lit (.int .u8 42), .lit (.int .u8 50), .lit (.int .u8 38), .lit (.int .u8 29), .lit (.int .u8 17), .lit (.int .u8 4), .lit (.int .u8 62), .lit (.int .u8 47), .lit (.int .u8 59), .lit (.int .u8 36), .lit (.int .u8 45), .lit (.int .u8 43), .lit (.int .u8 51), .lit (.int .u8 22), .lit (.int .u8 53), .lit (.int .u8 39), .lit (.int .u8 33), .lit (.int .u8 30), .lit (.int .u8 24), .lit (.int .u8 18), .lit (.int .u8 12), .lit (.int .u8 5), .lit (.int .u8 63), .lit (.int .u8 55), .lit (.int .u8 48), .lit (.int .u8 27), .lit (.int .u8 60), .lit (.int .u8 41), .lit (.int .u8 37), .lit (.int .u8 16), .lit (.int .u8 46), .lit (.int .u8 35), .lit (.int .u8 44), .lit (.int .u8 21), .lit (.int .u8 52), .lit (.int .u8 32), .lit (.int .u8 23), .lit (.int .u8 11), .lit (.int .u8 54), .lit (.int .u8 26), .lit (.int .u8 40), .lit (.int .u8 15), .lit (.int .u8 34), .lit (.int .u8 20), .lit (.int .u8 31), .lit (.int .u8 10), .lit (.int .u8 25), .lit (.int .u8 14), .lit (.int .u8 19), .lit (.int .u8 9), .lit (.int .u8 13), .lit (.int .u8 8), .lit (.int .u8 7), .lit (.int .u8 6)]
def laid_internal_strconv_uint64pow10 {H : Type} : DataW H := .agg [.lit (.int .u64 1), .lit (.int .u64 10), .lit (.int .u64 100), .lit (.int .u64 1000), .lit (.int .u64 10000), .lit (.int .u64 100000), .lit (.int .u64 1000000), .lit (.int .u64 10000000), .lit (.int .u64 100000000), .lit (.int .u64 1000000000), .lit (.int .u64 10000000000), .lit (.int .u64 100000000000), .lit (.int .u64 1000000000000), .lit (.int .u64 10000000000000), .lit (.int .u64 100000000000000), .lit (.int .u64 1000000000000000), .lit (.int .u64 10000000000000000), .lit (.int .u64 100000000000000000), .lit (.int .u64 1000000000000000000), .lit (.int .u64 10000000000000000000)]
def laid_unicode_utf8_acceptRanges {H : Type} : DataW H := .agg [.agg [.lit (.int .u8 128), .lit (.int .u8 191)], .agg [.lit (.int .u8 160), .lit (.int .u8 191)], .agg [.lit (.int .u8 128), .lit (.int .u8 159)], .agg [.lit (.int .u8 144), .lit (.int .u8 191)], .agg [.lit (.int .u8 128), .lit (.int .u8 143)], .agg [.lit (.int .u8 0), .lit (.int .u8 0)], .agg [.lit (.int .u8 0), .lit (.int .u8 0)], .agg [.lit (.int .u8 0), .lit (.int .u8 0)], .agg [.lit (.int .u8 0), .lit (.int .u8 0)], .agg [.lit (.int .u8 0), .lit (.int .u8 0)], .agg [.lit (.int .u8 0), .lit (.int .u8 0)], .agg [.lit (.int .u8 0), .lit (.int .u8 0)], .agg [.lit (.int .u8 0), .lit (.int .u8 0)], .agg [.lit (.int .u8 0), .lit (.int .u8 0)], .agg [.lit (.int .u8 0), .lit (.int .u8 0)], .agg [.lit (.int .u8 0), .lit (.int .u8 0)]]
def laid_strconv_ErrRange {H : Type} : DataW H := .iface "*errors.errorString" (.ptr (.agg [.lit (.string [118, 97, 108, 117, 101, 32, 111, 117, 116, 32, 111, 102, 32, 114, 97, 110, 103, 101])]))
def laid_strconv_ErrSyntax {H : Type} : DataW H := .iface "*errors.errorString" (.ptr (.agg [.lit (.string [105, 110, 118, 97, 108, 105, 100, 32, 115, 121, 110, 116, 97, 120])]))
def laid_dustpan_op_kinds {H : Type} : DataW H := .agg [.agg [.lit (.string []), .lit (.string [])], .agg [.lit (.string [97, 108, 108, 111, 99]), .lit (.string [114, 115])], .agg [.lit (.string [108, 111, 97, 100]), .lit (.string [114, 114, 102])], .agg [.lit (.string [115, 116, 111, 114, 101]), .lit (.string [114, 102, 114])], .agg [.lit (.string [103, 101, 116]), .lit (.string [114, 99])], .agg [.lit (.string [115, 101, 116]), .lit (.string [99, 114])], .agg [.lit (.string [100, 114, 111, 112]), .lit (.string [114])], .agg [.lit (.string [109, 111, 118, 101]), .lit (.string [114, 114])], .agg [.lit (.string [115, 97, 102, 101]), .lit (.string [])]]
def laid_dustpan_tape_words {H : Type} : DataW H := .agg [.lit (.string []), .lit (.string [100, 105, 100]), .lit (.string [115, 116, 97, 114, 116]), .lit (.string [109, 97, 114, 107, 101, 100]), .lit (.string [114, 101, 115, 116, 101, 100]), .lit (.string [102, 114, 101, 101, 100])]
/-- One of Go's own tables, pinned by name: the form's constant. -/
def laid_unicode_utf8_first : DataW Unit := Go.Pinned.utf8First

/-- 'dustpanlaw22.WorldNone': WHATEVER THE INPUT: true; the input reads as it did. -/
def worldNoneSpec : ChangeSpec := { name := "worldNone", fn := fun _ => fun
  | [d1, d2, d3] => { results := [.lit (.bool true)], args := [d1, d2, d3] }
  | _ => none }
def worldNoneRow : OpenClaim := { program := "ytoamcpbapedofaagreatdoor", sum := "15511a046b0143288b1e0e0438b6462c1985843a186477f5205b367a15f702c5", func := "dustpan/dustpanlaw22.WorldNone", spec := "worldNone", unfollowed := true, recurses := true, named := ["dustpan/config.limits"], apart := false, laid := [("dustpan/config.limits", laid_dustpan_config_limits)] }
def WorldNoneSaid : Prop := worldNoneRow.holds Tryz.pinned (OpenSpec.ofChange worldNoneSpec)

/-- ITS FALSE NEIGHBOUR: 'it returns false'. Refute it at one input. -/
def worldNoneWrong : ChangeSpec := { name := "worldNone", fn := fun _ => fun
  | [d1, d2, d3] => { results := [.lit (.bool false)], args := [d1, d2, d3] }
  | _ => none }
def WorldNoneWrongFalsely : Prop := worldNoneRow.holds Tryz.pinned (OpenSpec.ofChange worldNoneWrong)

/-- 'dustpanlaw27.TapeEvents': WHATEVER THE INPUT: true; the input reads as it did. -/
def tapeEventsSpec : ChangeSpec := { name := "tapeEvents", fn := fun _ => fun
  | [d1, d2] => { results := [.lit (.bool true)], args := [d1, d2] }
  | _ => none }
def tapeEventsRow : OpenClaim := { program := "ytoamcpbapedofaagreatdoor", sum := "15511a046b0143288b1e0e0438b6462c1985843a186477f5205b367a15f702c5", func := "dustpan/dustpanlaw27.TapeEvents", spec := "tapeEvents", inPlace := ["internal/bytealg.IndexByteString", "internal/bytealg.IndexString", "internal/bytealg.CountString", "internal/abi.NoEscape", "internal/bytealg.MakeNoZero"], unfollowed := true, recurses := true, named := ["internal/bytealg.MaxLen", "unicode/utf8.first", "unicode/utf8.acceptRanges", "strconv.ErrSyntax", "strconv.ErrRange", "internal/strconv.uint64pow10", "math/bits.deBruijn32tab", "math/bits.deBruijn64tab", "dustpan/config.limits", "dustpan/op.kinds", "dustpan/tape.words"], apart := false, laid := [("math/bits.deBruijn32tab", laid_math_bits_deBruijn32tab), ("math/bits.deBruijn64tab", laid_math_bits_deBruijn64tab), ("dustpan/config.limits", laid_dustpan_config_limits), ("internal/strconv.uint64pow10", laid_internal_strconv_uint64pow10), ("unicode/utf8.acceptRanges", laid_unicode_utf8_acceptRanges), ("strconv.ErrRange", laid_strconv_ErrRange), ("strconv.ErrSyntax", laid_strconv_ErrSyntax), ("dustpan/op.kinds", laid_dustpan_op_kinds), ("dustpan/tape.words", laid_dustpan_tape_words), ("unicode/utf8.first", laid_unicode_utf8_first)] }
def TapeEventsSaid : Prop := tapeEventsRow.holds Tryz.pinned (OpenSpec.ofChange tapeEventsSpec)

/-- ITS FALSE NEIGHBOUR: 'it returns false'. Refute it at one input. -/
def tapeEventsWrong : ChangeSpec := { name := "tapeEvents", fn := fun _ => fun
  | [d1, d2] => { results := [.lit (.bool false)], args := [d1, d2] }
  | _ => none }
def TapeEventsWrongFalsely : Prop := tapeEventsRow.holds Tryz.pinned (OpenSpec.ofChange tapeEventsWrong)

/-- 'dustpanlaw27.TapeWrites': WHATEVER THE INPUT: true; the input reads as it did. -/
def tapeWritesSpec : ChangeSpec := { name := "tapeWrites", fn := fun _ => fun
  | [d1, d2] => { results := [.lit (.bool true)], args := [d1, d2] }
  | _ => none }
def tapeWritesRow : OpenClaim := { program := "ytoamcpbapedofaagreatdoor", sum := "15511a046b0143288b1e0e0438b6462c1985843a186477f5205b367a15f702c5", func := "dustpan/dustpanlaw27.TapeWrites", spec := "tapeWrites", inPlace := ["internal/bytealg.IndexByteString", "internal/bytealg.IndexString", "internal/bytealg.CountString", "internal/abi.NoEscape", "internal/bytealg.MakeNoZero"], unfollowed := true, recurses := true, named := ["internal/bytealg.MaxLen", "unicode/utf8.first", "unicode/utf8.acceptRanges", "strconv.ErrSyntax", "strconv.ErrRange", "internal/strconv.uint64pow10", "math/bits.deBruijn32tab", "math/bits.deBruijn64tab", "dustpan/config.limits", "dustpan/op.kinds", "dustpan/tape.words"], apart := false, laid := [("math/bits.deBruijn32tab", laid_math_bits_deBruijn32tab), ("math/bits.deBruijn64tab", laid_math_bits_deBruijn64tab), ("dustpan/config.limits", laid_dustpan_config_limits), ("internal/strconv.uint64pow10", laid_internal_strconv_uint64pow10), ("unicode/utf8.acceptRanges", laid_unicode_utf8_acceptRanges), ("strconv.ErrRange", laid_strconv_ErrRange), ("strconv.ErrSyntax", laid_strconv_ErrSyntax), ("dustpan/op.kinds", laid_dustpan_op_kinds), ("dustpan/tape.words", laid_dustpan_tape_words), ("unicode/utf8.first", laid_unicode_utf8_first)] }
def TapeWritesSaid : Prop := tapeWritesRow.holds Tryz.pinned (OpenSpec.ofChange tapeWritesSpec)

/-- ITS FALSE NEIGHBOUR: 'it returns false'. Refute it at one input. -/
def tapeWritesWrong : ChangeSpec := { name := "tapeWrites", fn := fun _ => fun
  | [d1, d2] => { results := [.lit (.bool false)], args := [d1, d2] }
  | _ => none }
def TapeWritesWrongFalsely : Prop := tapeWritesRow.holds Tryz.pinned (OpenSpec.ofChange tapeWritesWrong)

/-- 'dustpanlaw27.TapeReads': WHATEVER THE INPUT: true; the input reads as it did. -/
def tapeReadsSpec : ChangeSpec := { name := "tapeReads", fn := fun _ => fun
  | [d] => { results := [.lit (.bool true)], args := [d] }
  | _ => none }
def tapeReadsRow : OpenClaim := { program := "ytoamcpbapedofaagreatdoor", sum := "15511a046b0143288b1e0e0438b6462c1985843a186477f5205b367a15f702c5", func := "dustpan/dustpanlaw27.TapeReads", spec := "tapeReads", inPlace := ["internal/bytealg.IndexByteString", "internal/bytealg.IndexString", "internal/bytealg.CountString", "internal/abi.NoEscape", "internal/bytealg.MakeNoZero"], unfollowed := true, recurses := true, named := ["internal/bytealg.MaxLen", "unicode/utf8.first", "unicode/utf8.acceptRanges", "strconv.ErrSyntax", "strconv.ErrRange", "internal/strconv.uint64pow10", "math/bits.deBruijn32tab", "math/bits.deBruijn64tab", "dustpan/config.limits", "dustpan/op.kinds", "dustpan/tape.words"], apart := false, laid := [("math/bits.deBruijn32tab", laid_math_bits_deBruijn32tab), ("math/bits.deBruijn64tab", laid_math_bits_deBruijn64tab), ("dustpan/config.limits", laid_dustpan_config_limits), ("internal/strconv.uint64pow10", laid_internal_strconv_uint64pow10), ("unicode/utf8.acceptRanges", laid_unicode_utf8_acceptRanges), ("strconv.ErrRange", laid_strconv_ErrRange), ("strconv.ErrSyntax", laid_strconv_ErrSyntax), ("dustpan/op.kinds", laid_dustpan_op_kinds), ("dustpan/tape.words", laid_dustpan_tape_words), ("unicode/utf8.first", laid_unicode_utf8_first)] }
def TapeReadsSaid : Prop := tapeReadsRow.holds Tryz.pinned (OpenSpec.ofChange tapeReadsSpec)

/-- ITS FALSE NEIGHBOUR: 'it returns false'. Refute it at one input. -/
def tapeReadsWrong : ChangeSpec := { name := "tapeReads", fn := fun _ => fun
  | [d] => { results := [.lit (.bool false)], args := [d] }
  | _ => none }
def TapeReadsWrongFalsely : Prop := tapeReadsRow.holds Tryz.pinned (OpenSpec.ofChange tapeReadsWrong)

/-- 'dustpanlaw27.TapeLong': WHATEVER THE INPUT: true; the input reads as it did. -/
def tapeLongSpec : ChangeSpec := { name := "tapeLong", fn := fun _ => fun
  | [d] => { results := [.lit (.bool true)], args := [d] }
  | _ => none }
def tapeLongRow : OpenClaim := { program := "ytoamcpbapedofaagreatdoor", sum := "15511a046b0143288b1e0e0438b6462c1985843a186477f5205b367a15f702c5", func := "dustpan/dustpanlaw27.TapeLong", spec := "tapeLong", inPlace := ["internal/bytealg.IndexByteString", "internal/bytealg.IndexString", "internal/bytealg.CountString", "internal/abi.NoEscape", "internal/bytealg.MakeNoZero"], unfollowed := true, recurses := true, named := ["internal/bytealg.MaxLen", "unicode/utf8.first", "unicode/utf8.acceptRanges", "strconv.ErrSyntax", "strconv.ErrRange", "internal/strconv.uint64pow10", "math/bits.deBruijn32tab", "math/bits.deBruijn64tab", "dustpan/config.limits", "dustpan/op.kinds", "dustpan/tape.words"], apart := false, laid := [("math/bits.deBruijn32tab", laid_math_bits_deBruijn32tab), ("math/bits.deBruijn64tab", laid_math_bits_deBruijn64tab), ("dustpan/config.limits", laid_dustpan_config_limits), ("internal/strconv.uint64pow10", laid_internal_strconv_uint64pow10), ("unicode/utf8.acceptRanges", laid_unicode_utf8_acceptRanges), ("strconv.ErrRange", laid_strconv_ErrRange), ("strconv.ErrSyntax", laid_strconv_ErrSyntax), ("dustpan/op.kinds", laid_dustpan_op_kinds), ("dustpan/tape.words", laid_dustpan_tape_words), ("unicode/utf8.first", laid_unicode_utf8_first)] }
def TapeLongSaid : Prop := tapeLongRow.holds Tryz.pinned (OpenSpec.ofChange tapeLongSpec)

/-- ITS FALSE NEIGHBOUR: 'it returns false'. Refute it at one input. -/
def tapeLongWrong : ChangeSpec := { name := "tapeLong", fn := fun _ => fun
  | [d] => { results := [.lit (.bool false)], args := [d] }
  | _ => none }
def TapeLongWrongFalsely : Prop := tapeLongRow.holds Tryz.pinned (OpenSpec.ofChange tapeLongWrong)

/-- 'dustpanlaw27.TapeParts': WHATEVER THE INPUT: true; the input reads as it did. -/
def tapePartsSpec : ChangeSpec := { name := "tapeParts", fn := fun _ => fun
  | [d1, d2] => { results := [.lit (.bool true)], args := [d1, d2] }
  | _ => none }
def tapePartsRow : OpenClaim := { program := "ytoamcpbapedofaagreatdoor", sum := "15511a046b0143288b1e0e0438b6462c1985843a186477f5205b367a15f702c5", func := "dustpan/dustpanlaw27.TapeParts", spec := "tapeParts", inPlace := ["internal/bytealg.IndexByteString", "internal/bytealg.IndexString", "internal/bytealg.CountString", "internal/abi.NoEscape", "internal/bytealg.MakeNoZero"], unfollowed := true, recurses := true, named := ["internal/bytealg.MaxLen", "unicode/utf8.first", "unicode/utf8.acceptRanges", "strconv.ErrSyntax", "strconv.ErrRange", "internal/strconv.uint64pow10", "math/bits.deBruijn32tab", "math/bits.deBruijn64tab", "dustpan/config.limits", "dustpan/op.kinds", "dustpan/tape.words"], apart := false, laid := [("math/bits.deBruijn32tab", laid_math_bits_deBruijn32tab), ("math/bits.deBruijn64tab", laid_math_bits_deBruijn64tab), ("dustpan/config.limits", laid_dustpan_config_limits), ("internal/strconv.uint64pow10", laid_internal_strconv_uint64pow10), ("unicode/utf8.acceptRanges", laid_unicode_utf8_acceptRanges), ("strconv.ErrRange", laid_strconv_ErrRange), ("strconv.ErrSyntax", laid_strconv_ErrSyntax), ("dustpan/op.kinds", laid_dustpan_op_kinds), ("dustpan/tape.words", laid_dustpan_tape_words), ("unicode/utf8.first", laid_unicode_utf8_first)] }
def TapePartsSaid : Prop := tapePartsRow.holds Tryz.pinned (OpenSpec.ofChange tapePartsSpec)

/-- ITS FALSE NEIGHBOUR: 'it returns false'. Refute it at one input. -/
def tapePartsWrong : ChangeSpec := { name := "tapeParts", fn := fun _ => fun
  | [d1, d2] => { results := [.lit (.bool false)], args := [d1, d2] }
  | _ => none }
def TapePartsWrongFalsely : Prop := tapePartsRow.holds Tryz.pinned (OpenSpec.ofChange tapePartsWrong)

/- THE SECOND FORM. 'bulk': how many values and letters a reading holds, each counted each time it is reached (what is shared counts as often as it is met; a slice's spare places count too). A statement '..UptoSaid' is the law's where the arguments, and the package variables that the reading takes, are together of bulk at most 1048576: NARROWER than '..Said'. Prove '..Said' where nothing that the law and all that it calls make is longer than what came in: it says more and counts as full. Else prove '..UptoSaid'. A law counts once. -/
mutual
def uptoBulk {H : Type} : DataW H → Nat
  | .lit (.string bytes) => bytes.length + 1
  | .lit _ => 1
  | .nil => 1
  | .ptr d => uptoBulk d + 1
  | .slice elems spare => uptoBulkAll elems + uptoBulkAll spare + 1
  | .agg parts => uptoBulkAll parts + 1
  | .iface _ d => uptoBulk d + 1
  | .map entries => uptoBulkEntries entries + 1
  | .held _ => 1
def uptoBulkAll {H : Type} : List (DataW H) → Nat
  | [] => 0
  | d :: r => uptoBulk d + uptoBulkAll r
def uptoBulkEntries {H : Type} : List (Lit × DataW H) → Nat
  | [] => 0
  | x :: r => uptoBulkEntry x + uptoBulkEntries r
def uptoBulkEntry {H : Type} : Lit × DataW H → Nat
  | (.string bytes, d) => bytes.length + uptoBulk d + 1
  | (_, d) => uptoBulk d + 1
 end
def uptoSmall : (H : Type) → List (DataW H) → Bool := fun _ ds => decide (uptoBulkAll ds ≤ 1048576)
def OpenSpec.upto (s : _root_.Go.ChangeSpec) : _root_.Go.OpenSpec := { _root_.Go.OpenSpec.ofChange s with cond := some uptoSmall }

/-- 'dustpanlaw22.WorldNone', WHERE WHAT IT READS IS OF BULK AT MOST 1048576: true; the input reads as it did. -/
def worldNoneUptoRow : OpenClaim := { program := "ytoamcpbapedofaagreatdoor", sum := "15511a046b0143288b1e0e0438b6462c1985843a186477f5205b367a15f702c5", func := "dustpan/dustpanlaw22.WorldNone", spec := "worldNone", unfollowed := true, recurses := true, named := ["dustpan/config.limits"], apart := false, laid := [("dustpan/config.limits", laid_dustpan_config_limits)], narrowed := true }
def WorldNoneUptoSaid : Prop := worldNoneUptoRow.holds Tryz.pinned (OpenSpec.upto worldNoneSpec)

/-- 'dustpanlaw27.TapeEvents', WHERE WHAT IT READS IS OF BULK AT MOST 1048576: true; the input reads as it did. -/
def tapeEventsUptoRow : OpenClaim := { program := "ytoamcpbapedofaagreatdoor", sum := "15511a046b0143288b1e0e0438b6462c1985843a186477f5205b367a15f702c5", func := "dustpan/dustpanlaw27.TapeEvents", spec := "tapeEvents", inPlace := ["internal/bytealg.IndexByteString", "internal/bytealg.IndexString", "internal/bytealg.CountString", "internal/abi.NoEscape", "internal/bytealg.MakeNoZero"], unfollowed := true, recurses := true, named := ["internal/bytealg.MaxLen", "unicode/utf8.first", "unicode/utf8.acceptRanges", "strconv.ErrSyntax", "strconv.ErrRange", "internal/strconv.uint64pow10", "math/bits.deBruijn32tab", "math/bits.deBruijn64tab", "dustpan/config.limits", "dustpan/op.kinds", "dustpan/tape.words"], apart := false, laid := [("math/bits.deBruijn32tab", laid_math_bits_deBruijn32tab), ("math/bits.deBruijn64tab", laid_math_bits_deBruijn64tab), ("dustpan/config.limits", laid_dustpan_config_limits), ("internal/strconv.uint64pow10", laid_internal_strconv_uint64pow10), ("unicode/utf8.acceptRanges", laid_unicode_utf8_acceptRanges), ("strconv.ErrRange", laid_strconv_ErrRange), ("strconv.ErrSyntax", laid_strconv_ErrSyntax), ("dustpan/op.kinds", laid_dustpan_op_kinds), ("dustpan/tape.words", laid_dustpan_tape_words), ("unicode/utf8.first", laid_unicode_utf8_first)], narrowed := true }
def TapeEventsUptoSaid : Prop := tapeEventsUptoRow.holds Tryz.pinned (OpenSpec.upto tapeEventsSpec)

/-- 'dustpanlaw27.TapeWrites', WHERE WHAT IT READS IS OF BULK AT MOST 1048576: true; the input reads as it did. -/
def tapeWritesUptoRow : OpenClaim := { program := "ytoamcpbapedofaagreatdoor", sum := "15511a046b0143288b1e0e0438b6462c1985843a186477f5205b367a15f702c5", func := "dustpan/dustpanlaw27.TapeWrites", spec := "tapeWrites", inPlace := ["internal/bytealg.IndexByteString", "internal/bytealg.IndexString", "internal/bytealg.CountString", "internal/abi.NoEscape", "internal/bytealg.MakeNoZero"], unfollowed := true, recurses := true, named := ["internal/bytealg.MaxLen", "unicode/utf8.first", "unicode/utf8.acceptRanges", "strconv.ErrSyntax", "strconv.ErrRange", "internal/strconv.uint64pow10", "math/bits.deBruijn32tab", "math/bits.deBruijn64tab", "dustpan/config.limits", "dustpan/op.kinds", "dustpan/tape.words"], apart := false, laid := [("math/bits.deBruijn32tab", laid_math_bits_deBruijn32tab), ("math/bits.deBruijn64tab", laid_math_bits_deBruijn64tab), ("dustpan/config.limits", laid_dustpan_config_limits), ("internal/strconv.uint64pow10", laid_internal_strconv_uint64pow10), ("unicode/utf8.acceptRanges", laid_unicode_utf8_acceptRanges), ("strconv.ErrRange", laid_strconv_ErrRange), ("strconv.ErrSyntax", laid_strconv_ErrSyntax), ("dustpan/op.kinds", laid_dustpan_op_kinds), ("dustpan/tape.words", laid_dustpan_tape_words), ("unicode/utf8.first", laid_unicode_utf8_first)], narrowed := true }
def TapeWritesUptoSaid : Prop := tapeWritesUptoRow.holds Tryz.pinned (OpenSpec.upto tapeWritesSpec)

/-- 'dustpanlaw27.TapeReads', WHERE WHAT IT READS IS OF BULK AT MOST 1048576: true; the input reads as it did. -/
def tapeReadsUptoRow : OpenClaim := { program := "ytoamcpbapedofaagreatdoor", sum := "15511a046b0143288b1e0e0438b6462c1985843a186477f5205b367a15f702c5", func := "dustpan/dustpanlaw27.TapeReads", spec := "tapeReads", inPlace := ["internal/bytealg.IndexByteString", "internal/bytealg.IndexString", "internal/bytealg.CountString", "internal/abi.NoEscape", "internal/bytealg.MakeNoZero"], unfollowed := true, recurses := true, named := ["internal/bytealg.MaxLen", "unicode/utf8.first", "unicode/utf8.acceptRanges", "strconv.ErrSyntax", "strconv.ErrRange", "internal/strconv.uint64pow10", "math/bits.deBruijn32tab", "math/bits.deBruijn64tab", "dustpan/config.limits", "dustpan/op.kinds", "dustpan/tape.words"], apart := false, laid := [("math/bits.deBruijn32tab", laid_math_bits_deBruijn32tab), ("math/bits.deBruijn64tab", laid_math_bits_deBruijn64tab), ("dustpan/config.limits", laid_dustpan_config_limits), ("internal/strconv.uint64pow10", laid_internal_strconv_uint64pow10), ("unicode/utf8.acceptRanges", laid_unicode_utf8_acceptRanges), ("strconv.ErrRange", laid_strconv_ErrRange), ("strconv.ErrSyntax", laid_strconv_ErrSyntax), ("dustpan/op.kinds", laid_dustpan_op_kinds), ("dustpan/tape.words", laid_dustpan_tape_words), ("unicode/utf8.first", laid_unicode_utf8_first)], narrowed := true }
def TapeReadsUptoSaid : Prop := tapeReadsUptoRow.holds Tryz.pinned (OpenSpec.upto tapeReadsSpec)

/-- 'dustpanlaw27.TapeLong', WHERE WHAT IT READS IS OF BULK AT MOST 1048576: true; the input reads as it did. -/
def tapeLongUptoRow : OpenClaim := { program := "ytoamcpbapedofaagreatdoor", sum := "15511a046b0143288b1e0e0438b6462c1985843a186477f5205b367a15f702c5", func := "dustpan/dustpanlaw27.TapeLong", spec := "tapeLong", inPlace := ["internal/bytealg.IndexByteString", "internal/bytealg.IndexString", "internal/bytealg.CountString", "internal/abi.NoEscape", "internal/bytealg.MakeNoZero"], unfollowed := true, recurses := true, named := ["internal/bytealg.MaxLen", "unicode/utf8.first", "unicode/utf8.acceptRanges", "strconv.ErrSyntax", "strconv.ErrRange", "internal/strconv.uint64pow10", "math/bits.deBruijn32tab", "math/bits.deBruijn64tab", "dustpan/config.limits", "dustpan/op.kinds", "dustpan/tape.words"], apart := false, laid := [("math/bits.deBruijn32tab", laid_math_bits_deBruijn32tab), ("math/bits.deBruijn64tab", laid_math_bits_deBruijn64tab), ("dustpan/config.limits", laid_dustpan_config_limits), ("internal/strconv.uint64pow10", laid_internal_strconv_uint64pow10), ("unicode/utf8.acceptRanges", laid_unicode_utf8_acceptRanges), ("strconv.ErrRange", laid_strconv_ErrRange), ("strconv.ErrSyntax", laid_strconv_ErrSyntax), ("dustpan/op.kinds", laid_dustpan_op_kinds), ("dustpan/tape.words", laid_dustpan_tape_words), ("unicode/utf8.first", laid_unicode_utf8_first)], narrowed := true }
def TapeLongUptoSaid : Prop := tapeLongUptoRow.holds Tryz.pinned (OpenSpec.upto tapeLongSpec)

/-- 'dustpanlaw27.TapeParts', WHERE WHAT IT READS IS OF BULK AT MOST 1048576: true; the input reads as it did. -/
def tapePartsUptoRow : OpenClaim := { program := "ytoamcpbapedofaagreatdoor", sum := "15511a046b0143288b1e0e0438b6462c1985843a186477f5205b367a15f702c5", func := "dustpan/dustpanlaw27.TapeParts", spec := "tapeParts", inPlace := ["internal/bytealg.IndexByteString", "internal/bytealg.IndexString", "internal/bytealg.CountString", "internal/abi.NoEscape", "internal/bytealg.MakeNoZero"], unfollowed := true, recurses := true, named := ["internal/bytealg.MaxLen", "unicode/utf8.first", "unicode/utf8.acceptRanges", "strconv.ErrSyntax", "strconv.ErrRange", "internal/strconv.uint64pow10", "math/bits.deBruijn32tab", "math/bits.deBruijn64tab", "dustpan/config.limits", "dustpan/op.kinds", "dustpan/tape.words"], apart := false, laid := [("math/bits.deBruijn32tab", laid_math_bits_deBruijn32tab), ("math/bits.deBruijn64tab", laid_math_bits_deBruijn64tab), ("dustpan/config.limits", laid_dustpan_config_limits), ("internal/strconv.uint64pow10", laid_internal_strconv_uint64pow10), ("unicode/utf8.acceptRanges", laid_unicode_utf8_acceptRanges), ("strconv.ErrRange", laid_strconv_ErrRange), ("strconv.ErrSyntax", laid_strconv_ErrSyntax), ("dustpan/op.kinds", laid_dustpan_op_kinds), ("dustpan/tape.words", laid_dustpan_tape_words), ("unicode/utf8.first", laid_unicode_utf8_first)], narrowed := true }
def TapePartsUptoSaid : Prop := tapePartsUptoRow.holds Tryz.pinned (OpenSpec.upto tapePartsSpec)

end Rows
end Go.Proofs.YtoamcpbapedofaaGreatDoor
