/-
  NARROWER THAN 'FOR EVERY INPUT', by the rows' own cells (each row's printed sentence says how): ReplayNone: laid.
  DERIVED. THE GIVEN ROWS OF THIS SEAT. 1 by the template 'for every input the law returns true; each argument reads behind the call as it read before'; 0 by the template 'total and deterministic' (their statements: YtkjplkkjdlanhaaGreatDoorTotals.lean).
  GIVEN WITH THE SEED: the statements are not yours to turn. If you find one false, say at which input.
  Laid BY PROGRAM, IN A SANDBOX (cutbox-rows.mjs): the forced cells as the released guide's own fill.sh prints them over the translation 5e9818cc719e3524… (all of the seat's roots in one cut). By AI agents, Wed Nov 11 2026. No macro, syntax, notation, axiom, sorry.
-/
import Derived.Test.YtkjplkkjdlanhaaGreatDoorChecked
import GoSem.Claim
import GoSem.ClaimJoined
import GoSem.ClaimMapViews
import Derived.JoinedTies
import Derived.KernelRfl
namespace Go.Proofs.YtkjplkkjdlanhaaGreatDoor
/- THE CELL 'sum', in the pinned program and in every row, IS THE sha256 OF THE DUMP (.gsa) THAT YtkjplkkjdlanhaaGreatDoorProg.lean LOADS. Nothing in Lean hashes anything: it is a label: what it is worth is what the hold of that sum in a sandbox is worth. -/
noncomputable def Tryz.pinned : Pinned := { name := "ytkjplkkjdlanhaagreatdoor", sum := "5e9818cc719e352499b0b54a18bcbe64f2f308603ce27dfda10e1cd70ac5f40b", checked := Tryz.checked }
namespace Rows
def none {H : Type} : Left H := { results := [], args := [] }

/- WHAT THE LISTED PACKAGE-LEVEL VARIABLES READ AS WHEN THE CALL BEGINS. Each datum BY PROGRAM (the guide's laid-datum.mjs) off the statement by which the dump's own 'gosem.cut.vars' lays the variable. In a bare row this is a premise. The card (YtkjplkkjdlanhaaGreatDoorCards.lean) ties it to the program's text. -/
def laid_dustpan_config_limits {H : Type} : DataW H := .agg [.agg [.lit (.int .i64 1), .lit (.int .i64 4096)], .agg [.lit (.int .i64 16), .lit (.int .i64 256)], .agg [.lit (.int .i64 1), .lit (.int .i64 8)], .agg [.lit (.int .i64 1), .lit (.int .i64 64)], .agg [.lit (.int .i64 0), .lit (.int .i64 64)], .agg [.lit (.int .i64 1), .lit (.int .i64 256)], .agg [.lit (.int .i64 1), .lit (.int .i64 4096)]]
def laid_dustpan_class_sizes {H : Type} : DataW H := .agg [.lit (.int .i64 2), .lit (.int .i64 4), .lit (.int .i64 8), .lit (.int .i64 16)]
def laid_dustpan_op_kinds {H : Type} : DataW H := .agg [.agg [.lit (.string []), .lit (.string [])], .agg [.lit (.string [97, 108, 108, 111, 99]), .lit (.string [114, 115])], .agg [.lit (.string [108, 111, 97, 100]), .lit (.string [114, 114, 102])], .agg [.lit (.string [115, 116, 111, 114, 101]), .lit (.string [114, 102, 114])], .agg [.lit (.string [103, 101, 116]), .lit (.string [114, 99])], .agg [.lit (.string [115, 101, 116]), .lit (.string [99, 114])], .agg [.lit (.string [100, 114, 111, 112]), .lit (.string [114])], .agg [.lit (.string [109, 111, 118, 101]), .lit (.string [114, 114])], .agg [.lit (.string [115, 97, 102, 101]), .lit (.string [])]]

/-- 'dustpanlaw25.ReplayNone': WHATEVER THE INPUT: true; the input reads as it did. -/
def replayNoneSpec : ChangeSpec := { name := "replayNone", fn := fun _ => fun
  | [d1, d2, d3] => { results := [.lit (.bool true)], args := [d1, d2, d3] }
  | _ => none }
def replayNoneRow : OpenClaim := { program := "ytkjplkkjdlanhaagreatdoor", sum := "5e9818cc719e352499b0b54a18bcbe64f2f308603ce27dfda10e1cd70ac5f40b", func := "dustpan/dustpanlaw25.ReplayNone", spec := "replayNone", unfollowed := true, recurses := true, named := ["dustpan/config.limits", "dustpan/op.kinds", "dustpan/class.sizes"], apart := false, laid := [("dustpan/config.limits", laid_dustpan_config_limits), ("dustpan/class.sizes", laid_dustpan_class_sizes), ("dustpan/op.kinds", laid_dustpan_op_kinds)] }
def ReplayNoneSaid : Prop := replayNoneRow.holds Tryz.pinned (OpenSpec.ofChange replayNoneSpec)

/-- ITS FALSE NEIGHBOUR: 'it returns false'. Refute it at one input. -/
def replayNoneWrong : ChangeSpec := { name := "replayNone", fn := fun _ => fun
  | [d1, d2, d3] => { results := [.lit (.bool false)], args := [d1, d2, d3] }
  | _ => none }
def ReplayNoneWrongFalsely : Prop := replayNoneRow.holds Tryz.pinned (OpenSpec.ofChange replayNoneWrong)

/- THE SECOND FORM. 'bulk': how many values and letters a reading holds, each counted each time it is reached (what is shared counts as often as it is met; a slice's spare places count too). A statement '..UptoSaid' is the law's where the arguments, and the package variables that the reading takes, are together of bulk at most 1048576: NARROWER than '..Said'. Prove '..Said' where nothing that the law and all that it calls make is longer than what came in: it says more and counts as full. Else prove '..UptoSaid'. A law counts once. -/
mutual
def uptoBulk {H : Type} : DataW H → Nat
  | .lit (.string bytes) => bytes.length + 1
  | .lit _ => 1
  | .nil => 1
  | .ptr d => uptoBulk d + 1
  | .slice elems spare => uptoBulkAll elems + uptoBulkAll spare + 1
  | .agg parts => uptoBulkAll parts + 1
  | .iface _ d => uptoBulk d + 1
  | .map entries => uptoBulkEntries entries + 1
  | .held _ => 1
def uptoBulkAll {H : Type} : List (DataW H) → Nat
  | [] => 0
  | d :: r => uptoBulk d + uptoBulkAll r
def uptoBulkEntries {H : Type} : List (Lit × DataW H) → Nat
  | [] => 0
  | x :: r => uptoBulkEntry x + uptoBulkEntries r
def uptoBulkEntry {H : Type} : Lit × DataW H → Nat
  | (.string bytes, d) => bytes.length + uptoBulk d + 1
  | (_, d) => uptoBulk d + 1
 end
def uptoSmall : (H : Type) → List (DataW H) → Bool := fun _ ds => decide (uptoBulkAll ds ≤ 1048576)
def OpenSpec.upto (s : _root_.Go.ChangeSpec) : _root_.Go.OpenSpec := { _root_.Go.OpenSpec.ofChange s with cond := some uptoSmall }

/-- 'dustpanlaw25.ReplayNone', WHERE WHAT IT READS IS OF BULK AT MOST 1048576: true; the input reads as it did. -/
def replayNoneUptoRow : OpenClaim := { program := "ytkjplkkjdlanhaagreatdoor", sum := "5e9818cc719e352499b0b54a18bcbe64f2f308603ce27dfda10e1cd70ac5f40b", func := "dustpan/dustpanlaw25.ReplayNone", spec := "replayNone", unfollowed := true, recurses := true, named := ["dustpan/config.limits", "dustpan/op.kinds", "dustpan/class.sizes"], apart := false, laid := [("dustpan/config.limits", laid_dustpan_config_limits), ("dustpan/class.sizes", laid_dustpan_class_sizes), ("dustpan/op.kinds", laid_dustpan_op_kinds)], narrowed := true }
def ReplayNoneUptoSaid : Prop := replayNoneUptoRow.holds Tryz.pinned (OpenSpec.upto replayNoneSpec)

end Rows
end Go.Proofs.YtkjplkkjdlanhaaGreatDoor
