/-
  No cell of these rows narrows 'for every input' (looked for: loops, veiled, ifaces, maps, wideKeys, modest, calm, conditions, laid).
  DERIVED. THE GIVEN ROWS OF THIS SEAT. 13 by the template 'for every input the law returns true; each argument reads behind the call as it read before'; 0 by the template 'total and deterministic' (their statements: YtcdmlinaebnbcaaTotals.lean).
  GIVEN WITH THE SEED: the statements are not yours to turn. If you find one false, say at which input.
  Laid BY PROGRAM, IN A SANDBOX (cutbox-rows.mjs): the forced cells as the released guide's own fill.sh prints them over the translation a99fc31c70a4cd48… (all of the seat's roots in one cut). By AI agents, Wed Nov 11 2026. No macro, syntax, notation, axiom, sorry.
-/
import Derived.Test.YtcdmlinaebnbcaaChecked
import GoSem.Claim
import GoSem.ClaimJoined
import GoSem.ClaimMapViews
import Derived.JoinedTies
import Derived.KernelRfl
namespace Go.Proofs.Ytcdmlinaebnbcaa
/- THE CELL 'sum', in the pinned program and in every row, IS THE sha256 OF THE DUMP (.gsa) THAT YtcdmlinaebnbcaaProg.lean LOADS. Nothing in Lean hashes anything: it is a label: what it is worth is what the hold of that sum in a sandbox is worth. -/
noncomputable def Try.pinned : Pinned := { name := "ytcdmlinaebnbcaa", sum := "a99fc31c70a4cd48c11feca0a6dbec0a6fc914265e15f0cedb61d4c2bca25da8", checked := Try.checked }
namespace Rows
def none {H : Type} : Left H := { results := [], args := [] }

/-- 'dustpanlaw24.FairWindows': WHATEVER THE INPUT: true; the input reads as it did. -/
def fairWindowsSpec : ChangeSpec := { name := "fairWindows", fn := fun _ => fun
  | [d1, d2, d3] => { results := [.lit (.bool true)], args := [d1, d2, d3] }
  | _ => none }
def fairWindowsRow : OpenClaim := { program := "ytcdmlinaebnbcaa", sum := "a99fc31c70a4cd48c11feca0a6dbec0a6fc914265e15f0cedb61d4c2bca25da8", func := "dustpan/dustpanlaw24.FairWindows", spec := "fairWindows", unfollowed := true, recurses := true, apart := false }
def FairWindowsSaid : Prop := fairWindowsRow.holds Try.pinned (OpenSpec.ofChange fairWindowsSpec)

/-- ITS FALSE NEIGHBOUR: 'it returns false'. Refute it at one input. -/
def fairWindowsWrong : ChangeSpec := { name := "fairWindows", fn := fun _ => fun
  | [d1, d2, d3] => { results := [.lit (.bool false)], args := [d1, d2, d3] }
  | _ => none }
def FairWindowsWrongFalsely : Prop := fairWindowsRow.holds Try.pinned (OpenSpec.ofChange fairWindowsWrong)

/-- 'dustpanlaw12.BoardRounds': WHATEVER THE INPUT: true; the input reads as it did. -/
def boardRoundsSpec : ChangeSpec := { name := "boardRounds", fn := fun _ => fun
  | [d1, d2, d3] => { results := [.lit (.bool true)], args := [d1, d2, d3] }
  | _ => none }
def boardRoundsRow : OpenClaim := { program := "ytcdmlinaebnbcaa", sum := "a99fc31c70a4cd48c11feca0a6dbec0a6fc914265e15f0cedb61d4c2bca25da8", func := "dustpan/dustpanlaw12.BoardRounds", spec := "boardRounds", unfollowed := true, recurses := true, apart := false }
def BoardRoundsSaid : Prop := boardRoundsRow.holds Try.pinned (OpenSpec.ofChange boardRoundsSpec)

/-- ITS FALSE NEIGHBOUR: 'it returns false'. Refute it at one input. -/
def boardRoundsWrong : ChangeSpec := { name := "boardRounds", fn := fun _ => fun
  | [d1, d2, d3] => { results := [.lit (.bool false)], args := [d1, d2, d3] }
  | _ => none }
def BoardRoundsWrongFalsely : Prop := boardRoundsRow.holds Try.pinned (OpenSpec.ofChange boardRoundsWrong)

/-- 'dustpanlaw12.BoardKinds': WHATEVER THE INPUT: true; the input reads as it did. -/
def boardKindsSpec : ChangeSpec := { name := "boardKinds", fn := fun _ => fun
  | [d1, d2, d3] => { results := [.lit (.bool true)], args := [d1, d2, d3] }
  | _ => none }
def boardKindsRow : OpenClaim := { program := "ytcdmlinaebnbcaa", sum := "a99fc31c70a4cd48c11feca0a6dbec0a6fc914265e15f0cedb61d4c2bca25da8", func := "dustpan/dustpanlaw12.BoardKinds", spec := "boardKinds", unfollowed := true, recurses := true, apart := false }
def BoardKindsSaid : Prop := boardKindsRow.holds Try.pinned (OpenSpec.ofChange boardKindsSpec)

/-- ITS FALSE NEIGHBOUR: 'it returns false'. Refute it at one input. -/
def boardKindsWrong : ChangeSpec := { name := "boardKinds", fn := fun _ => fun
  | [d1, d2, d3] => { results := [.lit (.bool false)], args := [d1, d2, d3] }
  | _ => none }
def BoardKindsWrongFalsely : Prop := boardKindsRow.holds Try.pinned (OpenSpec.ofChange boardKindsWrong)

/-- 'dustpanlaw12.BoardPlays': WHATEVER THE INPUT: true; the input reads as it did. -/
def boardPlaysSpec : ChangeSpec := { name := "boardPlays", fn := fun _ => fun
  | [d1, d2] => { results := [.lit (.bool true)], args := [d1, d2] }
  | _ => none }
def boardPlaysRow : OpenClaim := { program := "ytcdmlinaebnbcaa", sum := "a99fc31c70a4cd48c11feca0a6dbec0a6fc914265e15f0cedb61d4c2bca25da8", func := "dustpan/dustpanlaw12.BoardPlays", spec := "boardPlays", unfollowed := true, recurses := true, apart := false }
def BoardPlaysSaid : Prop := boardPlaysRow.holds Try.pinned (OpenSpec.ofChange boardPlaysSpec)

/-- ITS FALSE NEIGHBOUR: 'it returns false'. Refute it at one input. -/
def boardPlaysWrong : ChangeSpec := { name := "boardPlays", fn := fun _ => fun
  | [d1, d2] => { results := [.lit (.bool false)], args := [d1, d2] }
  | _ => none }
def BoardPlaysWrongFalsely : Prop := boardPlaysRow.holds Try.pinned (OpenSpec.ofChange boardPlaysWrong)

/-- 'dustpanlaw12.BoardNone': WHATEVER THE INPUT: true; the input reads as it did. -/
def boardNoneSpec : ChangeSpec := { name := "boardNone", fn := fun _ => fun
  | [d1, d2] => { results := [.lit (.bool true)], args := [d1, d2] }
  | _ => none }
def boardNoneRow : OpenClaim := { program := "ytcdmlinaebnbcaa", sum := "a99fc31c70a4cd48c11feca0a6dbec0a6fc914265e15f0cedb61d4c2bca25da8", func := "dustpan/dustpanlaw12.BoardNone", spec := "boardNone", unfollowed := true, recurses := true, apart := false }
def BoardNoneSaid : Prop := boardNoneRow.holds Try.pinned (OpenSpec.ofChange boardNoneSpec)

/-- ITS FALSE NEIGHBOUR: 'it returns false'. Refute it at one input. -/
def boardNoneWrong : ChangeSpec := { name := "boardNone", fn := fun _ => fun
  | [d1, d2] => { results := [.lit (.bool false)], args := [d1, d2] }
  | _ => none }
def BoardNoneWrongFalsely : Prop := boardNoneRow.holds Try.pinned (OpenSpec.ofChange boardNoneWrong)

/-- 'dustpanlaw14.QueuePlays': WHATEVER THE INPUT: true; the input reads as it did. -/
def queuePlaysSpec : ChangeSpec := { name := "queuePlays", fn := fun _ => fun
  | [d] => { results := [.lit (.bool true)], args := [d] }
  | _ => none }
def queuePlaysRow : OpenClaim := { program := "ytcdmlinaebnbcaa", sum := "a99fc31c70a4cd48c11feca0a6dbec0a6fc914265e15f0cedb61d4c2bca25da8", func := "dustpan/dustpanlaw14.QueuePlays", spec := "queuePlays", apart := false }
def QueuePlaysSaid : Prop := queuePlaysRow.holds Try.pinned (OpenSpec.ofChange queuePlaysSpec)

/-- ITS FALSE NEIGHBOUR: 'it returns false'. Refute it at one input. -/
def queuePlaysWrong : ChangeSpec := { name := "queuePlays", fn := fun _ => fun
  | [d] => { results := [.lit (.bool false)], args := [d] }
  | _ => none }
def QueuePlaysWrongFalsely : Prop := queuePlaysRow.holds Try.pinned (OpenSpec.ofChange queuePlaysWrong)

/-- 'dustpanlaw14.QueueNone': WHATEVER THE INPUT: true; the input reads as it did. -/
def queueNoneSpec : ChangeSpec := { name := "queueNone", fn := fun _ => fun
  | [d1, d2] => { results := [.lit (.bool true)], args := [d1, d2] }
  | _ => none }
def queueNoneRow : OpenClaim := { program := "ytcdmlinaebnbcaa", sum := "a99fc31c70a4cd48c11feca0a6dbec0a6fc914265e15f0cedb61d4c2bca25da8", func := "dustpan/dustpanlaw14.QueueNone", spec := "queueNone", apart := false }
def QueueNoneSaid : Prop := queueNoneRow.holds Try.pinned (OpenSpec.ofChange queueNoneSpec)

/-- ITS FALSE NEIGHBOUR: 'it returns false'. Refute it at one input. -/
def queueNoneWrong : ChangeSpec := { name := "queueNone", fn := fun _ => fun
  | [d1, d2] => { results := [.lit (.bool false)], args := [d1, d2] }
  | _ => none }
def QueueNoneWrongFalsely : Prop := queueNoneRow.holds Try.pinned (OpenSpec.ofChange queueNoneWrong)

/-- 'dustpanlaw14.QueueTurns': WHATEVER THE INPUT: true; the input reads as it did. -/
def queueTurnsSpec : ChangeSpec := { name := "queueTurns", fn := fun _ => fun
  | [d] => { results := [.lit (.bool true)], args := [d] }
  | _ => none }
def queueTurnsRow : OpenClaim := { program := "ytcdmlinaebnbcaa", sum := "a99fc31c70a4cd48c11feca0a6dbec0a6fc914265e15f0cedb61d4c2bca25da8", func := "dustpan/dustpanlaw14.QueueTurns", spec := "queueTurns", apart := false }
def QueueTurnsSaid : Prop := queueTurnsRow.holds Try.pinned (OpenSpec.ofChange queueTurnsSpec)

/-- ITS FALSE NEIGHBOUR: 'it returns false'. Refute it at one input. -/
def queueTurnsWrong : ChangeSpec := { name := "queueTurns", fn := fun _ => fun
  | [d] => { results := [.lit (.bool false)], args := [d] }
  | _ => none }
def QueueTurnsWrongFalsely : Prop := queueTurnsRow.holds Try.pinned (OpenSpec.ofChange queueTurnsWrong)

/-- 'dustpanlaw14.QueueOpens': WHATEVER THE INPUT: true; the input reads as it did. -/
def queueOpensSpec : ChangeSpec := { name := "queueOpens", fn := fun _ => fun
  | [d1, d2] => { results := [.lit (.bool true)], args := [d1, d2] }
  | _ => none }
def queueOpensRow : OpenClaim := { program := "ytcdmlinaebnbcaa", sum := "a99fc31c70a4cd48c11feca0a6dbec0a6fc914265e15f0cedb61d4c2bca25da8", func := "dustpan/dustpanlaw14.QueueOpens", spec := "queueOpens", apart := false }
def QueueOpensSaid : Prop := queueOpensRow.holds Try.pinned (OpenSpec.ofChange queueOpensSpec)

/-- ITS FALSE NEIGHBOUR: 'it returns false'. Refute it at one input. -/
def queueOpensWrong : ChangeSpec := { name := "queueOpens", fn := fun _ => fun
  | [d1, d2] => { results := [.lit (.bool false)], args := [d1, d2] }
  | _ => none }
def QueueOpensWrongFalsely : Prop := queueOpensRow.holds Try.pinned (OpenSpec.ofChange queueOpensWrong)

/-- 'dustpanlaw24.FairGrows': WHATEVER THE INPUT: true; the input reads as it did. -/
def fairGrowsSpec : ChangeSpec := { name := "fairGrows", fn := fun _ => fun
  | [d1, d2, d3] => { results := [.lit (.bool true)], args := [d1, d2, d3] }
  | _ => none }
def fairGrowsRow : OpenClaim := { program := "ytcdmlinaebnbcaa", sum := "a99fc31c70a4cd48c11feca0a6dbec0a6fc914265e15f0cedb61d4c2bca25da8", func := "dustpan/dustpanlaw24.FairGrows", spec := "fairGrows", unfollowed := true, recurses := true, apart := false }
def FairGrowsSaid : Prop := fairGrowsRow.holds Try.pinned (OpenSpec.ofChange fairGrowsSpec)

/-- ITS FALSE NEIGHBOUR: 'it returns false'. Refute it at one input. -/
def fairGrowsWrong : ChangeSpec := { name := "fairGrows", fn := fun _ => fun
  | [d1, d2, d3] => { results := [.lit (.bool false)], args := [d1, d2, d3] }
  | _ => none }
def FairGrowsWrongFalsely : Prop := fairGrowsRow.holds Try.pinned (OpenSpec.ofChange fairGrowsWrong)

/-- 'dustpanlaw24.FairTells': WHATEVER THE INPUT: true; the input reads as it did. -/
def fairTellsSpec : ChangeSpec := { name := "fairTells", fn := fun _ => fun
  | [d1, d2, d3] => { results := [.lit (.bool true)], args := [d1, d2, d3] }
  | _ => none }
def fairTellsRow : OpenClaim := { program := "ytcdmlinaebnbcaa", sum := "a99fc31c70a4cd48c11feca0a6dbec0a6fc914265e15f0cedb61d4c2bca25da8", func := "dustpan/dustpanlaw24.FairTells", spec := "fairTells", unfollowed := true, recurses := true, apart := false }
def FairTellsSaid : Prop := fairTellsRow.holds Try.pinned (OpenSpec.ofChange fairTellsSpec)

/-- ITS FALSE NEIGHBOUR: 'it returns false'. Refute it at one input. -/
def fairTellsWrong : ChangeSpec := { name := "fairTells", fn := fun _ => fun
  | [d1, d2, d3] => { results := [.lit (.bool false)], args := [d1, d2, d3] }
  | _ => none }
def FairTellsWrongFalsely : Prop := fairTellsRow.holds Try.pinned (OpenSpec.ofChange fairTellsWrong)

/-- 'dustpanlaw24.FairCounts': WHATEVER THE INPUT: true; the input reads as it did. -/
def fairCountsSpec : ChangeSpec := { name := "fairCounts", fn := fun _ => fun
  | [d1, d2, d3] => { results := [.lit (.bool true)], args := [d1, d2, d3] }
  | _ => none }
def fairCountsRow : OpenClaim := { program := "ytcdmlinaebnbcaa", sum := "a99fc31c70a4cd48c11feca0a6dbec0a6fc914265e15f0cedb61d4c2bca25da8", func := "dustpan/dustpanlaw24.FairCounts", spec := "fairCounts", unfollowed := true, recurses := true, apart := false }
def FairCountsSaid : Prop := fairCountsRow.holds Try.pinned (OpenSpec.ofChange fairCountsSpec)

/-- ITS FALSE NEIGHBOUR: 'it returns false'. Refute it at one input. -/
def fairCountsWrong : ChangeSpec := { name := "fairCounts", fn := fun _ => fun
  | [d1, d2, d3] => { results := [.lit (.bool false)], args := [d1, d2, d3] }
  | _ => none }
def FairCountsWrongFalsely : Prop := fairCountsRow.holds Try.pinned (OpenSpec.ofChange fairCountsWrong)

/-- 'dustpanlaw24.FairSpreads': WHATEVER THE INPUT: true; the input reads as it did. -/
def fairSpreadsSpec : ChangeSpec := { name := "fairSpreads", fn := fun _ => fun
  | [d1, d2, d3] => { results := [.lit (.bool true)], args := [d1, d2, d3] }
  | _ => none }
def fairSpreadsRow : OpenClaim := { program := "ytcdmlinaebnbcaa", sum := "a99fc31c70a4cd48c11feca0a6dbec0a6fc914265e15f0cedb61d4c2bca25da8", func := "dustpan/dustpanlaw24.FairSpreads", spec := "fairSpreads", unfollowed := true, recurses := true, apart := false }
def FairSpreadsSaid : Prop := fairSpreadsRow.holds Try.pinned (OpenSpec.ofChange fairSpreadsSpec)

/-- ITS FALSE NEIGHBOUR: 'it returns false'. Refute it at one input. -/
def fairSpreadsWrong : ChangeSpec := { name := "fairSpreads", fn := fun _ => fun
  | [d1, d2, d3] => { results := [.lit (.bool false)], args := [d1, d2, d3] }
  | _ => none }
def FairSpreadsWrongFalsely : Prop := fairSpreadsRow.holds Try.pinned (OpenSpec.ofChange fairSpreadsWrong)

/- THE SECOND FORM. 'bulk': how many values and letters a reading holds, each counted each time it is reached (what is shared counts as often as it is met; a slice's spare places count too). A statement '..UptoSaid' is the law's where the arguments, and the package variables that the reading takes, are together of bulk at most 1048576: NARROWER than '..Said'. Prove '..Said' where nothing that the law and all that it calls make is longer than what came in: it says more and counts as full. Else prove '..UptoSaid'. A law counts once. -/
mutual
def uptoBulk {H : Type} : DataW H → Nat
  | .lit (.string bytes) => bytes.length + 1
  | .lit _ => 1
  | .nil => 1
  | .ptr d => uptoBulk d + 1
  | .slice elems spare => uptoBulkAll elems + uptoBulkAll spare + 1
  | .agg parts => uptoBulkAll parts + 1
  | .iface _ d => uptoBulk d + 1
  | .map entries => uptoBulkEntries entries + 1
  | .held _ => 1
def uptoBulkAll {H : Type} : List (DataW H) → Nat
  | [] => 0
  | d :: r => uptoBulk d + uptoBulkAll r
def uptoBulkEntries {H : Type} : List (Lit × DataW H) → Nat
  | [] => 0
  | x :: r => uptoBulkEntry x + uptoBulkEntries r
def uptoBulkEntry {H : Type} : Lit × DataW H → Nat
  | (.string bytes, d) => bytes.length + uptoBulk d + 1
  | (_, d) => uptoBulk d + 1
 end
def uptoSmall : (H : Type) → List (DataW H) → Bool := fun _ ds => decide (uptoBulkAll ds ≤ 1048576)
def OpenSpec.upto (s : _root_.Go.ChangeSpec) : _root_.Go.OpenSpec := { _root_.Go.OpenSpec.ofChange s with cond := some uptoSmall }

/-- 'dustpanlaw24.FairWindows', WHERE WHAT IT READS IS OF BULK AT MOST 1048576: true; the input reads as it did. -/
def fairWindowsUptoRow : OpenClaim := { program := "ytcdmlinaebnbcaa", sum := "a99fc31c70a4cd48c11feca0a6dbec0a6fc914265e15f0cedb61d4c2bca25da8", func := "dustpan/dustpanlaw24.FairWindows", spec := "fairWindows", unfollowed := true, recurses := true, apart := false, narrowed := true }
def FairWindowsUptoSaid : Prop := fairWindowsUptoRow.holds Try.pinned (OpenSpec.upto fairWindowsSpec)

/-- 'dustpanlaw12.BoardRounds', WHERE WHAT IT READS IS OF BULK AT MOST 1048576: true; the input reads as it did. -/
def boardRoundsUptoRow : OpenClaim := { program := "ytcdmlinaebnbcaa", sum := "a99fc31c70a4cd48c11feca0a6dbec0a6fc914265e15f0cedb61d4c2bca25da8", func := "dustpan/dustpanlaw12.BoardRounds", spec := "boardRounds", unfollowed := true, recurses := true, apart := false, narrowed := true }
def BoardRoundsUptoSaid : Prop := boardRoundsUptoRow.holds Try.pinned (OpenSpec.upto boardRoundsSpec)

/-- 'dustpanlaw12.BoardKinds', WHERE WHAT IT READS IS OF BULK AT MOST 1048576: true; the input reads as it did. -/
def boardKindsUptoRow : OpenClaim := { program := "ytcdmlinaebnbcaa", sum := "a99fc31c70a4cd48c11feca0a6dbec0a6fc914265e15f0cedb61d4c2bca25da8", func := "dustpan/dustpanlaw12.BoardKinds", spec := "boardKinds", unfollowed := true, recurses := true, apart := false, narrowed := true }
def BoardKindsUptoSaid : Prop := boardKindsUptoRow.holds Try.pinned (OpenSpec.upto boardKindsSpec)

/-- 'dustpanlaw12.BoardPlays', WHERE WHAT IT READS IS OF BULK AT MOST 1048576: true; the input reads as it did. -/
def boardPlaysUptoRow : OpenClaim := { program := "ytcdmlinaebnbcaa", sum := "a99fc31c70a4cd48c11feca0a6dbec0a6fc914265e15f0cedb61d4c2bca25da8", func := "dustpan/dustpanlaw12.BoardPlays", spec := "boardPlays", unfollowed := true, recurses := true, apart := false, narrowed := true }
def BoardPlaysUptoSaid : Prop := boardPlaysUptoRow.holds Try.pinned (OpenSpec.upto boardPlaysSpec)

/-- 'dustpanlaw12.BoardNone', WHERE WHAT IT READS IS OF BULK AT MOST 1048576: true; the input reads as it did. -/
def boardNoneUptoRow : OpenClaim := { program := "ytcdmlinaebnbcaa", sum := "a99fc31c70a4cd48c11feca0a6dbec0a6fc914265e15f0cedb61d4c2bca25da8", func := "dustpan/dustpanlaw12.BoardNone", spec := "boardNone", unfollowed := true, recurses := true, apart := false, narrowed := true }
def BoardNoneUptoSaid : Prop := boardNoneUptoRow.holds Try.pinned (OpenSpec.upto boardNoneSpec)

/-- 'dustpanlaw14.QueuePlays', WHERE WHAT IT READS IS OF BULK AT MOST 1048576: true; the input reads as it did. -/
def queuePlaysUptoRow : OpenClaim := { program := "ytcdmlinaebnbcaa", sum := "a99fc31c70a4cd48c11feca0a6dbec0a6fc914265e15f0cedb61d4c2bca25da8", func := "dustpan/dustpanlaw14.QueuePlays", spec := "queuePlays", apart := false, narrowed := true }
def QueuePlaysUptoSaid : Prop := queuePlaysUptoRow.holds Try.pinned (OpenSpec.upto queuePlaysSpec)

/-- 'dustpanlaw14.QueueNone', WHERE WHAT IT READS IS OF BULK AT MOST 1048576: true; the input reads as it did. -/
def queueNoneUptoRow : OpenClaim := { program := "ytcdmlinaebnbcaa", sum := "a99fc31c70a4cd48c11feca0a6dbec0a6fc914265e15f0cedb61d4c2bca25da8", func := "dustpan/dustpanlaw14.QueueNone", spec := "queueNone", apart := false, narrowed := true }
def QueueNoneUptoSaid : Prop := queueNoneUptoRow.holds Try.pinned (OpenSpec.upto queueNoneSpec)

/-- 'dustpanlaw14.QueueTurns', WHERE WHAT IT READS IS OF BULK AT MOST 1048576: true; the input reads as it did. -/
def queueTurnsUptoRow : OpenClaim := { program := "ytcdmlinaebnbcaa", sum := "a99fc31c70a4cd48c11feca0a6dbec0a6fc914265e15f0cedb61d4c2bca25da8", func := "dustpan/dustpanlaw14.QueueTurns", spec := "queueTurns", apart := false, narrowed := true }
def QueueTurnsUptoSaid : Prop := queueTurnsUptoRow.holds Try.pinned (OpenSpec.upto queueTurnsSpec)

/-- 'dustpanlaw14.QueueOpens', WHERE WHAT IT READS IS OF BULK AT MOST 1048576: true; the input reads as it did. -/
def queueOpensUptoRow : OpenClaim := { program := "ytcdmlinaebnbcaa", sum := "a99fc31c70a4cd48c11feca0a6dbec0a6fc914265e15f0cedb61d4c2bca25da8", func := "dustpan/dustpanlaw14.QueueOpens", spec := "queueOpens", apart := false, narrowed := true }
def QueueOpensUptoSaid : Prop := queueOpensUptoRow.holds Try.pinned (OpenSpec.upto queueOpensSpec)

/-- 'dustpanlaw24.FairGrows', WHERE WHAT IT READS IS OF BULK AT MOST 1048576: true; the input reads as it did. -/
def fairGrowsUptoRow : OpenClaim := { program := "ytcdmlinaebnbcaa", sum := "a99fc31c70a4cd48c11feca0a6dbec0a6fc914265e15f0cedb61d4c2bca25da8", func := "dustpan/dustpanlaw24.FairGrows", spec := "fairGrows", unfollowed := true, recurses := true, apart := false, narrowed := true }
def FairGrowsUptoSaid : Prop := fairGrowsUptoRow.holds Try.pinned (OpenSpec.upto fairGrowsSpec)

/-- 'dustpanlaw24.FairTells', WHERE WHAT IT READS IS OF BULK AT MOST 1048576: true; the input reads as it did. -/
def fairTellsUptoRow : OpenClaim := { program := "ytcdmlinaebnbcaa", sum := "a99fc31c70a4cd48c11feca0a6dbec0a6fc914265e15f0cedb61d4c2bca25da8", func := "dustpan/dustpanlaw24.FairTells", spec := "fairTells", unfollowed := true, recurses := true, apart := false, narrowed := true }
def FairTellsUptoSaid : Prop := fairTellsUptoRow.holds Try.pinned (OpenSpec.upto fairTellsSpec)

/-- 'dustpanlaw24.FairCounts', WHERE WHAT IT READS IS OF BULK AT MOST 1048576: true; the input reads as it did. -/
def fairCountsUptoRow : OpenClaim := { program := "ytcdmlinaebnbcaa", sum := "a99fc31c70a4cd48c11feca0a6dbec0a6fc914265e15f0cedb61d4c2bca25da8", func := "dustpan/dustpanlaw24.FairCounts", spec := "fairCounts", unfollowed := true, recurses := true, apart := false, narrowed := true }
def FairCountsUptoSaid : Prop := fairCountsUptoRow.holds Try.pinned (OpenSpec.upto fairCountsSpec)

/-- 'dustpanlaw24.FairSpreads', WHERE WHAT IT READS IS OF BULK AT MOST 1048576: true; the input reads as it did. -/
def fairSpreadsUptoRow : OpenClaim := { program := "ytcdmlinaebnbcaa", sum := "a99fc31c70a4cd48c11feca0a6dbec0a6fc914265e15f0cedb61d4c2bca25da8", func := "dustpan/dustpanlaw24.FairSpreads", spec := "fairSpreads", unfollowed := true, recurses := true, apart := false, narrowed := true }
def FairSpreadsUptoSaid : Prop := fairSpreadsUptoRow.holds Try.pinned (OpenSpec.upto fairSpreadsSpec)

end Rows
end Go.Proofs.Ytcdmlinaebnbcaa
