/- What queue's functions do. -/
import Derived.Test.YtcdmlinaebnbcaaRows
import Derived.Test.YtcdmlinaebnbcaaMem
import Derived.Test.YtcdmlinaebnbcaaRowV
import Derived.WalkKit
import Derived.WalkSpells
import Derived.WalkLawsBesides
import Derived.Lib.Hide
namespace Go.Proofs.Ytcdmlinaebnbcaa
open Go.RowKit

structure Qu where
  rows : List (List Int)
  opn : Nat

structure QuAt (w : World) (B : Nat) (q : Qu) : Prop where
  len : q.rows.length = 4
  blk : ∃ vs : List Value, vs.length = 4 ∧ Blk w B (vs ++ [.int .i64 q.opn]) 81 ∧ ∀ (i : Nat) (v : Value) (zs : List Int), vs[i]? = some v → q.rows[i]? = some zs → RowV w 3 v (zs.map (Value.int .i64))

def cls (k : Int) : Bool := decide (0 ≤ k) && decide (k < 4)

set_option maxHeartbeats 400000 in
theorem cIs_any (k : Int) (w : World) : Calls Try.prog 47 #[.int .i64 k] w fun e w' => e = .returned (.bool (cls k)) ∧ w = w' := by
  go_enter Try.func47, Try.ntmps47
  go_wp2
  · go_ret
    exact ⟨by simp [cls, *], rfl⟩
  · go_ret
    have : ¬ 0 ≤ k := by omega
    exact ⟨by simp [cls, *], rfl⟩
theorem cIs_is {k : Int} {w : World} {p : Bool} (h : cls k = p) : Calls Try.prog 47 #[.int .i64 k] w fun e w' => e = .returned (.bool p) ∧ w = w' := by
  rw [← h]; exact cIs_any k w

set_option maxHeartbeats 400000 in
theorem qNew_any (w : World) : Calls Try.prog 29 #[] w fun e w' => e = .returned (.pointer (some ⟨w.heap.size, 0, none⟩)) ∧ QuAt w' w.heap.size ⟨[[], [], [], []], 0⟩ ∧ Keep none_ w w' := by
  have HN : ∀ w : World, Hid (QuAt (w.alloc (.cells #[.slice none 0 0, .slice none 0 0, .slice none 0 0, .slice none 0 0, .int .i64 0] 81)) w.heap.size ⟨[[], [], [], []], 0⟩) := fun w => by
    refine ⟨rfl, [.slice none 0 0, .slice none 0 0, .slice none 0 0, .slice none 0 0], rfl, Blk.new w _ 81, fun i v zs h1 h2 => ?_⟩
    match i with
    | 0 => simp at h1 h2; subst h1 h2; exact RowV.nil _ _
    | 1 => simp at h1 h2; subst h1 h2; exact RowV.nil _ _
    | 2 => simp at h1 h2; subst h1 h2; exact RowV.nil _ _
    | 3 => simp at h1 h2; subst h1 h2; exact RowV.nil _ _
    | n + 4 => simp at h1
  go_enter Try.func29, Try.ntmps29
  go_wp2
  go_ret
  exact ⟨rfl, (HN w).out, (Keep.refl _ _).alloc _⟩

/-! A queue that isn't there. -/
set_option maxHeartbeats 400000 in
theorem qTake_nil (k : Int) (w : World) : Calls Try.prog 30 #[.pointer none, .int .i64 k] w fun e w' => e = .returned (.tuple #[.int .i64 0, .int .i64 11]) ∧ w = w' := by
  go_enter Try.func30, Try.ntmps30
  go_wp2
  go_ret2
  exact ⟨rfl, rfl⟩
set_option maxHeartbeats 400000 in
theorem qPut_nil (k b : Int) (w : World) : Calls Try.prog 33 #[.pointer none, .int .i64 k, .int .i64 b] w fun e w' => e = .returned (.int .i64 11) ∧ w = w' := by
  go_enter Try.func33, Try.ntmps33
  go_wp2
  go_ret
  exact ⟨rfl, rfl⟩
set_option maxHeartbeats 400000 in
theorem qDone_nil (w : World) : Calls Try.prog 32 #[.pointer none] w fun e w' => e = .returned (.int .i64 11) ∧ w = w' := by
  go_enter Try.func32, Try.ntmps32
  go_wp2
  go_ret
  exact ⟨rfl, rfl⟩
set_option maxHeartbeats 400000 in
theorem qLen_nil (k : Int) (w : World) : Calls Try.prog 34 #[.pointer none, .int .i64 k] w fun e w' => e = .returned (.int .i64 0) ∧ w = w' := by
  go_enter Try.func34, Try.ntmps34
  go_wp2
  go_ret
  exact ⟨rfl, rfl⟩
set_option maxHeartbeats 400000 in
theorem qOpen_nil (w : World) : Calls Try.prog 35 #[.pointer none] w fun e w' => e = .returned (.int .i64 0) ∧ w = w' := by
  go_enter Try.func35, Try.ntmps35
  go_wp2
  go_ret
  exact ⟨rfl, rfl⟩
set_option maxHeartbeats 400000 in
theorem qRests_nil (w : World) : Calls Try.prog 36 #[.pointer none] w fun e w' => e = .returned (.bool false) ∧ w = w' := by
  go_enter Try.func36, Try.ntmps36
  go_wp2_with first | (go_at_call 35; refine (qOpen_nil _).mono ?_; rintro e w' ⟨rfl, rfl⟩)
  go_loop [3, 7] (fun n i => ∃ k : Nat, k ≤ 4 ∧ i = .int .i64 k ∧ n = .int .i64 0) (fun _ i => 4 - (intOf i).toNat)
  case atStart => exact ⟨0, by omega, rfl, rfl⟩
  case round =>
    obtain ⟨k, hk, rfl, rfl⟩ := hrel
    by_cases h : k < 4
    · go_wp2_with (go_at_call 34; refine (qLen_nil _ _).mono ?_; rintro e w' ⟨rfl, rfl⟩)
      go_round
      case rel => exact ⟨k + 1, by omega, by go_num, rfl⟩
      case measure => simp [intOf]; omega
    · go_wp2_with fail
      go_ret
      exact ⟨rfl, rfl⟩
set_option maxHeartbeats 400000 in
theorem qAny_nil (w : World) : Calls Try.prog 31 #[.pointer none] w fun e w' => e = .returned (.tuple #[.int .i64 0, .int .i64 0, .int .i64 11]) ∧ w = w' := by
  go_enter Try.func31, Try.ntmps31
  go_wp2_with fail
  go_step3
  go_wp2_with fail
  go_step3
  go_wp2_with fail
  refine wp_loop_rounds 1 ?_
  rw [rounds_succ]
  go_wp2_with (go_at_call 30; refine (qTake_nil _ _).mono ?_; rintro e w' ⟨rfl, rfl⟩)
  go_outline
  try rw [Exit.noGoto_ret]
  go_ret3
  exact ⟨rfl, rfl⟩

end Go.Proofs.Ytcdmlinaebnbcaa
