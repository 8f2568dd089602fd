/- What the small functions on configs tell: Little's rest, whether a number lies within bounds. -/
import Derived.Test.YtkjplkkjdlanhaaGreatDoorTables
import Derived.Test.YtkjplkkjdlanhaaGreatDoorArgs
import Derived.WalkKit
import Derived.WalkSpells
import Derived.WalkLawsBesides
import Derived.Lib.Hide
import Derived.Deep.QuietTactic
import Derived.BigQuiet
namespace Go.Proofs.YtkjplkkjdlanhaaGreatDoor
open Go.RowKit

theorem tmod_pos {x m : Int} : (x.tmod m + m) % m = x % m := by
  rw [Int.add_emod_right, Int.tmod_eq_emod]
  split
  · simp
  · rw [Int.sub_emod, Int.emod_emod]
    have : ((m.natAbs : Int)) % m = 0 := by
      rcases Int.natAbs_eq m with h | h
      · rw [← h]; simp
      · have : (m.natAbs : Int) = -m := by omega
        rw [this]; simp
    rw [this]; simp

set_option maxHeartbeats 400000 in
theorem mod_is (x m : Int) (hm : 0 < m) (hm2 : m ≤ 1000) (w : World) : Calls Tryz.prog 17 #[.int .i64 x, .int .i64 m] w fun e w' => e = .returned (.int .i64 (x % m)) ∧ w' = w := by
  have h0 : (m == 0) = false := by simp; omega
  have h1 : -m < x.tmod m := by
    have := Int.lt_tmod_of_pos x hm
    omega
  have h2 : x.tmod m < m := Int.tmod_lt_of_pos x hm
  have HE := Lib.hid (tmod_pos (x := x) (m := m))
  go_enter Tryz.func17, Tryz.ntmps17
  go_wp2
  go_ret
  exact ⟨by rw [← HE.out]; rfl, rfl⟩

set_option maxHeartbeats 400000 in
theorem within_is (x a b : Int) (w : World) : Calls Tryz.prog 14 #[.int .i64 x, .int .i64 a, .int .i64 b] w fun e w' => e = .returned (.bool (decide (a ≤ x) && decide (x ≤ b))) ∧ w' = w := by
  by_cases h : a ≤ x
  · have h1 : decide (a ≤ x) = true := decide_eq_true h
    clear h
    go_enter Tryz.func14, Tryz.ntmps14
    go_wp2
    go_ret
    exact ⟨by simp [h1], rfl⟩
  · have h1 : decide (a ≤ x) = false := decide_eq_false h
    clear h
    go_enter Tryz.func14, Tryz.ntmps14
    go_wp2
    go_ret
    exact ⟨by simp [h1], rfl⟩
end Go.Proofs.YtkjplkkjdlanhaaGreatDoor
