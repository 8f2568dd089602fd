/- cmp.Compare over uint16; the closure that Spread sorts by. -/
import Derived.Test.YtcdmlinaebnbcaaFair
import Derived.Deep.QuietTactic
import Derived.BigQuiet
namespace Go.Proofs.Ytcdmlinaebnbcaa
open Go.RowKit

def cmpL (x y : Int) : Int := if x < y then -1 else if y < x then 1 else 0

theorem isNaN_any (x : Int) (w : World) : Calls Try.prog 57 #[.int .u16 x] w fun e w' => e = .returned (.bool false) ∧ w = w' := by
  go_enter Try.func57, Try.ntmps57
  go_wp2
  go_ret
  exact ⟨rfl, rfl⟩
theorem cmpU_any (x y : Int) (w : World) : Calls Try.prog 53 #[.int .u16 x, .int .u16 y] w fun e w' => e = .returned (.int .i64 (cmpL x y)) ∧ w = w' := by
  by_cases h1 : x < y
  · have H : Hid (cmpL x y = -1) := by simp [Hid, cmpL, h1]
    go_enter Try.func53, Try.ntmps53
    go_wp2_with (go_at_call 57; refine (isNaN_any _ _).mono ?_; rintro e w' ⟨rfl, rfl⟩)
    go_ret
    exact ⟨by rw [H.out]; rfl, rfl⟩
  · by_cases h2 : y < x
    · have H : Hid (cmpL x y = 1) := by simp [Hid, cmpL, h1, h2]
      go_enter Try.func53, Try.ntmps53
      go_wp2_with (go_at_call 57; refine (isNaN_any _ _).mono ?_; rintro e w' ⟨rfl, rfl⟩)
      go_ret
      exact ⟨by rw [H.out]; rfl, rfl⟩
    · have H : Hid (cmpL x y = 0) := by simp [Hid, cmpL, h1, h2]
      go_enter Try.func53, Try.ntmps53
      go_wp2_with (go_at_call 57; refine (isNaN_any _ _).mono ?_; rintro e w' ⟨rfl, rfl⟩)
      go_ret
      exact ⟨by rw [H.out]; rfl, rfl⟩

theorem cmpU_q (x y : Int) (w : World) : Calls Try.prog 53 #[.int .u16 x, .int .u16 y] w fun e w' => e = .returned (.int .i64 (cmpL x y)) ∧ w' = w :=
  (cmpU_any x y w).mono fun _ _ ⟨h, k⟩ => ⟨h, k.symm⟩

theorem sp1_any (i j RB nr cr : Nat) (ar : Option Addr) (rs : List Int) (w : World) (hR : Blk w RB [.slice ar nr cr] 67) (hz : IntCells .u16 w ar nr rs) (hi : i < nr) (hj : j < nr) :
    Calls Try.prog 52 #[.int .i64 i, .int .i64 j, .pointer (some ⟨RB, 0, none⟩)] w fun e w' => e = .returned (.int .i64 (cmpL (rs.getD i 0) (rs.getD j 0))) ∧ ∃ m, w' = w.drewN m := by
  obtain ⟨b, off, rfl, hc⟩ := hz.at_ (by omega)
  have hci := hc i hi
  have hcj := hc j hj
  have hcR := hR.cell 0 rfl
  generalize rs.getD i 0 = x at hci
  generalize rs.getD j 0 = y at hcj
  clear hc hz hR
  go_enter Try.func52, Try.ntmps52
  go_wp2_with fail
  go_quiet (first | (go_at_call 53; exact Calls.quiet_of_same (cmpU_q _ _ _)))
  go_wp2_with fail
  go_ret
  exact ⟨rfl, _, rfl⟩
end Go.Proofs.Ytcdmlinaebnbcaa
