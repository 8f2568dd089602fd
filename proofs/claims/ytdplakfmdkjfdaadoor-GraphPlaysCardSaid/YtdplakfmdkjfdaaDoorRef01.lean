/- What In and Same of the reference 01 tell. -/
import Derived.Test.YtdplakfmdkjfdaaDoorRows
import Derived.Test.YtdplakfmdkjfdaaDoorMem
import Derived.Test.YtdplakfmdkjfdaaDoorArgs
import Derived.WalkKit
import Derived.WalkSpells
import Derived.WalkLawsBesides
import Derived.Lib.Hide
namespace Go.Proofs.YtdplakfmdkjfdaaDoor
open Go.RowKit

def inL (zs : List Int) (m : Int) : Bool := zs.any (· == m)
theorem inL_true {zs : List Int} {m : Int} : inL zs m = true ↔ m ∈ zs := by
  simp [inL]

set_option maxHeartbeats 400000 in
theorem in_any (a : Option Addr) (n c : Nat) (zs : List Int) (m : Int) (w : World) (h : IntCells .i64 w a n zs) (hm : n ≤ 9223372036854775807) :
    Calls Tryd.prog 25 #[.slice a n c, .int .i64 m] w fun e w' => e = .returned (.bool (inL zs m)) ∧ w = w' := by
  go_enter Tryd.func25, Tryd.ntmps25
  go_wp2
  go_loop [5] (fun i => ∃ k : Nat, k ≤ n ∧ i = .int .i64 k ∧ ∀ j, j < k → zs.getD j 0 ≠ m) (fun i => n - (intOf i).toNat)
  case atStart => exact ⟨0, Nat.zero_le _, rfl, fun j hj => absurd hj (by omega)⟩
  case round =>
    obtain ⟨k, hk, rfl, hr⟩ := hrel
    have hl := h.len
    by_cases hlt : k < n
    · obtain ⟨b, off, rfl, hc⟩ := h.at_ (by omega)
      have hck := hc k hlt
      by_cases hx : zs.getD k 0 = m
      · rw [hx] at hck
        have HE : Hid (inL zs m = true) := inL_true.2 (by
          rw [← hx, List.getD_eq_getElem?_getD, List.getElem?_eq_getElem (by omega)]
          exact List.getElem_mem _)
        clear hc hr h hx hl
        go_wp2
        go_ret
        exact ⟨by rw [HE.out]; rfl, rfl⟩
      · have hne : (zs.getD k 0 == m) = false := by simpa using hx
        have HR : Hid (∀ j, j < k + 1 → zs.getD j 0 ≠ m) := fun j hj => by
          rcases Nat.lt_succ_iff_lt_or_eq.1 hj with h1 | h1
          · exact hr j h1
          · rw [h1]; exact hx
        generalize zs.getD k 0 = x at hck hne
        clear hc hr h hx hl
        go_wp2
        go_round
        case rel => exact ⟨k + 1, by omega, by go_num, HR.out⟩
        case measure => simp [intOf]; omega
    · have HE : Hid (inL zs m = false) := by
        unfold Hid
        rw [Bool.eq_false_iff]
        intro e
        obtain ⟨j, hj, hje⟩ := List.getElem_of_mem (inL_true.1 e)
        refine hr j (by omega) ?_
        rw [List.getD_eq_getElem?_getD, List.getElem?_eq_getElem hj]
        exact hje
      clear hr h hl
      go_wp2
      go_ret
      exact ⟨by rw [HE.out]; rfl, rfl⟩
theorem in_is {a : Option Addr} {n c : Nat} {zs : List Int} {m : Int} {w : World} {p : Bool} (h : IntCells .i64 w a n zs) (hm : n ≤ 9223372036854775807) (hp : inL zs m = p) :
    Calls Tryd.prog 25 #[.slice a n c, .int .i64 m] w fun e w' => e = .returned (.bool p) ∧ w = w' := by
  rw [← hp]; exact in_any a n c zs m w h hm
end Go.Proofs.YtdplakfmdkjfdaaDoor
