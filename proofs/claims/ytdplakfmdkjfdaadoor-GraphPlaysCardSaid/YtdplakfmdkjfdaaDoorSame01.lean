/- What Same of the reference 01 tells. -/
import Derived.Test.YtdplakfmdkjfdaaDoorRef01
import Derived.Deep.QuietTactic
import Derived.BigQuiet
import Derived.Deep.LoopGhost
namespace Go.Proofs.YtdplakfmdkjfdaaDoor
open Go.RowKit

theorem getD_of {l : List Int} {j : Nat} (h : j < l.length) : l.getD j 0 = l[j] := by
  rw [List.getD_eq_getElem?_getD, List.getElem?_eq_getElem h]; rfl

set_option maxHeartbeats 400000 in
theorem same_any (a b : Option Addr) (n m c d : Nat) (xs ys : List Int) (w : World) (hx : IntCells .i64 w a n xs) (hy : IntCells .i64 w b m ys) (hn : n ≤ 9223372036854775807) (hm : m ≤ 9223372036854775807) :
    Calls Tryd.prog 23 #[.slice a n c, .slice b m d] w fun e w' => e = .returned (.bool (xs == ys)) ∧ Keep none_ w w' := by
  by_cases hl : n = m
  · subst hl
    have HL : xs.length = n ∧ ys.length = n := ⟨hx.len, hy.len⟩
    have HLL := Lib.hid HL
    clear HL
    go_enter Tryd.func23, Tryd.ntmps23
    go_wp2
    go_loopg [5] n (fun g i wr => ∃ k : Nat, g + k = n ∧ i = .int .i64 k ∧ (∀ j, j < k → xs.getD j 0 = ys.getD j 0) ∧ Keep none_ w wr)
    case atStart => exact ⟨0, by omega, rfl, fun j hj => absurd hj (by omega), Keep.refl _ _⟩
    case round =>
      obtain ⟨k, hg, rfl, hr, hk⟩ := hrel
      by_cases hlt : k < n
      · obtain ⟨ba, oa, rfl, hca⟩ := (hx.below hk).at_ (by omega)
        obtain ⟨bb, ob, rfl, hcb⟩ := (hy.below hk).at_ (by omega)
        have h1 := hca k hlt
        have h2 := hcb k hlt
        have hltI : (k : Int) < (n : Int) := by omega
        have hk0 : (0 : Int) ≤ (k : Int) := by omega
        by_cases he : xs.getD k 0 = ys.getD k 0
        · have HR : Hid (∀ j, j < k + 1 → xs.getD j 0 = ys.getD j 0) := fun j hj => by
            rcases Nat.lt_succ_iff_lt_or_eq.1 hj with h | h
            · exact hr j h
            · rw [h]; exact he
          rw [he] at h1
          generalize ys.getD k 0 = y at h1 h2
          clear hca hcb hr he
          go_wp2
          go_quiet (fail)
          go_wp2
          go_roundg (gk - 1)
          case measure => omega
          case rel => exact ⟨k + 1, by omega, by go_num, HR.out, hk.drewN _⟩
        · have HE : Hid ((xs == ys) = false) := by
            rw [Hid, beq_eq_false_iff_ne]
            intro e
            exact he (by rw [e])
          have hne : (xs.getD k 0 == ys.getD k 0) = false := by simpa using he
          have hne2 : (xs.getD k 0 != ys.getD k 0) = true := by simpa using he
          generalize xs.getD k 0 = x at h1 hne hne2
          generalize ys.getD k 0 = y at h2 hne hne2
          clear hca hcb hr he
          go_wp2
          go_quiet (fail)
          go_wp2
          go_ret
          exact ⟨by rw [HE.out]; rfl, hk.drewN _⟩
      · have HE : Hid ((xs == ys) = true) := by
          rw [Hid, beq_iff_eq]
          apply List.ext_getElem
          · rw [HLL.out.1, HLL.out.2]
          · intro j h1 h2
            have := hr j (by have := HLL.out.1; omega)
            rwa [getD_of h1, getD_of h2] at this
        clear hr
        go_wp2
        go_ret
        exact ⟨by rw [HE.out]; rfl, hk⟩
  · have HE : Hid ((xs == ys) = false) := by
      rw [Hid, beq_eq_false_iff_ne]
      intro e
      apply hl
      rw [← hx.len, ← hy.len, e]
    have h1 : ((n : Int) != m) = true := by simp; omega
    have h2 : ((n : Int) == m) = false := by simp; omega
    go_enter Tryd.func23, Tryd.ntmps23
    go_wp2
    go_ret
    exact ⟨by rw [HE.out]; rfl, Keep.refl _ _⟩
end Go.Proofs.YtdplakfmdkjfdaaDoor
