/- Plain facts on queues, with no program in sight. -/
import Derived.Test.YtcdmlinaebnbcaaQueue4
namespace Go.Proofs.Ytcdmlinaebnbcaa

def Qu.tot (q : Qu) : Nat := (q.rw 0).length + (q.rw 1).length + (q.rw 2).length + (q.rw 3).length
theorem Qu.sum4 (q : Qu) : q.sum 4 = q.opn + q.tot := by
  simp [Qu.sum, Qu.tot, Qu.rw]; omega
theorem Qu.set_rw (q : Qu) (hq : q.rows.length = 4) (k : Nat) (hk : k < 4) (l : List Int) (n j : Nat) : (Qu.mk (q.rows.set k l) n).rw j = if j = k then l else q.rw j := by
  unfold Qu.rw
  rw [List.getD_eq_getElem?_getD, List.getElem?_set]
  by_cases h : k = j
  · subst h; simp [hq, hk]
  · rw [if_neg h, if_neg (fun e => h e.symm), List.getD_eq_getElem?_getD]
theorem Qu.put_rw (q : Qu) (hq : q.rows.length = 4) (k : Nat) (hk : k < 4) (b : Int) (j : Nat) : (q.put k b).rw j = if j = k then q.rw k ++ [b] else q.rw j := by
  have := q.set_rw hq k hk (q.row k ++ [b]) q.opn j
  rw [q.row_of] at this
  simpa [Qu.put, q.row_of] using this
theorem Qu.take_rw (q : Qu) (hq : q.rows.length = 4) (k : Nat) (hk : k < 4) (j : Nat) : (q.take k).rw j = if j = k then (q.rw k).drop 1 else q.rw j := by
  have := q.set_rw hq k hk ((q.row k).drop 1) (q.opn + 1) j
  rw [q.row_of] at this
  simpa [Qu.take, q.row_of] using this
theorem Qu.put_tot (q : Qu) (hq : q.rows.length = 4) (k : Nat) (hk : k < 4) (b : Int) : (q.put k b).tot = q.tot + 1 := by
  simp only [Qu.tot, q.put_rw hq k hk]
  rcases (show k = 0 ∨ k = 1 ∨ k = 2 ∨ k = 3 by omega) with rfl | rfl | rfl | rfl <;> simp <;> omega
theorem Qu.take_tot (q : Qu) (hq : q.rows.length = 4) (k : Nat) (hk : k < 4) (h : 1 ≤ (q.rw k).length) : (q.take k).tot + 1 = q.tot := by
  simp only [Qu.tot, q.take_rw hq k hk]
  rcases (show k = 0 ∨ k = 1 ∨ k = 2 ∨ k = 3 by omega) with rfl | rfl | rfl | rfl <;> simp <;> omega
theorem Qu.rw_le (q : Qu) (hq : q.rows.length = 4) (k : Nat) : (q.rw k).length ≤ q.tot := by
  rcases Nat.lt_or_ge k 4 with h | h
  · unfold Qu.tot
    rcases (show k = 0 ∨ k = 1 ∨ k = 2 ∨ k = 3 by omega) with rfl | rfl | rfl | rfl <;> omega
  · have : q.rw k = [] := by simp [Qu.rw, List.getElem?_eq_none (show q.rows.length ≤ k by omega)]
    simp [this]
theorem Qu.small_of (q : Qu) (hq : q.rows.length = 4) (h1 : q.opn ≤ 1000000) (h2 : q.tot ≤ 1000000) : q.small :=
  ⟨by omega, fun k => by have := q.rw_le hq k; simp only [Qu.rw] at this; omega⟩
theorem Qu.rests_of (q : Qu) : q.rests = decide (q.opn + q.tot = 0) := by
  rw [Qu.rests, q.sum4, Bool.eq_iff_iff]; simp
theorem Qu.len_rw (q : Qu) (k : Nat) (h : k < 4) : q.len (k : Int) = (q.rw k).length := q.len_of k h
end Go.Proofs.Ytcdmlinaebnbcaa
