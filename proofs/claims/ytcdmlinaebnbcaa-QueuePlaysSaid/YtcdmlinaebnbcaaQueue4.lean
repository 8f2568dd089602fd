/- Any of a queue that is there; the document's example. -/
import Derived.Test.YtcdmlinaebnbcaaQueue3
import Derived.Deep.LoopGhost
namespace Go.Proofs.Ytcdmlinaebnbcaa
open Go.RowKit

def Qu.rw (q : Qu) (k : Nat) : List Int := q.rows.getD k []
theorem Qu.row_of (q : Qu) (k : Nat) : q.row (k : Int) = q.rw k := by simp [Qu.row, Qu.rw]
theorem cls_of (k : Nat) (h : k < 4) : cls (k : Int) = true := by simp [cls]; omega

set_option maxHeartbeats 400000 in
theorem qAny_none (B : Nat) (q : Qu) (w : World) (h : QuAt w B q) (hn : ∀ k, k < 4 → q.rw k = []) : Calls Try.prog 31 #[.pointer (some ⟨B, 0, none⟩)] w fun e w' => e = .returned (.tuple #[.int .i64 0, .int .i64 0, .int .i64 12]) ∧ w = w' := by
  have key : ∀ k : Nat, k < 4 → ∀ wx, wx = w → Calls Try.prog 30 #[.pointer (some ⟨B, 0, none⟩), .int .i64 k] wx fun e w' => e = .returned (.tuple #[.int .i64 0, .int .i64 12]) ∧ wx = w' :=
    fun k hk wx e => by subst e; exact qTake_empty B q k wx h (cls_of k hk) (by rw [q.row_of]; exact hn k hk)
  have KEY := Lib.hid key
  clear key hn h
  go_enter Try.func31, Try.ntmps31
  go_wp2_with fail
  go_step3
  go_wp2_with fail
  go_step3
  go_wp2_with fail
  go_loopg [5, 6, 7, 8] 4 (fun g b k e i wr => ∃ j : Nat, g + j = 4 ∧ i = .int .i64 j ∧ e = .int .i64 12 ∧ wr = w)
  case atStart => exact ⟨0, rfl, rfl, rfl, rfl⟩
  case round =>
    obtain ⟨j, hj, rfl, rfl, rfl⟩ := hrel
    by_cases hlt : j < 4
    · go_wp2_with (go_at_call 30; refine (KEY.out j hlt _ rfl).mono ?_; rintro e w' ⟨rfl, rfl⟩)
      go_roundg (gk - 1)
      case measure => omega
      case rel => exact ⟨j + 1, by omega, by go_num, rfl, rfl⟩
    · go_wp2_with fail
      try rw [Exit.noGoto_ret]
      go_ret3
      exact ⟨rfl, rfl⟩

set_option maxHeartbeats 400000 in
theorem qAny_yes (B : Nat) (q : Qu) (m : Nat) (x : Int) (xs : List Int) (w : World) (h : QuAt w B q) (hm : m < 4) (hn : ∀ k, k < m → q.rw k = []) (hx : q.rw m = x :: xs) (ho : q.opn ≤ 1000000000) :
    Calls Try.prog 31 #[.pointer (some ⟨B, 0, none⟩)] w fun e w' => e = .returned (.tuple #[.int .i64 x, .int .i64 m, .int .i64 0]) ∧ QuAt w' B (q.take m) ∧ Keep (only B) w w' := by
  have key : ∀ k : Nat, k < m → ∀ wx, wx = w → Calls Try.prog 30 #[.pointer (some ⟨B, 0, none⟩), .int .i64 k] wx fun e w' => e = .returned (.tuple #[.int .i64 0, .int .i64 12]) ∧ wx = w' :=
    fun k hk wx e => by subst e; exact qTake_empty B q k wx h (cls_of k (by omega)) (by rw [q.row_of]; exact hn k hk)
  have KEY := Lib.hid key
  have KX := Lib.hid (qTake_yes B q m x xs w h (cls_of m hm) (by rw [q.row_of]; exact hx) ho)
  clear key hn h hx
  go_enter Try.func31, Try.ntmps31
  go_wp2_with fail
  go_step3
  go_wp2_with fail
  go_step3
  go_wp2_with fail
  go_loopg [5, 6, 7, 8] 4 (fun g b k e i wr => ∃ j : Nat, g + j = 4 ∧ j ≤ m ∧ i = .int .i64 j ∧ e = .int .i64 12 ∧ wr = w)
  case atStart => exact ⟨0, rfl, by omega, rfl, rfl, rfl⟩
  case round =>
    obtain ⟨j, hj, hjm, rfl, rfl, rfl⟩ := hrel
    by_cases hlt : j < m
    · go_wp2_with (go_at_call 30; refine (KEY.out j hlt _ rfl).mono ?_; rintro e w' ⟨rfl, rfl⟩)
      go_roundg (gk - 1)
      case measure => omega
      case rel => exact ⟨j + 1, by omega, by omega, by go_num, rfl, rfl⟩
    · obtain rfl : j = m := by omega
      go_wp2_with (go_at_call 30; refine KX.out.mono ?_; rintro e w' ⟨rfl, hq2, hk2⟩)
      try rw [Exit.noGoto_ret]
      go_ret3
      exact ⟨rfl, hq2, hk2⟩

theorem QuAt.onNew {w0 w w' B q} (k0 : Keep none_ w0 w) (k : Keep (only B) w w') (_ : QuAt w B q) (hB : w0.heap.size ≤ B) : Keep none_ w0 w' := k0.onNew k hB

set_option maxHeartbeats 400000 in
theorem awake14_any (w : World) : Calls Try.prog 28 #[] w fun e w' => e = .returned (.bool true) ∧ Keep none_ w w' := by
  have K0 := Lib.hid (qNew_any w)
  have k1 : ∀ w1, QuAt w1 w.heap.size ⟨[[], [], [], []], 0⟩ → Calls Try.prog 33 #[.pointer (some ⟨w.heap.size, 0, none⟩), .int .i64 2, .int .i64 5] w1 fun e w' => e = .returned (.int .i64 0) ∧ QuAt w' w.heap.size ⟨[[], [], [5], []], 0⟩ ∧ Keep (only w.heap.size) w1 w' := fun w1 h => qPut_yes _ _ 2 5 w1 h rfl (by decide)
  have k2 : ∀ w1, QuAt w1 w.heap.size ⟨[[], [], [5], []], 0⟩ → Calls Try.prog 33 #[.pointer (some ⟨w.heap.size, 0, none⟩), .int .i64 0, .int .i64 7] w1 fun e w' => e = .returned (.int .i64 0) ∧ QuAt w' w.heap.size ⟨[[7], [], [5], []], 0⟩ ∧ Keep (only w.heap.size) w1 w' := fun w1 h => qPut_yes _ _ 0 7 w1 h rfl (by decide)
  have k3 : ∀ w1, QuAt w1 w.heap.size ⟨[[7], [], [5], []], 0⟩ → Calls Try.prog 31 #[.pointer (some ⟨w.heap.size, 0, none⟩)] w1 fun e w' => e = .returned (.tuple #[.int .i64 7, .int .i64 0, .int .i64 0]) ∧ QuAt w' w.heap.size ⟨[[], [], [5], []], 1⟩ ∧ Keep (only w.heap.size) w1 w' := fun w1 h => qAny_yes _ _ 0 7 [] w1 h (by decide) (fun _ h => absurd h (by omega)) rfl (by decide)
  have k4 : ∀ w1, QuAt w1 w.heap.size ⟨[[], [], [5], []], 1⟩ → Calls Try.prog 35 #[.pointer (some ⟨w.heap.size, 0, none⟩)] w1 fun e w' => e = .returned (.int .i64 1) ∧ w1 = w' := fun w1 h => qOpen_any _ _ w1 h
  have K1 := Lib.hid k1; have K2 := Lib.hid k2; have K3 := Lib.hid k3; have K4 := Lib.hid k4
  clear k1 k2 k3 k4
  go_enter Try.func28, Try.ntmps28
  go_wp2_with fail
  refine K0.out.mono ?_
  rintro e w1 ⟨rfl, hb1, hk1⟩
  go_wp2_with fail
  refine (K1.out _ hb1).mono ?_
  rintro e w2 ⟨rfl, hb2, hk2⟩
  go_wp2_with fail
  refine (K2.out _ hb2).mono ?_
  rintro e w3 ⟨rfl, hb3, hk3⟩
  go_wp2_with fail
  refine (K3.out _ hb3).mono ?_
  rintro e w4 ⟨rfl, hb4, hk4⟩
  go_wp2_with fail
  refine (K4.out _ hb4).mono ?_
  rintro e w5 ⟨rfl, rfl⟩
  go_wp2_with fail
  go_ret
  exact ⟨rfl, ((hk1.onNew hk2 (Nat.le_refl _)).onNew hk3 (Nat.le_refl _)).onNew hk4 (Nat.le_refl _)⟩

end Go.Proofs.Ytcdmlinaebnbcaa
