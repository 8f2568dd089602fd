/- The walks of the laws of board. -/
import Derived.Test.YtcdmlinaebnbcaaRows
import Derived.Test.YtcdmlinaebnbcaaMem
import Derived.Test.YtcdmlinaebnbcaaBoard2
namespace Go.Proofs.Ytcdmlinaebnbcaa
open Go.RowKit

set_option maxHeartbeats 400000 in
theorem awake12_any (w : World) :
    Calls Try.prog 19 #[] w fun e w' => e = .returned (.bool true) ∧ Keep none_ w w' := by
  have k0 := new_yes 2 w (by decide) (by decide)
  have k1 : ∀ w1, BdAt w1 w.heap.size (Bd.new 2) → Calls Try.prog 21 #[.pointer (some ⟨w.heap.size, 0, none⟩), .int .i64 1] w1 fun e w' => e = .returned (.int .i64 0) ∧ BdAt w' w.heap.size ((Bd.new 2).askB 1) ∧ Keep (only w.heap.size) w1 w' := fun w1 h => ask_any _ _ 1 w1 h (by decide) (by decide)
  have k2 : ∀ w1, BdAt w1 w.heap.size ((Bd.new 2).askB 1) → Calls Try.prog 25 #[.pointer (some ⟨w.heap.size, 0, none⟩), .int .i64 0] w1 fun e w' => e = .returned (.int .i64 0) ∧ BdAt w' w.heap.size (((Bd.new 2).askB 1).ansB 0) ∧ Keep (only w.heap.size) w1 w' := fun w1 h => answer_any _ _ 0 w1 h
  have k3 : ∀ w1, BdAt w1 w.heap.size (((Bd.new 2).askB 1).ansB 0) → Calls Try.prog 21 #[.pointer (some ⟨w.heap.size, 0, none⟩), .int .i64 2] w1 fun e w' => e = .returned (.int .i64 11) ∧ BdAt w' w.heap.size (((Bd.new 2).askB 1).ansB 0) ∧ Keep (only w.heap.size) w1 w' := fun w1 h => ask_any _ _ 2 w1 h (by decide) (by decide)
  have k4 : ∀ w1, BdAt w1 w.heap.size (((Bd.new 2).askB 1).ansB 0) → Calls Try.prog 23 #[.pointer (some ⟨w.heap.size, 0, none⟩), .int .i64 1] w1 fun e w' => e = .returned (.tuple #[.int .i64 1, .bool true]) ∧ w1 = w' := fun w1 h => pending_any _ _ 1 w1 h
  have K0 := Lib.hid k0; have K1 := Lib.hid k1; have K2 := Lib.hid k2; have K3 := Lib.hid k3; have K4 := Lib.hid k4
  clear k0 k1 k2 k3 k4
  go_enter Try.func19, Try.ntmps19
  go_wp2_with fail
  refine K0.out.mono ?_
  rintro e w1 ⟨rfl, hb1, hk1⟩
  go_wp2_with fail
  refine (K1.out _ hb1).mono ?_
  rintro e w2 ⟨rfl, hb2, hk2⟩
  go_wp2_with fail
  refine (K2.out _ hb2).mono ?_
  rintro e w3 ⟨rfl, hb3, hk3⟩
  go_wp2_with fail
  refine (K3.out _ hb3).mono ?_
  rintro e w4 ⟨rfl, hb4, hk4⟩
  go_wp2_with fail
  refine (K4.out _ hb4).mono ?_
  rintro e w5 ⟨rfl, rfl⟩
  go_wp2_with fail
  go_ret
  have n : ∀ i, i < w.heap.size → only w.heap.size i → none_ i := fun i hi h => by unfold only at h; omega
  exact ⟨rfl, ((hk1.trans' hk2 n).trans' hk3 n).trans' hk4 n⟩

set_option maxHeartbeats 400000 in
theorem boardNone_any (m n : Int) (w : World) (_ : (Lit.int .i64 m).wf = true) (_ : (Lit.int .i64 n).wf = true) :
    Calls Try.prog 7 #[.int .i64 m, .int .i64 n] w fun e w' => e = .returned (.bool true) ∧ Keep none_ w w' := by
  by_cases h : m < 1
  · have k0 := fun w => new_no m w (.inl h)
    have K0 := Lib.hid k0; clear k0
    go_enter Try.func7, Try.ntmps7
    go_wp2_with first | (go_at_call 20; refine (K0.out _).mono ?_; rintro e w1 ⟨rfl, rfl⟩) | (go_at_call 23; refine (pending_nil _ _).mono ?_; rintro e w1 ⟨rfl, rfl⟩) | (go_at_call 21; refine (ask_nil _ _).mono ?_; rintro e w1 ⟨rfl, rfl⟩) | (go_at_call 25; refine (answer_nil _ _).mono ?_; rintro e w1 ⟨rfl, rfl⟩) | (go_at_call 27; refine (answered_nil _ _).mono ?_; rintro e w1 ⟨rfl, rfl⟩) | (go_at_call 24; refine (all_nil _).mono ?_; rintro e w1 ⟨rfl, rfl⟩) | (go_at_call 22; refine (count_nil _).mono ?_; rintro e w1 ⟨rfl, rfl⟩) | (go_at_call 19; refine (awake12_any _).mono ?_; rintro e w1 ⟨rfl, hk⟩)
    go_ret
    exact ⟨rfl, hk⟩
  · by_cases h' : 8 < m
    · have k0 := fun w => new_no m w (.inr h')
      have K0 := Lib.hid k0; clear k0
      go_enter Try.func7, Try.ntmps7
      go_wp2_with first | (go_at_call 20; refine (K0.out _).mono ?_; rintro e w1 ⟨rfl, rfl⟩) | (go_at_call 23; refine (pending_nil _ _).mono ?_; rintro e w1 ⟨rfl, rfl⟩) | (go_at_call 21; refine (ask_nil _ _).mono ?_; rintro e w1 ⟨rfl, rfl⟩) | (go_at_call 25; refine (answer_nil _ _).mono ?_; rintro e w1 ⟨rfl, rfl⟩) | (go_at_call 27; refine (answered_nil _ _).mono ?_; rintro e w1 ⟨rfl, rfl⟩) | (go_at_call 24; refine (all_nil _).mono ?_; rintro e w1 ⟨rfl, rfl⟩) | (go_at_call 22; refine (count_nil _).mono ?_; rintro e w1 ⟨rfl, rfl⟩) | (go_at_call 19; refine (awake12_any _).mono ?_; rintro e w1 ⟨rfl, hk⟩)
      go_ret
      exact ⟨rfl, hk⟩
    · go_enter Try.func7, Try.ntmps7
      go_wp2_with first | (go_at_call 23; refine (pending_nil _ _).mono ?_; rintro e w1 ⟨rfl, rfl⟩) | (go_at_call 21; refine (ask_nil _ _).mono ?_; rintro e w1 ⟨rfl, rfl⟩) | (go_at_call 25; refine (answer_nil _ _).mono ?_; rintro e w1 ⟨rfl, rfl⟩) | (go_at_call 27; refine (answered_nil _ _).mono ?_; rintro e w1 ⟨rfl, rfl⟩) | (go_at_call 24; refine (all_nil _).mono ?_; rintro e w1 ⟨rfl, rfl⟩) | (go_at_call 22; refine (count_nil _).mono ?_; rintro e w1 ⟨rfl, rfl⟩) | (go_at_call 19; refine (awake12_any _).mono ?_; rintro e w1 ⟨rfl, hk⟩)
      go_ret
      exact ⟨rfl, hk⟩

end Go.Proofs.Ytcdmlinaebnbcaa
