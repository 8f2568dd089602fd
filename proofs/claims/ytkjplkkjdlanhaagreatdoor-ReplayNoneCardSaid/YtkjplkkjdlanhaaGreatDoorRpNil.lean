/- A replay that isn't there; the law's example. -/
import Derived.Test.YtkjplkkjdlanhaaGreatDoorRpTake2
namespace Go.Proofs.YtkjplkkjdlanhaaGreatDoor
open Go.RowKit Go.Sort

set_option maxRecDepth 4000 in
theorem rpAll_nil (a : Option Addr) (n c : Nat) (w : World) : Calls Tryz.prog 7 #[.pointer none, .slice a n c] w fun e w' => e = .returned (.tuple #[.int .i64 0, .bool false]) ∧ w = w' := by
  go_enter Tryz.func7, Tryz.ntmps7
  go_wp2_with fail
  go_ret2
  exact ⟨rfl, rfl⟩
set_option maxRecDepth 4000 in
theorem rpTake_nil (x0 x1 x2 x3 x4 x5 : Int) (w : World) : Calls Tryz.prog 9 #[.pointer none, .agg #[.int .i64 x0, .int .i64 x1, .int .i64 x2, .int .i64 x3, .int .i64 x4, .int .i64 x5]] w fun e w' => e = .returned (.bool false) ∧ Keep none_ w w' := by
  have HK : ∀ o, Hid (Keep none_ w (w.alloc o)) := fun o => (Keep.refl _ _).alloc o
  go_enter Tryz.func9, Tryz.ntmps9
  go_wp2_with fail
  refine wp_scope_straight ?_
  go_wp2_with fail
  simp only [Exit.noGoto]
  go_ret
  exact ⟨rfl, (HK _).out⟩
set_option maxRecDepth 4000 in
theorem rpAddress_nil (n : Int) (w : World) : Calls Tryz.prog 10 #[.pointer none, .int .i64 n] w fun e w' => e = .returned (.int .i64 0) ∧ w = w' := by
  go_enter Tryz.func10, Tryz.ntmps10
  go_wp2_with fail
  go_ret
  exact ⟨rfl, rfl⟩
set_option maxRecDepth 4000 in
theorem rpCount_nil (w : World) : Calls Tryz.prog 11 #[.pointer none] w fun e w' => e = .returned (.int .i64 0) ∧ w = w' := by
  go_enter Tryz.func11, Tryz.ntmps11
  go_wp2_with fail
  go_ret
  exact ⟨rfl, rfl⟩
set_option maxRecDepth 4000 in
theorem rpGraph_nil (w : World) : Calls Tryz.prog 12 #[.pointer none] w fun e w' => e = .returned (.pointer none) ∧ w = w' := by
  go_enter Tryz.func12, Tryz.ntmps12
  go_wp2_with fail
  go_ret
  exact ⟨rfl, rfl⟩
set_option maxRecDepth 4000 in
theorem rpSame_nil (p : Option Addr) (w : World) : Calls Tryz.prog 8 #[.pointer p, .pointer none] w fun e w' => e = .returned (.bool false) ∧ Keep none_ w w' := by
  have HK := Lib.hid (Keep.refl none_ w)
  cases p with
  | none =>
    go_enter Tryz.func8, Tryz.ntmps8
    go_wp2_with fail
    go_quiet (fail)
    go_wp2_with fail
    go_ret
    exact ⟨rfl, HK.out.drewN _⟩
  | some a =>
    go_enter Tryz.func8, Tryz.ntmps8
    go_wp2_with fail
    go_quiet (fail)
    go_wp2_with fail
    go_ret
    exact ⟨rfl, HK.out.drewN _⟩
set_option maxRecDepth 4000 in
theorem rpAddress_one (B av ac : Nat) (w : World) (h0 : w.cell? ⟨B, 10, none⟩ = some (.slice (some ⟨av, 0, none⟩) 1 ac)) (h1 : w.cell? ⟨av, 0, none⟩ = some (.int .i64 5)) : Calls Tryz.prog 10 #[.pointer (some ⟨B, 0, none⟩), .int .i64 1] w fun e w' => e = .returned (.int .i64 5) ∧ w = w' := by
  go_enter Tryz.func10, Tryz.ntmps10
  go_wp2_with fail
  go_ret
  exact ⟨rfl, rfl⟩
set_option maxRecDepth 4000 in
theorem rpCount_one (B : Nat) (w : World) (h0 : w.cell? ⟨B, 11, none⟩ = some (.int .i64 1)) : Calls Tryz.prog 11 #[.pointer (some ⟨B, 0, none⟩)] w fun e w' => e = .returned (.int .i64 1) ∧ w = w' := by
  go_enter Tryz.func11, Tryz.ntmps11
  go_wp2_with fail
  go_ret
  exact ⟨rfl, rfl⟩

set_option maxRecDepth 4000 in
set_option maxHeartbeats 1000000 in
theorem awake25_any (w : World) (hT : Tabs w) : Calls Tryz.prog 13 #[] w fun e w' => e = .returned (.bool true) ∧ Keep none_ w w' := by
  obtain ⟨W1, hW1⟩ : ∃ W', W' = (w.alloc (.cells #[.int .i64 1, .int .i64 0, .int .i64 1, .int .i64 0] 52)).alloc (.cells #[.slice (some ⟨w.heap.size, 0, none⟩) 1 1] 49) := ⟨_, rfl⟩
  have HK1 : Hid (Keep none_ w W1) := by rw [hW1]; exact ((Keep.refl _ _).alloc _).alloc _
  have hq : Blk W1 w.heap.size [.int .i64 1, .int .i64 0, .int .i64 1, .int .i64 0] 52 := by rw [hW1]; exact (Blk.new w _ _).alloc _
  have hp : Blk W1 (w.heap.size + 1) [.slice (some ⟨w.heap.size, 0, none⟩) 1 1] 49 := by
    rw [hW1]
    have h := Blk.new (w.alloc (.cells #[.int .i64 1, .int .i64 0, .int .i64 1, .int .i64 0] 52)) [.slice (some ⟨w.heap.size, 0, none⟩) 1 1] 49
    rw [World.size_alloc] at h
    exact h
  have HN := Lib.hid (rpNew_one W1 (hT.keep HK1.out) (w.heap.size + 1) w.heap.size (hp.cell 0 rfl) (hq.cell 0 rfl) (hq.cell 1 rfl) (hq.cell 2 rfl) (hq.cell 3 rfl))
  have HTT := Lib.hid (hT.keep HK1.out)
  simp only [cfg1, Conf.cells] at HN
  clear hq hp hT
  go_enter Tryz.func13, Tryz.ntmps13
  go_wp2_with fail
  rw [← hW1]
  clear hW1
  refine HN.out.mono ?_
  rintro e w2 ⟨B, G, pr, nx, pd, cap, rfl, hr, hk2⟩
  have HTK := rpTake_one hr (HTT.out.keep hk2) hk2
  simp only [evL] at HTK
  have HTK := Lib.hid HTK
  clear hr hk2 HN
  go_wp2_with fail
  refine HTK.out.mono ?_
  rintro e w3 ⟨rfl, hk3, av, ac, h0, h1, h2⟩
  have HA := Lib.hid (rpAddress_one B av ac w3 h0 h1)
  have HC := Lib.hid (rpCount_one B w3 h2)
  have HK3 := Lib.hid (HK1.out.trans hk3)
  clear h0 h1 h2 hk3
  go_wp2_with (first | (go_at_call 10; refine HA.out.mono ?_; rintro e w1 ⟨rfl, rfl⟩) | (go_at_call 11; refine HC.out.mono ?_; rintro e w1 ⟨rfl, rfl⟩))
  go_ret
  exact ⟨rfl, HK3.out⟩
end Go.Proofs.YtkjplkkjdlanhaaGreatDoor
