/- Right of the reference 02. -/
import Derived.Test.YtkjplkkjdlanhaaGreatDoorConf3
namespace Go.Proofs.YtkjplkkjdlanhaaGreatDoor
open Go.RowKit

set_option maxRecDepth 4000 in
set_option maxHeartbeats 4000000 in
theorem rRight_any (c : Conf) (w : World) : Calls Tryz.prog 4 #[.agg c.cells.toArray] w fun e w' => e = .returned (.bool c.ok) ∧ Keep none_ w w' := by
  obtain ⟨b, ww, m, r, cc, l, s⟩ := c
  obtain ⟨b0, h0⟩ : ∃ x, x = decide (1 ≤ b ∧ b ≤ 4096) := ⟨_, rfl⟩
  obtain ⟨b1, h1⟩ : ∃ x, x = decide (16 ≤ ww ∧ ww ≤ 256) := ⟨_, rfl⟩
  obtain ⟨b2, h2⟩ : ∃ x, x = decide (1 ≤ m ∧ m ≤ 8) := ⟨_, rfl⟩
  obtain ⟨b3, h3⟩ : ∃ x, x = decide (1 ≤ r ∧ r ≤ 64) := ⟨_, rfl⟩
  obtain ⟨b4, h4⟩ : ∃ x, x = decide (0 ≤ cc ∧ cc ≤ 64) := ⟨_, rfl⟩
  obtain ⟨b5, h5⟩ : ∃ x, x = decide (1 ≤ l ∧ l ≤ 256) := ⟨_, rfl⟩
  obtain ⟨b6, h6⟩ : ∃ x, x = decide (1 ≤ s ∧ s ≤ 4096) := ⟨_, rfl⟩
  have e : Conf.ok ⟨b, ww, m, r, cc, l, s⟩ = (b0 && b1 && b2 && b3 && b4 && b5 && b6) := by rw [h0, h1, h2, h3, h4, h5, h6]; rfl
  have HW : Hid (∀ x lo hi y W, y = decide (lo ≤ x ∧ x ≤ hi) → Calls Tryz.prog 14 #[.int .i64 x, .int .i64 lo, .int .i64 hi] W fun e w' => e = .returned (.bool y) ∧ W = w') := fun x lo hi y W hy => by
    rw [hy, Bool.decide_and]; exact (within_is x lo hi W).mono (fun _ _ h => ⟨h.1, h.2.symm⟩)
  have H := Lib.hid (And.intro h0 (And.intro h1 (And.intro h2 (And.intro h3 (And.intro h4 (And.intro h5 h6))))))
  clear h0 h1 h2 h3 h4 h5 h6
  rw [e]
  clear e
  simp only [Conf.cells]
  obtain ⟨W0, hW0⟩ : ∃ W', W' = w.alloc (.cells #[.int .i64 b, .int .i64 ww, .int .i64 m, .int .i64 r, .int .i64 cc, .int .i64 l, .int .i64 s] 23) := ⟨_, rfl⟩
  have HK : Hid (Keep none_ w W0) := by rw [hW0]; exact (Keep.refl _ _).alloc _
  have HA : Hid (Blk W0 w.heap.size [.int .i64 b, .int .i64 ww, .int .i64 m, .int .i64 r, .int .i64 cc, .int .i64 l, .int .i64 s] 23) := by rw [hW0]; exact Blk.new w _ _
  have d0 := HA.out.cell 0 rfl; have d1 := HA.out.cell 1 rfl; have d2 := HA.out.cell 2 rfl; have d3 := HA.out.cell 3 rfl; have d4 := HA.out.cell 4 rfl; have d5 := HA.out.cell 5 rfl; have d6 := HA.out.cell 6 rfl
  have HC0 : Hid (Calls Tryz.prog 14 #[.int .i64 b, .int .i64 1, .int .i64 4096] W0 fun e w' => e = .returned (.bool b0) ∧ W0 = w') := HW.out _ _ _ _ _ H.out.1
  have HC1 : Hid (Calls Tryz.prog 14 #[.int .i64 ww, .int .i64 16, .int .i64 256] W0 fun e w' => e = .returned (.bool b1) ∧ W0 = w') := HW.out _ _ _ _ _ H.out.2.1
  have HC2 : Hid (Calls Tryz.prog 14 #[.int .i64 m, .int .i64 1, .int .i64 8] W0 fun e w' => e = .returned (.bool b2) ∧ W0 = w') := HW.out _ _ _ _ _ H.out.2.2.1
  have HC3 : Hid (Calls Tryz.prog 14 #[.int .i64 r, .int .i64 1, .int .i64 64] W0 fun e w' => e = .returned (.bool b3) ∧ W0 = w') := HW.out _ _ _ _ _ H.out.2.2.2.1
  have HC4 : Hid (Calls Tryz.prog 14 #[.int .i64 cc, .int .i64 0, .int .i64 64] W0 fun e w' => e = .returned (.bool b4) ∧ W0 = w') := HW.out _ _ _ _ _ H.out.2.2.2.2.1
  have HC5 : Hid (Calls Tryz.prog 14 #[.int .i64 l, .int .i64 1, .int .i64 256] W0 fun e w' => e = .returned (.bool b5) ∧ W0 = w') := HW.out _ _ _ _ _ H.out.2.2.2.2.2.1
  have HC6 : Hid (Calls Tryz.prog 14 #[.int .i64 s, .int .i64 1, .int .i64 4096] W0 fun e w' => e = .returned (.bool b6) ∧ W0 = w') := HW.out _ _ _ _ _ H.out.2.2.2.2.2.2
  clear HW H HA
  have HW0 := Lib.hid hW0
  clear hW0
  go_enter Tryz.func4, Tryz.ntmps4
  go_wp2_with fail
  rw [← HW0.out]
  refine HC0.out.mono ?_
  rintro e w1 ⟨rfl, rfl⟩
  cases b0 with
  | false =>
    go_wp2_with fail
    go_ret
    exact ⟨rfl, HK.out⟩
  | true =>
  go_wp2_with fail
  refine HC1.out.mono ?_
  rintro e w1 ⟨rfl, rfl⟩
  cases b1 with
  | false =>
    go_wp2_with fail
    go_ret
    exact ⟨rfl, HK.out⟩
  | true =>
  go_wp2_with fail
  refine HC2.out.mono ?_
  rintro e w1 ⟨rfl, rfl⟩
  cases b2 with
  | false =>
    go_wp2_with fail
    go_ret
    exact ⟨rfl, HK.out⟩
  | true =>
  go_wp2_with fail
  refine HC3.out.mono ?_
  rintro e w1 ⟨rfl, rfl⟩
  cases b3 with
  | false =>
    go_wp2_with fail
    go_ret
    exact ⟨rfl, HK.out⟩
  | true =>
  go_wp2_with fail
  refine HC4.out.mono ?_
  rintro e w1 ⟨rfl, rfl⟩
  cases b4 with
  | false =>
    go_wp2_with fail
    go_ret
    exact ⟨rfl, HK.out⟩
  | true =>
  go_wp2_with fail
  refine HC5.out.mono ?_
  rintro e w1 ⟨rfl, rfl⟩
  cases b5 with
  | false =>
    go_wp2_with fail
    go_ret
    exact ⟨rfl, HK.out⟩
  | true =>
  go_wp2_with fail
  refine HC6.out.mono ?_
  rintro e w1 ⟨rfl, rfl⟩
  go_wp2_with fail
  go_ret
  exact ⟨by simp, HK.out⟩
end Go.Proofs.YtkjplkkjdlanhaaGreatDoor
