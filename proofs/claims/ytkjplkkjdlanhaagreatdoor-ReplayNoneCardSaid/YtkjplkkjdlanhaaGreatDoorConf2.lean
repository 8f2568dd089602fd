/- Little: a small config, of any numbers. -/
import Derived.Test.YtkjplkkjdlanhaaGreatDoorConf1
import Derived.StillTailTactics
namespace Go.Proofs.YtkjplkkjdlanhaaGreatDoor
open Go.RowKit

/-- A config. -/
structure Conf where
  b : Int
  w : Int
  m : Int
  r : Int
  c : Int
  l : Int
  s : Int
deriving DecidableEq
def Conf.cells (c : Conf) : List Value := [.int .i64 c.b, .int .i64 c.w, .int .i64 c.m, .int .i64 c.r, .int .i64 c.c, .int .i64 c.l, .int .i64 c.s]
def Conf.wf (c : Conf) : Prop := (Lit.int .i64 c.b).wf = true ∧ (Lit.int .i64 c.w).wf = true ∧ (Lit.int .i64 c.m).wf = true ∧ (Lit.int .i64 c.r).wf = true ∧ (Lit.int .i64 c.c).wf = true ∧ (Lit.int .i64 c.l).wf = true ∧ (Lit.int .i64 c.s).wf = true
def Conf.little (c : Conf) : Conf := ⟨1 + c.b % 4, 16 + c.w % 20, 1 + c.m % 4, 1 + c.r % 5, c.c % 4, 1 + c.l % 4, 1 + c.s % 4⟩
def leaf7 : List Leaf := [.int .i64, .int .i64, .int .i64, .int .i64, .int .i64, .int .i64, .int .i64]
theorem conf_of {cs : List Value} (h : FlatOk [.int .i64, .int .i64, .int .i64, .int .i64, .int .i64, .int .i64, .int .i64] cs) : ∃ c : Conf, cs = c.cells ∧ c.wf := by
  obtain ⟨v0, h0, x0, rfl, y0⟩ := h.at_ 0 _ rfl
  obtain ⟨v1, h1, x1, rfl, y1⟩ := h.at_ 1 _ rfl
  obtain ⟨v2, h2, x2, rfl, y2⟩ := h.at_ 2 _ rfl
  obtain ⟨v3, h3, x3, rfl, y3⟩ := h.at_ 3 _ rfl
  obtain ⟨v4, h4, x4, rfl, y4⟩ := h.at_ 4 _ rfl
  obtain ⟨v5, h5, x5, rfl, y5⟩ := h.at_ 5 _ rfl
  obtain ⟨v6, h6, x6, rfl, y6⟩ := h.at_ 6 _ rfl
  have hl := h.len
  match cs, hl with
  | [a0, a1, a2, a3, a4, a5, a6], _ =>
    simp at h0 h1 h2 h3 h4 h5 h6
    exact ⟨⟨x0, x1, x2, x3, x4, x5, x6⟩, by simp [Conf.cells, h0, h1, h2, h3, h4, h5, h6], y0, y1, y2, y3, y4, y5, y6⟩

theorem mod_of {x m p : Int} (hp : Hid (x % m = p)) (hm : 0 < m) (hm2 : m ≤ 1000) (w : World) : Calls Tryz.prog 17 #[.int .i64 x, .int .i64 m] w fun e w' => e = .returned (.int .i64 p) ∧ w' = w := by
  rw [← hp.out]; exact mod_is x m hm hm2 w
theorem emod_at (x m : Int) (hm : 0 < m) : ∃ p, Hid (x % m = p) ∧ 0 ≤ p ∧ p < m := ⟨x % m, rfl, Int.emod_nonneg x (by omega), Int.emod_lt_of_pos x hm⟩

set_option maxRecDepth 4000 in
set_option maxHeartbeats 4000000 in
theorem little_any (c : Conf) (w : World) : Calls Tryz.prog 6 #[.agg c.cells.toArray] w fun e w' => e = .returned (.agg c.little.cells.toArray) ∧ Keep none_ w w' := by
  obtain ⟨b, ww, m, r, cc, l, s⟩ := c
  simp only [Conf.cells, Conf.little]
  obtain ⟨p0, H0, l0, g0⟩ := emod_at b 4 (by decide)
  obtain ⟨p1, H1, l1, g1⟩ := emod_at ww 20 (by decide)
  obtain ⟨p2, H2, l2, g2⟩ := emod_at m 4 (by decide)
  obtain ⟨p3, H3, l3, g3⟩ := emod_at r 5 (by decide)
  obtain ⟨p4, H4, l4, g4⟩ := emod_at cc 4 (by decide)
  obtain ⟨p5, H5, l5, g5⟩ := emod_at l 4 (by decide)
  obtain ⟨p6, H6, l6, g6⟩ := emod_at s 4 (by decide)
  rw [H0.out, H1.out, H2.out, H3.out, H4.out, H5.out, H6.out]
  obtain ⟨W0, hW0⟩ : ∃ W', W' = (w.alloc (.cells #[.int .i64 b, .int .i64 ww, .int .i64 m, .int .i64 r, .int .i64 cc, .int .i64 l, .int .i64 s] 23)).alloc (.cells #[.int .i64 0, .int .i64 0, .int .i64 0, .int .i64 0, .int .i64 0, .int .i64 0, .int .i64 0] 23) := ⟨_, rfl⟩
  have HA : Hid (Blk W0 w.heap.size [.int .i64 b, .int .i64 ww, .int .i64 m, .int .i64 r, .int .i64 cc, .int .i64 l, .int .i64 s] 23) := by rw [hW0]; exact (Blk.new w _ _).alloc _
  have HB : Hid (Blk W0 (w.heap.size + 1) [.int .i64 0, .int .i64 0, .int .i64 0, .int .i64 0, .int .i64 0, .int .i64 0, .int .i64 0] 23) := by rw [hW0]; have h := Blk.new (w.alloc (.cells #[.int .i64 b, .int .i64 ww, .int .i64 m, .int .i64 r, .int .i64 cc, .int .i64 l, .int .i64 s] 23)) [.int .i64 0, .int .i64 0, .int .i64 0, .int .i64 0, .int .i64 0, .int .i64 0, .int .i64 0] 23; simp only [World.size_alloc] at h; exact h
  have HK : Hid (Keep none_ w W0) := by rw [hW0]; exact ((Keep.refl _ _).alloc _).alloc _
  go_enter Tryz.func6, Tryz.ntmps6
  go_wp2_with fail
  rw [← hW0]
  clear hW0
  have d0 := HA.out.cell 0 rfl; have d1 := HA.out.cell 1 rfl; have d2 := HA.out.cell 2 rfl; have d3 := HA.out.cell 3 rfl; have d4 := HA.out.cell 4 rfl; have d5 := HA.out.cell 5 rfl; have d6 := HA.out.cell 6 rfl
  refine wp_region_still_tail 28 (by kernel_rfl) (by kernel_rfl) ?_
  change wpStill _ _ (World.drew _) _ _ _
  simp only [List.take_succ_cons, List.take_zero, List.drop_succ_cons, List.drop_zero]
  still_step
  still_step
  still_call (mod_of H0 (by decide) (by decide) _)
  still_step
  still_step
  still_step
  still_call (mod_of H1 (by decide) (by decide) _)
  still_step
  still_step
  still_step
  still_call (mod_of H2 (by decide) (by decide) _)
  still_step
  still_step
  still_step
  still_call (mod_of H3 (by decide) (by decide) _)
  still_step
  still_step
  still_step
  still_call (mod_of H4 (by decide) (by decide) _)
  still_step
  still_step
  still_call (mod_of H5 (by decide) (by decide) _)
  still_step
  still_step
  still_step
  still_call (mod_of H6 (by decide) (by decide) _)
  still_step
  still_step
  refine wpStill_nil ?_
  change wpList _ _ _ _ _ W0.drew
  have z0 := HB.out.free 0; have z1 := HB.out.free 1; have z2 := HB.out.free 2; have z3 := HB.out.free 3; have z4 := HB.out.free 4; have z5 := HB.out.free 5; have z6 := HB.out.free 6
  have y0 := HB.out.cell 0 rfl; have y1 := HB.out.cell 1 rfl; have y2 := HB.out.cell 2 rfl; have y3 := HB.out.cell 3 rfl; have y4 := HB.out.cell 4 rfl; have y5 := HB.out.cell 5 rfl; have y6 := HB.out.cell 6 rfl
  go_wp2_with fail
  have hB := ((((((HB.out.set 0 (.int .i64 (1 + p0))).set 1 (.int .i64 (16 + p1))).set 2 (.int .i64 (1 + p2))).set 3 (.int .i64 (1 + p3))).set 4 (.int .i64 p4)).set 5 (.int .i64 (1 + p5))).set 6 (.int .i64 (1 + p6))
  have hk := ((((((HK.out.putNew (B := w.heap.size + 1) (Nat.le_succ _) 0 (.int .i64 (1 + p0))).putNew (B := w.heap.size + 1) (Nat.le_succ _) 1 (.int .i64 (16 + p1))).putNew (B := w.heap.size + 1) (Nat.le_succ _) 2 (.int .i64 (1 + p2))).putNew (B := w.heap.size + 1) (Nat.le_succ _) 3 (.int .i64 (1 + p3))).putNew (B := w.heap.size + 1) (Nat.le_succ _) 4 (.int .i64 p4)).putNew (B := w.heap.size + 1) (Nat.le_succ _) 5 (.int .i64 (1 + p5))).putNew (B := w.heap.size + 1) (Nat.le_succ _) 6 (.int .i64 (1 + p6))
  have k0 := hB.cell 0 rfl; have k1 := hB.cell 1 rfl; have k2 := hB.cell 2 rfl; have k3 := hB.cell 3 rfl; have k4 := hB.cell 4 rfl; have k5 := hB.cell 5 rfl; have k6 := hB.cell 6 rfl
  exact bodyPost_ret (by simp [results, Tryz.f6, go_sem, k0, k1, k2, k3, k4, k5, k6]) rfl ⟨rfl, hk.drew⟩
end Go.Proofs.YtkjplkkjdlanhaaGreatDoor
