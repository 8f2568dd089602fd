/- numbers, Clamp and Right of package config. -/
import Derived.Test.YtkjplkkjdlanhaaGreatDoorConf2
import Derived.Test.YtkjplkkjdlanhaaGreatDoorQuietR
import Derived.Deep.LoopGhost
namespace Go.Proofs.YtkjplkkjdlanhaaGreatDoor
open Go.RowKit Go.Sort

def fieldPtrs (B : Nat) : List Value := [.pointer (some ⟨B, 0, none⟩), .pointer (some ⟨B, 1, none⟩), .pointer (some ⟨B, 2, none⟩), .pointer (some ⟨B, 3, none⟩), .pointer (some ⟨B, 4, none⟩), .pointer (some ⟨B, 5, none⟩), .pointer (some ⟨B, 6, none⟩)]

set_option maxRecDepth 4000 in
set_option maxHeartbeats 4000000 in
theorem numbers_any (B : Nat) (w : World) : Calls Tryz.prog 66 #[.pointer (some ⟨B, 0, none⟩)] w fun e w' => e = .returned (.agg (fieldPtrs B).toArray) ∧ Keep none_ w w' := by
  obtain ⟨W0, hW0⟩ : ∃ W', W' = w.alloc (.cells #[.pointer none, .pointer none, .pointer none, .pointer none, .pointer none, .pointer none, .pointer none] 118) := ⟨_, rfl⟩
  have HB : Hid (Blk W0 w.heap.size [.pointer none, .pointer none, .pointer none, .pointer none, .pointer none, .pointer none, .pointer none] 118) := by rw [hW0]; exact Blk.new w _ _
  have HK : Hid (Keep none_ w W0) := by rw [hW0]; exact (Keep.refl _ _).alloc _
  go_enter Tryz.func66, Tryz.ntmps66
  go_wp2_with fail
  rw [← hW0]
  clear hW0
  refine wp_region_still_tail 22 (by kernel_rfl) (by kernel_rfl) ?_
  change wpStill _ _ (World.drew _) _ _ _
  simp only [List.take_succ_cons, List.take_zero, List.drop_succ_cons, List.drop_zero]
  repeat still_step
  refine wpStill_nil ?_
  change wpList _ _ _ _ _ W0.drew
  have z0 := HB.out.free 0; have z1 := HB.out.free 1; have z2 := HB.out.free 2; have z3 := HB.out.free 3; have z4 := HB.out.free 4; have z5 := HB.out.free 5; have z6 := HB.out.free 6
  have y0 := HB.out.cell 0 rfl; have y1 := HB.out.cell 1 rfl; have y2 := HB.out.cell 2 rfl; have y3 := HB.out.cell 3 rfl; have y4 := HB.out.cell 4 rfl; have y5 := HB.out.cell 5 rfl; have y6 := HB.out.cell 6 rfl
  go_wp2_with fail
  have hB := ((((((HB.out.set 0 (.pointer (some ⟨B, 0, none⟩))).set 1 (.pointer (some ⟨B, 1, none⟩))).set 2 (.pointer (some ⟨B, 2, none⟩))).set 3 (.pointer (some ⟨B, 3, none⟩))).set 4 (.pointer (some ⟨B, 4, none⟩))).set 5 (.pointer (some ⟨B, 5, none⟩))).set 6 (.pointer (some ⟨B, 6, none⟩))
  have hk := ((((((HK.out.putNew (B := w.heap.size) (Nat.le_refl _) 0 (.pointer (some ⟨B, 0, none⟩))).putNew (B := w.heap.size) (Nat.le_refl _) 1 (.pointer (some ⟨B, 1, none⟩))).putNew (B := w.heap.size) (Nat.le_refl _) 2 (.pointer (some ⟨B, 2, none⟩))).putNew (B := w.heap.size) (Nat.le_refl _) 3 (.pointer (some ⟨B, 3, none⟩))).putNew (B := w.heap.size) (Nat.le_refl _) 4 (.pointer (some ⟨B, 4, none⟩))).putNew (B := w.heap.size) (Nat.le_refl _) 5 (.pointer (some ⟨B, 5, none⟩))).putNew (B := w.heap.size) (Nat.le_refl _) 6 (.pointer (some ⟨B, 6, none⟩))
  have k0 := hB.cell 0 rfl; have k1 := hB.cell 1 rfl; have k2 := hB.cell 2 rfl; have k3 := hB.cell 3 rfl; have k4 := hB.cell 4 rfl; have k5 := hB.cell 5 rfl; have k6 := hB.cell 6 rfl
  exact bodyPost_ret (by simp [results, fieldPtrs, Tryz.f66, go_sem, k0, k1, k2, k3, k4, k5, k6]) rfl ⟨rfl, hk.drew⟩

def near (lo hi x : Int) : Int := max lo (min hi x)
def Conf.clamp (c : Conf) : Conf := ⟨near 1 4096 c.b, near 16 256 c.w, near 1 8 c.m, near 1 64 c.r, near 0 64 c.c, near 1 256 c.l, near 1 4096 c.s⟩
def Conf.ok (c : Conf) : Bool := decide (1 ≤ c.b ∧ c.b ≤ 4096) && decide (16 ≤ c.w ∧ c.w ≤ 256) && decide (1 ≤ c.m ∧ c.m ≤ 8) && decide (1 ≤ c.r ∧ c.r ≤ 64) && decide (0 ≤ c.c ∧ c.c ≤ 64) && decide (1 ≤ c.l ∧ c.l ≤ 256) && decide (1 ≤ c.s ∧ c.s ≤ 4096)

/-- The cells behind k rounds. -/
def Conf.part (c : Conf) (k : Nat) : List Value := c.clamp.cells.take k ++ c.cells.drop k

set_option maxRecDepth 4000 in
set_option maxHeartbeats 4000000 in
theorem clamp_any (c : Conf) (w : World) (hT : Tabs w) : Calls Tryz.prog 44 #[.agg c.cells.toArray] w fun e w' => e = .returned (.agg c.clamp.cells.toArray) ∧ Keep none_ w w' := by
  obtain ⟨b, ww, m, r, cc, l, s⟩ := c
  have HT := Lib.hid hT
  clear hT
  obtain ⟨W0, hW0⟩ : ∃ W', W' = (w.alloc (.cells #[.int .i64 b, .int .i64 ww, .int .i64 m, .int .i64 r, .int .i64 cc, .int .i64 l, .int .i64 s] 23)).alloc (.cells #[.int .i64 0, .int .i64 0, .int .i64 0, .int .i64 0, .int .i64 0, .int .i64 0, .int .i64 0] 23) := ⟨_, rfl⟩
  have HA : Hid (Blk W0 w.heap.size (Conf.part ⟨b, ww, m, r, cc, l, s⟩ 0) 23) := by rw [hW0]; exact (Blk.new w _ _).alloc _
  have HB : Hid (Blk W0 (w.heap.size + 1) [.int .i64 0, .int .i64 0, .int .i64 0, .int .i64 0, .int .i64 0, .int .i64 0, .int .i64 0] 23) := by rw [hW0]; have h := Blk.new (w.alloc (.cells #[.int .i64 b, .int .i64 ww, .int .i64 m, .int .i64 r, .int .i64 cc, .int .i64 l, .int .i64 s] 23)) [.int .i64 0, .int .i64 0, .int .i64 0, .int .i64 0, .int .i64 0, .int .i64 0, .int .i64 0] 23; simp only [World.size_alloc] at h; exact h
  have HK : Hid (Keep none_ w W0) := by rw [hW0]; exact ((Keep.refl _ _).alloc _).alloc _
  simp only [Conf.cells]
  go_enter Tryz.func44, Tryz.ntmps44
  go_wp2_with fail
  rw [← hW0]
  clear hW0
  refine (numbers_any _ _).mono ?_
  rintro e w1 ⟨rfl, hk1⟩
  have HA1 := Lib.hid (hk1.blk HA.out (fun f => f))
  have HB1 := Lib.hid (hk1.blk HB.out (fun f => f))
  have HK1 := Lib.hid (HK.out.trans hk1)
  clear hk1 HA HB HK
  simp only [fieldPtrs]
  go_wp2_with fail
  go_loopg [3, 4, 6] 7 (fun g x y i wr => ∃ k : Nat, g + k = 7 ∧ i = .int .i64 k ∧ Hid (Blk wr w.heap.size (Conf.part ⟨b, ww, m, r, cc, l, s⟩ k) 23) ∧ Hid (Blk wr (w.heap.size + 1) [.int .i64 0, .int .i64 0, .int .i64 0, .int .i64 0, .int .i64 0, .int .i64 0, .int .i64 0] 23) ∧ Hid (Keep none_ w wr))
  case atStart => exact ⟨0, rfl, rfl, HA1, HB1, HK1⟩
  case round =>
    obtain ⟨k, hg, rfl, HA2, HB2, HK2⟩ := hrel
    clear HA1 HB1 HK1
    have e : k = 0 ∨ k = 1 ∨ k = 2 ∨ k = 3 ∨ k = 4 ∨ k = 5 ∨ k = 6 ∨ k = 7 := by omega
    rcases e with rfl | rfl | rfl | rfl | rfl | rfl | rfl | rfl
    · have hix : ∀ w' : World, (Instr.index 118 (.agg (#[.pointer (some ⟨w.heap.size, 0, none⟩), .pointer (some ⟨w.heap.size, 1, none⟩), .pointer (some ⟨w.heap.size, 2, none⟩), .pointer (some ⟨w.heap.size, 3, none⟩), .pointer (some ⟨w.heap.size, 4, none⟩), .pointer (some ⟨w.heap.size, 5, none⟩), .pointer (some ⟨w.heap.size, 6, none⟩)])) (.int .i64 0)).run Tryz.prog w' = .ok (.pointer (some ⟨w.heap.size, 0, none⟩)) w' := fun w' => by kernel_rfl
      simp only [show (((0 : Nat) : Int)) = 0 from rfl]
      have d := HA2.out.cell 0 (v := .int .i64 b) rfl
      have z := HA2.out.free 0
      have m0 := (HT.out.keep HK2.out).lim 0 _ rfl
      have m1 := (HT.out.keep HK2.out).lim 1 _ rfl
      have HN : Hid (Blk ((wr.setCell ⟨w.heap.size, 0, none⟩ (.int .i64 (near 1 4096 b))).drew) w.heap.size (Conf.part ⟨b, ww, m, r, cc, l, s⟩ 1) 23) := (HA2.out.set 0 (.int .i64 (near 1 4096 b))).drew
      have HBN : Hid (Blk ((wr.setCell ⟨w.heap.size, 0, none⟩ (.int .i64 (near 1 4096 b))).drew) (w.heap.size + 1) [.int .i64 0, .int .i64 0, .int .i64 0, .int .i64 0, .int .i64 0, .int .i64 0, .int .i64 0] 23) := (HB2.out.other (a := ⟨w.heap.size, 0, none⟩) (by simp) _).drew
      have HKN : Hid (Keep none_ w ((wr.setCell ⟨w.heap.size, 0, none⟩ (.int .i64 (near 1 4096 b))).drew)) := (HK2.out.putNew (Nat.le_refl _) _ _).drew
      go_wp2_with fail
      refine wp_region_still_tail 15 (by kernel_rfl) (by kernel_rfl) ?_
      change wpStill _ _ (World.drew _) _ _ _
      simp only [List.take_succ_cons, List.take_zero, List.drop_succ_cons, List.drop_zero]
      repeat still_step
      refine wpStill_nil ?_
      change wpList _ _ _ _ _ wr.drew
      go_wp2_with fail
      all_goals first
        | (have hv : near 1 4096 b = b := by unfold near; omega
           rw [hv] at HN HBN HKN
           go_roundg (gk - 1)
           case measure => omega
           case rel => exact ⟨1, by omega, rfl, HN, HBN, HKN⟩)
        | (have hv : near 1 4096 b = 1 := by unfold near; omega
           rw [hv] at HN HBN HKN
           go_roundg (gk - 1)
           case measure => omega
           case rel => exact ⟨1, by omega, rfl, HN, HBN, HKN⟩)
        | (have hv : near 1 4096 b = 4096 := by unfold near; omega
           rw [hv] at HN HBN HKN
           go_roundg (gk - 1)
           case measure => omega
           case rel => exact ⟨1, by omega, rfl, HN, HBN, HKN⟩)
    · have hix : ∀ w' : World, (Instr.index 118 (.agg (#[.pointer (some ⟨w.heap.size, 0, none⟩), .pointer (some ⟨w.heap.size, 1, none⟩), .pointer (some ⟨w.heap.size, 2, none⟩), .pointer (some ⟨w.heap.size, 3, none⟩), .pointer (some ⟨w.heap.size, 4, none⟩), .pointer (some ⟨w.heap.size, 5, none⟩), .pointer (some ⟨w.heap.size, 6, none⟩)])) (.int .i64 1)).run Tryz.prog w' = .ok (.pointer (some ⟨w.heap.size, 1, none⟩)) w' := fun w' => by kernel_rfl
      simp only [show (((1 : Nat) : Int)) = 1 from rfl]
      have d := HA2.out.cell 1 (v := .int .i64 ww) rfl
      have z := HA2.out.free 1
      have m0 := (HT.out.keep HK2.out).lim 2 _ rfl
      have m1 := (HT.out.keep HK2.out).lim 3 _ rfl
      have HN : Hid (Blk ((wr.setCell ⟨w.heap.size, 1, none⟩ (.int .i64 (near 16 256 ww))).drew) w.heap.size (Conf.part ⟨b, ww, m, r, cc, l, s⟩ 2) 23) := (HA2.out.set 1 (.int .i64 (near 16 256 ww))).drew
      have HBN : Hid (Blk ((wr.setCell ⟨w.heap.size, 1, none⟩ (.int .i64 (near 16 256 ww))).drew) (w.heap.size + 1) [.int .i64 0, .int .i64 0, .int .i64 0, .int .i64 0, .int .i64 0, .int .i64 0, .int .i64 0] 23) := (HB2.out.other (a := ⟨w.heap.size, 1, none⟩) (by simp) _).drew
      have HKN : Hid (Keep none_ w ((wr.setCell ⟨w.heap.size, 1, none⟩ (.int .i64 (near 16 256 ww))).drew)) := (HK2.out.putNew (Nat.le_refl _) _ _).drew
      go_wp2_with fail
      refine wp_region_still_tail 15 (by kernel_rfl) (by kernel_rfl) ?_
      change wpStill _ _ (World.drew _) _ _ _
      simp only [List.take_succ_cons, List.take_zero, List.drop_succ_cons, List.drop_zero]
      repeat still_step
      refine wpStill_nil ?_
      change wpList _ _ _ _ _ wr.drew
      go_wp2_with fail
      all_goals first
        | (have hv : near 16 256 ww = ww := by unfold near; omega
           rw [hv] at HN HBN HKN
           go_roundg (gk - 1)
           case measure => omega
           case rel => exact ⟨2, by omega, rfl, HN, HBN, HKN⟩)
        | (have hv : near 16 256 ww = 16 := by unfold near; omega
           rw [hv] at HN HBN HKN
           go_roundg (gk - 1)
           case measure => omega
           case rel => exact ⟨2, by omega, rfl, HN, HBN, HKN⟩)
        | (have hv : near 16 256 ww = 256 := by unfold near; omega
           rw [hv] at HN HBN HKN
           go_roundg (gk - 1)
           case measure => omega
           case rel => exact ⟨2, by omega, rfl, HN, HBN, HKN⟩)
    · have hix : ∀ w' : World, (Instr.index 118 (.agg (#[.pointer (some ⟨w.heap.size, 0, none⟩), .pointer (some ⟨w.heap.size, 1, none⟩), .pointer (some ⟨w.heap.size, 2, none⟩), .pointer (some ⟨w.heap.size, 3, none⟩), .pointer (some ⟨w.heap.size, 4, none⟩), .pointer (some ⟨w.heap.size, 5, none⟩), .pointer (some ⟨w.heap.size, 6, none⟩)])) (.int .i64 2)).run Tryz.prog w' = .ok (.pointer (some ⟨w.heap.size, 2, none⟩)) w' := fun w' => by kernel_rfl
      simp only [show (((2 : Nat) : Int)) = 2 from rfl]
      have d := HA2.out.cell 2 (v := .int .i64 m) rfl
      have z := HA2.out.free 2
      have m0 := (HT.out.keep HK2.out).lim 4 _ rfl
      have m1 := (HT.out.keep HK2.out).lim 5 _ rfl
      have HN : Hid (Blk ((wr.setCell ⟨w.heap.size, 2, none⟩ (.int .i64 (near 1 8 m))).drew) w.heap.size (Conf.part ⟨b, ww, m, r, cc, l, s⟩ 3) 23) := (HA2.out.set 2 (.int .i64 (near 1 8 m))).drew
      have HBN : Hid (Blk ((wr.setCell ⟨w.heap.size, 2, none⟩ (.int .i64 (near 1 8 m))).drew) (w.heap.size + 1) [.int .i64 0, .int .i64 0, .int .i64 0, .int .i64 0, .int .i64 0, .int .i64 0, .int .i64 0] 23) := (HB2.out.other (a := ⟨w.heap.size, 2, none⟩) (by simp) _).drew
      have HKN : Hid (Keep none_ w ((wr.setCell ⟨w.heap.size, 2, none⟩ (.int .i64 (near 1 8 m))).drew)) := (HK2.out.putNew (Nat.le_refl _) _ _).drew
      go_wp2_with fail
      refine wp_region_still_tail 15 (by kernel_rfl) (by kernel_rfl) ?_
      change wpStill _ _ (World.drew _) _ _ _
      simp only [List.take_succ_cons, List.take_zero, List.drop_succ_cons, List.drop_zero]
      repeat still_step
      refine wpStill_nil ?_
      change wpList _ _ _ _ _ wr.drew
      go_wp2_with fail
      all_goals first
        | (have hv : near 1 8 m = m := by unfold near; omega
           rw [hv] at HN HBN HKN
           go_roundg (gk - 1)
           case measure => omega
           case rel => exact ⟨3, by omega, rfl, HN, HBN, HKN⟩)
        | (have hv : near 1 8 m = 1 := by unfold near; omega
           rw [hv] at HN HBN HKN
           go_roundg (gk - 1)
           case measure => omega
           case rel => exact ⟨3, by omega, rfl, HN, HBN, HKN⟩)
        | (have hv : near 1 8 m = 8 := by unfold near; omega
           rw [hv] at HN HBN HKN
           go_roundg (gk - 1)
           case measure => omega
           case rel => exact ⟨3, by omega, rfl, HN, HBN, HKN⟩)
    · have hix : ∀ w' : World, (Instr.index 118 (.agg (#[.pointer (some ⟨w.heap.size, 0, none⟩), .pointer (some ⟨w.heap.size, 1, none⟩), .pointer (some ⟨w.heap.size, 2, none⟩), .pointer (some ⟨w.heap.size, 3, none⟩), .pointer (some ⟨w.heap.size, 4, none⟩), .pointer (some ⟨w.heap.size, 5, none⟩), .pointer (some ⟨w.heap.size, 6, none⟩)])) (.int .i64 3)).run Tryz.prog w' = .ok (.pointer (some ⟨w.heap.size, 3, none⟩)) w' := fun w' => by kernel_rfl
      simp only [show (((3 : Nat) : Int)) = 3 from rfl]
      have d := HA2.out.cell 3 (v := .int .i64 r) rfl
      have z := HA2.out.free 3
      have m0 := (HT.out.keep HK2.out).lim 6 _ rfl
      have m1 := (HT.out.keep HK2.out).lim 7 _ rfl
      have HN : Hid (Blk ((wr.setCell ⟨w.heap.size, 3, none⟩ (.int .i64 (near 1 64 r))).drew) w.heap.size (Conf.part ⟨b, ww, m, r, cc, l, s⟩ 4) 23) := (HA2.out.set 3 (.int .i64 (near 1 64 r))).drew
      have HBN : Hid (Blk ((wr.setCell ⟨w.heap.size, 3, none⟩ (.int .i64 (near 1 64 r))).drew) (w.heap.size + 1) [.int .i64 0, .int .i64 0, .int .i64 0, .int .i64 0, .int .i64 0, .int .i64 0, .int .i64 0] 23) := (HB2.out.other (a := ⟨w.heap.size, 3, none⟩) (by simp) _).drew
      have HKN : Hid (Keep none_ w ((wr.setCell ⟨w.heap.size, 3, none⟩ (.int .i64 (near 1 64 r))).drew)) := (HK2.out.putNew (Nat.le_refl _) _ _).drew
      go_wp2_with fail
      refine wp_region_still_tail 15 (by kernel_rfl) (by kernel_rfl) ?_
      change wpStill _ _ (World.drew _) _ _ _
      simp only [List.take_succ_cons, List.take_zero, List.drop_succ_cons, List.drop_zero]
      repeat still_step
      refine wpStill_nil ?_
      change wpList _ _ _ _ _ wr.drew
      go_wp2_with fail
      all_goals first
        | (have hv : near 1 64 r = r := by unfold near; omega
           rw [hv] at HN HBN HKN
           go_roundg (gk - 1)
           case measure => omega
           case rel => exact ⟨4, by omega, rfl, HN, HBN, HKN⟩)
        | (have hv : near 1 64 r = 1 := by unfold near; omega
           rw [hv] at HN HBN HKN
           go_roundg (gk - 1)
           case measure => omega
           case rel => exact ⟨4, by omega, rfl, HN, HBN, HKN⟩)
        | (have hv : near 1 64 r = 64 := by unfold near; omega
           rw [hv] at HN HBN HKN
           go_roundg (gk - 1)
           case measure => omega
           case rel => exact ⟨4, by omega, rfl, HN, HBN, HKN⟩)
    · have hix : ∀ w' : World, (Instr.index 118 (.agg (#[.pointer (some ⟨w.heap.size, 0, none⟩), .pointer (some ⟨w.heap.size, 1, none⟩), .pointer (some ⟨w.heap.size, 2, none⟩), .pointer (some ⟨w.heap.size, 3, none⟩), .pointer (some ⟨w.heap.size, 4, none⟩), .pointer (some ⟨w.heap.size, 5, none⟩), .pointer (some ⟨w.heap.size, 6, none⟩)])) (.int .i64 4)).run Tryz.prog w' = .ok (.pointer (some ⟨w.heap.size, 4, none⟩)) w' := fun w' => by kernel_rfl
      simp only [show (((4 : Nat) : Int)) = 4 from rfl]
      have d := HA2.out.cell 4 (v := .int .i64 cc) rfl
      have z := HA2.out.free 4
      have m0 := (HT.out.keep HK2.out).lim 8 _ rfl
      have m1 := (HT.out.keep HK2.out).lim 9 _ rfl
      have HN : Hid (Blk ((wr.setCell ⟨w.heap.size, 4, none⟩ (.int .i64 (near 0 64 cc))).drew) w.heap.size (Conf.part ⟨b, ww, m, r, cc, l, s⟩ 5) 23) := (HA2.out.set 4 (.int .i64 (near 0 64 cc))).drew
      have HBN : Hid (Blk ((wr.setCell ⟨w.heap.size, 4, none⟩ (.int .i64 (near 0 64 cc))).drew) (w.heap.size + 1) [.int .i64 0, .int .i64 0, .int .i64 0, .int .i64 0, .int .i64 0, .int .i64 0, .int .i64 0] 23) := (HB2.out.other (a := ⟨w.heap.size, 4, none⟩) (by simp) _).drew
      have HKN : Hid (Keep none_ w ((wr.setCell ⟨w.heap.size, 4, none⟩ (.int .i64 (near 0 64 cc))).drew)) := (HK2.out.putNew (Nat.le_refl _) _ _).drew
      go_wp2_with fail
      refine wp_region_still_tail 15 (by kernel_rfl) (by kernel_rfl) ?_
      change wpStill _ _ (World.drew _) _ _ _
      simp only [List.take_succ_cons, List.take_zero, List.drop_succ_cons, List.drop_zero]
      repeat still_step
      refine wpStill_nil ?_
      change wpList _ _ _ _ _ wr.drew
      go_wp2_with fail
      all_goals first
        | (have hv : near 0 64 cc = cc := by unfold near; omega
           rw [hv] at HN HBN HKN
           go_roundg (gk - 1)
           case measure => omega
           case rel => exact ⟨5, by omega, rfl, HN, HBN, HKN⟩)
        | (have hv : near 0 64 cc = 0 := by unfold near; omega
           rw [hv] at HN HBN HKN
           go_roundg (gk - 1)
           case measure => omega
           case rel => exact ⟨5, by omega, rfl, HN, HBN, HKN⟩)
        | (have hv : near 0 64 cc = 64 := by unfold near; omega
           rw [hv] at HN HBN HKN
           go_roundg (gk - 1)
           case measure => omega
           case rel => exact ⟨5, by omega, rfl, HN, HBN, HKN⟩)
    · have hix : ∀ w' : World, (Instr.index 118 (.agg (#[.pointer (some ⟨w.heap.size, 0, none⟩), .pointer (some ⟨w.heap.size, 1, none⟩), .pointer (some ⟨w.heap.size, 2, none⟩), .pointer (some ⟨w.heap.size, 3, none⟩), .pointer (some ⟨w.heap.size, 4, none⟩), .pointer (some ⟨w.heap.size, 5, none⟩), .pointer (some ⟨w.heap.size, 6, none⟩)])) (.int .i64 5)).run Tryz.prog w' = .ok (.pointer (some ⟨w.heap.size, 5, none⟩)) w' := fun w' => by kernel_rfl
      simp only [show (((5 : Nat) : Int)) = 5 from rfl]
      have d := HA2.out.cell 5 (v := .int .i64 l) rfl
      have z := HA2.out.free 5
      have m0 := (HT.out.keep HK2.out).lim 10 _ rfl
      have m1 := (HT.out.keep HK2.out).lim 11 _ rfl
      have HN : Hid (Blk ((wr.setCell ⟨w.heap.size, 5, none⟩ (.int .i64 (near 1 256 l))).drew) w.heap.size (Conf.part ⟨b, ww, m, r, cc, l, s⟩ 6) 23) := (HA2.out.set 5 (.int .i64 (near 1 256 l))).drew
      have HBN : Hid (Blk ((wr.setCell ⟨w.heap.size, 5, none⟩ (.int .i64 (near 1 256 l))).drew) (w.heap.size + 1) [.int .i64 0, .int .i64 0, .int .i64 0, .int .i64 0, .int .i64 0, .int .i64 0, .int .i64 0] 23) := (HB2.out.other (a := ⟨w.heap.size, 5, none⟩) (by simp) _).drew
      have HKN : Hid (Keep none_ w ((wr.setCell ⟨w.heap.size, 5, none⟩ (.int .i64 (near 1 256 l))).drew)) := (HK2.out.putNew (Nat.le_refl _) _ _).drew
      go_wp2_with fail
      refine wp_region_still_tail 15 (by kernel_rfl) (by kernel_rfl) ?_
      change wpStill _ _ (World.drew _) _ _ _
      simp only [List.take_succ_cons, List.take_zero, List.drop_succ_cons, List.drop_zero]
      repeat still_step
      refine wpStill_nil ?_
      change wpList _ _ _ _ _ wr.drew
      go_wp2_with fail
      all_goals first
        | (have hv : near 1 256 l = l := by unfold near; omega
           rw [hv] at HN HBN HKN
           go_roundg (gk - 1)
           case measure => omega
           case rel => exact ⟨6, by omega, rfl, HN, HBN, HKN⟩)
        | (have hv : near 1 256 l = 1 := by unfold near; omega
           rw [hv] at HN HBN HKN
           go_roundg (gk - 1)
           case measure => omega
           case rel => exact ⟨6, by omega, rfl, HN, HBN, HKN⟩)
        | (have hv : near 1 256 l = 256 := by unfold near; omega
           rw [hv] at HN HBN HKN
           go_roundg (gk - 1)
           case measure => omega
           case rel => exact ⟨6, by omega, rfl, HN, HBN, HKN⟩)
    · have hix : ∀ w' : World, (Instr.index 118 (.agg (#[.pointer (some ⟨w.heap.size, 0, none⟩), .pointer (some ⟨w.heap.size, 1, none⟩), .pointer (some ⟨w.heap.size, 2, none⟩), .pointer (some ⟨w.heap.size, 3, none⟩), .pointer (some ⟨w.heap.size, 4, none⟩), .pointer (some ⟨w.heap.size, 5, none⟩), .pointer (some ⟨w.heap.size, 6, none⟩)])) (.int .i64 6)).run Tryz.prog w' = .ok (.pointer (some ⟨w.heap.size, 6, none⟩)) w' := fun w' => by kernel_rfl
      simp only [show (((6 : Nat) : Int)) = 6 from rfl]
      have d := HA2.out.cell 6 (v := .int .i64 s) rfl
      have z := HA2.out.free 6
      have m0 := (HT.out.keep HK2.out).lim 12 _ rfl
      have m1 := (HT.out.keep HK2.out).lim 13 _ rfl
      have HN : Hid (Blk ((wr.setCell ⟨w.heap.size, 6, none⟩ (.int .i64 (near 1 4096 s))).drew) w.heap.size (Conf.part ⟨b, ww, m, r, cc, l, s⟩ 7) 23) := (HA2.out.set 6 (.int .i64 (near 1 4096 s))).drew
      have HBN : Hid (Blk ((wr.setCell ⟨w.heap.size, 6, none⟩ (.int .i64 (near 1 4096 s))).drew) (w.heap.size + 1) [.int .i64 0, .int .i64 0, .int .i64 0, .int .i64 0, .int .i64 0, .int .i64 0, .int .i64 0] 23) := (HB2.out.other (a := ⟨w.heap.size, 6, none⟩) (by simp) _).drew
      have HKN : Hid (Keep none_ w ((wr.setCell ⟨w.heap.size, 6, none⟩ (.int .i64 (near 1 4096 s))).drew)) := (HK2.out.putNew (Nat.le_refl _) _ _).drew
      go_wp2_with fail
      refine wp_region_still_tail 15 (by kernel_rfl) (by kernel_rfl) ?_
      change wpStill _ _ (World.drew _) _ _ _
      simp only [List.take_succ_cons, List.take_zero, List.drop_succ_cons, List.drop_zero]
      repeat still_step
      refine wpStill_nil ?_
      change wpList _ _ _ _ _ wr.drew
      go_wp2_with fail
      all_goals first
        | (have hv : near 1 4096 s = s := by unfold near; omega
           rw [hv] at HN HBN HKN
           go_roundg (gk - 1)
           case measure => omega
           case rel => exact ⟨7, by omega, rfl, HN, HBN, HKN⟩)
        | (have hv : near 1 4096 s = 1 := by unfold near; omega
           rw [hv] at HN HBN HKN
           go_roundg (gk - 1)
           case measure => omega
           case rel => exact ⟨7, by omega, rfl, HN, HBN, HKN⟩)
        | (have hv : near 1 4096 s = 4096 := by unfold near; omega
           rw [hv] at HN HBN HKN
           go_roundg (gk - 1)
           case measure => omega
           case rel => exact ⟨7, by omega, rfl, HN, HBN, HKN⟩)
    · simp only [show (((7 : Nat) : Int)) = 7 from rfl]
      have a0 := HA2.out.cell 0 rfl; have a1 := HA2.out.cell 1 rfl; have a2 := HA2.out.cell 2 rfl; have a3 := HA2.out.cell 3 rfl; have a4 := HA2.out.cell 4 rfl; have a5 := HA2.out.cell 5 rfl; have a6 := HA2.out.cell 6 rfl
      have y0 := HB2.out.cell 0 rfl; have y1 := HB2.out.cell 1 rfl; have y2 := HB2.out.cell 2 rfl; have y3 := HB2.out.cell 3 rfl; have y4 := HB2.out.cell 4 rfl; have y5 := HB2.out.cell 5 rfl; have y6 := HB2.out.cell 6 rfl
      have z0 := HB2.out.free 0; have z1 := HB2.out.free 1; have z2 := HB2.out.free 2; have z3 := HB2.out.free 3; have z4 := HB2.out.free 4; have z5 := HB2.out.free 5; have z6 := HB2.out.free 6
      clear hg
      go_wp2_with fail
      obtain ⟨q, hq⟩ : ∃ q, q = Conf.clamp ⟨b, ww, m, r, cc, l, s⟩ := ⟨_, rfl⟩
      rw [← hq]
      have hB := ((((((HB2.out.set 0 (.int .i64 q.b)).set 1 (.int .i64 q.w)).set 2 (.int .i64 q.m)).set 3 (.int .i64 q.r)).set 4 (.int .i64 q.c)).set 5 (.int .i64 q.l)).set 6 (.int .i64 q.s)
      have hk := ((((((HK2.out.putNew (B := w.heap.size + 1) (Nat.le_succ _) 0 (.int .i64 q.b)).putNew (B := w.heap.size + 1) (Nat.le_succ _) 1 (.int .i64 q.w)).putNew (B := w.heap.size + 1) (Nat.le_succ _) 2 (.int .i64 q.m)).putNew (B := w.heap.size + 1) (Nat.le_succ _) 3 (.int .i64 q.r)).putNew (B := w.heap.size + 1) (Nat.le_succ _) 4 (.int .i64 q.c)).putNew (B := w.heap.size + 1) (Nat.le_succ _) 5 (.int .i64 q.l)).putNew (B := w.heap.size + 1) (Nat.le_succ _) 6 (.int .i64 q.s)
      have k0 := hB.cell 0 rfl; have k1 := hB.cell 1 rfl; have k2 := hB.cell 2 rfl; have k3 := hB.cell 3 rfl; have k4 := hB.cell 4 rfl; have k5 := hB.cell 5 rfl; have k6 := hB.cell 6 rfl
      exact bodyPost_ret (by simp [results, Tryz.f44, go_sem, k0, k1, k2, k3, k4, k5, k6]) rfl ⟨rfl, hk⟩

theorem near_eq {lo hi x : Int} (h : lo ≤ x ∧ x ≤ hi) : near lo hi x = x := by unfold near; omega
theorem near_ne {lo hi x : Int} (hl : lo ≤ hi) (h : near lo hi x = x) : lo ≤ x ∧ x ≤ hi := by unfold near at h; omega
theorem Conf.clamp_ok (c : Conf) : c.ok = decide (c.clamp = c) := by
  obtain ⟨b, ww, m, r, cc, l, s⟩ := c
  rw [Bool.eq_iff_iff, decide_eq_true_eq]
  simp only [Conf.ok, Conf.clamp, Conf.mk.injEq, Bool.and_eq_true, decide_eq_true_eq]
  constructor
  · rintro ⟨⟨⟨⟨⟨⟨h0, h1⟩, h2⟩, h3⟩, h4⟩, h5⟩, h6⟩
    exact ⟨near_eq h0, near_eq h1, near_eq h2, near_eq h3, near_eq h4, near_eq h5, near_eq h6⟩
  · rintro ⟨h0, h1, h2, h3, h4, h5, h6⟩
    exact ⟨⟨⟨⟨⟨⟨near_ne (by decide) h0, near_ne (by decide) h1⟩, near_ne (by decide) h2⟩, near_ne (by decide) h3⟩, near_ne (by decide) h4⟩, near_ne (by decide) h5⟩, near_ne (by decide) h6⟩

set_option maxRecDepth 4000 in
set_option maxHeartbeats 4000000 in
theorem right_any (c : Conf) (w : World) (hT : Tabs w) : Calls Tryz.prog 27 #[.agg c.cells.toArray] w fun e w' => e = .returned (.bool c.ok) ∧ Keep none_ w w' := by
  obtain ⟨W0, hW0⟩ : ∃ W', W' = w.alloc (.cells c.cells.toArray 23) := ⟨_, rfl⟩
  have HA : Hid (Blk W0 w.heap.size c.cells 23) := by rw [hW0]; exact Blk.new w _ _
  have HK : Hid (Keep none_ w W0) := by rw [hW0]; exact (Keep.refl _ _).alloc _
  have HT := Lib.hid (hT.keep HK.out)
  clear hT
  have HQ : Hid (∀ w' : World, (binOp .eql 23 (.agg c.clamp.cells.toArray) (.agg c.cells.toArray)).run Tryz.prog w' = .ok (.bool c.ok) w') := fun w' => by
    rw [Conf.clamp_ok]
    obtain ⟨b, ww, m, r, cc, l, s⟩ := c
    simp only [Conf.clamp, Conf.cells, Conf.mk.injEq]
    generalize near 1 4096 b = q0
    generalize near 16 256 ww = q1
    generalize near 1 8 m = q2
    generalize near 1 64 r = q3
    generalize near 0 64 cc = q4
    generalize near 1 256 l = q5
    generalize near 1 4096 s = q6
    clear HT HK HA hW0
    go_simp
    by_cases e0 : q0 = b
    · by_cases e1 : q1 = ww
      · by_cases e2 : q2 = m
        · by_cases e3 : q3 = r
          · by_cases e4 : q4 = cc
            · by_cases e5 : q5 = l
              · by_cases e6 : q6 = s
                · simp [e0, e1, e2, e3, e4, e5, e6]
                · simp [e0, e1, e2, e3, e4, e5, e6]
              · simp [e0, e1, e2, e3, e4, e5]
            · simp [e0, e1, e2, e3, e4]
          · simp [e0, e1, e2, e3]
        · simp [e0, e1, e2]
      · simp [e0, e1]
    · simp [e0]
  have HC := Lib.hid (fun w' (h : Keep none_ W0 w') => clamp_any c w' (HT.out.keep h))
  obtain ⟨cl, hcl⟩ : ∃ cl, cl = c.clamp := ⟨_, rfl⟩
  rw [← hcl] at HC HQ
  clear hcl
  obtain ⟨ok, hok⟩ : ∃ ok, ok = c.ok := ⟨_, rfl⟩
  rw [← hok] at HQ ⊢
  clear hok
  have hQ := HQ.out
  have q0 := cell_regrown (HA.out.cell 0 rfl)
  have q1 := cell_regrown (HA.out.cell 1 rfl)
  have q2 := cell_regrown (HA.out.cell 2 rfl)
  have q3 := cell_regrown (HA.out.cell 3 rfl)
  have q4 := cell_regrown (HA.out.cell 4 rfl)
  have q5 := cell_regrown (HA.out.cell 5 rfl)
  have q6 := cell_regrown (HA.out.cell 6 rfl)
  obtain ⟨b, ww, m, r, cc, l, s⟩ := c
  simp only [Conf.cells] at *
  go_enter Tryz.func27, Tryz.ntmps27
  go_wp2_with fail
  rw [← hW0]
  clear hW0 HQ
  refine wp_region_quiet_below (by kernel_rfl) (by kernel_rfl) ?_
  repeat (quiet_step (exact calls_regrown (HC.out _ (keep_regrown _ _ _))))
  refine wpQuiet_nil ?_
  intro _ hw9
  obtain ⟨⟨dq, osq⟩, hw8⟩ := hw9
  subst hw8
  have hk3 := HK.out.trans (keep_regrown W0 dq osq)
  generalize grow (redrawn W0 dq) osq = w3 at hk3 ⊢
  go_wp2_with fail
  go_ret
  exact ⟨rfl, hk3⟩
end Go.Proofs.YtkjplkkjdlanhaaGreatDoor
