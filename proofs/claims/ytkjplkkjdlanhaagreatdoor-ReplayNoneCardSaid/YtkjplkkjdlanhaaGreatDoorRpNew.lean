/- New of a replay. -/
import Derived.Test.YtkjplkkjdlanhaaGreatDoorGSt
import Derived.Test.YtkjplkkjdlanhaaGreatDoorAppAt
import Derived.BigRegion
import Derived.Lib.SliceRun
namespace Go.Proofs.YtkjplkkjdlanhaaGreatDoor
open Go.RowKit Go.Sort

theorem Tryz.infoOp : (Tryz.prog.info? 52).map (fun i => (i.zero, i.size, i.bytes)) = some (some (.agg #[.int .i64 0, .int .i64 0, .int .i64 0, .int .i64 0]), 4, 32) := by kernel_rfl
theorem Tryz.infoOps : (Tryz.prog.info? 49).map (fun i => (i.zero, i.size, i.bytes)) = some (some (.slice none 0 0), 1, 24) := by kernel_rfl

set_option maxRecDepth 4000 in
set_option maxHeartbeats 4000000 in
theorem rpNew_bad (c : Conf) (w : World) (hT : Tabs w) (hok : c.ok = false) (v : Value) : Calls Tryz.prog 5 #[.agg c.cells.toArray, v] w fun e w' => e = .returned (.tuple #[.pointer none, .int .i64 1]) ∧ Keep none_ w w' := by
  obtain ⟨W0, hW0⟩ : ∃ W', W' = w.alloc (.cells c.cells.toArray 23) := ⟨_, rfl⟩
  have HK : Hid (Keep none_ w W0) := by rw [hW0]; exact (Keep.refl _ _).alloc _
  have HN := Lib.hid (new_bad c W0 (hT.keep HK.out) hok)
  obtain ⟨b, ww, mm, rr, cc, l, s⟩ := c
  simp only [Conf.cells] at *
  clear hT hok
  go_enter Tryz.func5, Tryz.ntmps5
  go_wp2_with fail
  rw [← hW0]
  clear hW0
  refine HN.out.mono ?_
  rintro e w1 ⟨rfl, hk1⟩
  have HK1 := Lib.hid (HK.out.trans hk1)
  clear hk1 HK
  go_wp2_with fail
  go_ret2
  exact ⟨rfl, HK1.out⟩
set_option maxRecDepth 4000 in
set_option maxHeartbeats 4000000 in
theorem rpNew_many (c : Conf) (w : World) (hT : Tabs w) (hok : c.ok = true) (m r n : Nat) (hm : c.m = m) (hr : c.r = r) (hn : c.c = n) (a : Option Addr) (L cp : Nat) (hL : m < L) :
    Calls Tryz.prog 5 #[.agg c.cells.toArray, .slice a L cp] w fun e w' => e = .returned (.tuple #[.pointer none, .int .i64 1]) ∧ Keep none_ w w' := by
  obtain ⟨W0, hW0⟩ : ∃ W', W' = w.alloc (.cells c.cells.toArray 23) := ⟨_, rfl⟩
  have HK : Hid (Keep none_ w W0) := by rw [hW0]; exact (Keep.refl _ _).alloc _
  have HB := Lib.hid (show Blk W0 w.heap.size c.cells 23 by rw [hW0]; exact Blk.new w _ _)
  have HN := Lib.hid (gnew_any c W0 (hT.keep HK.out) hok m r n hm hr hn)
  obtain ⟨b, ww, mm, rr, cc, l, s⟩ := c
  simp only at hm hr hn
  subst hm hr hn
  simp only [Conf.cells] at *
  clear hT hok
  go_enter Tryz.func5, Tryz.ntmps5
  go_wp2_with fail
  rw [← hW0]
  clear hW0
  refine HN.out.mono ?_
  rintro e w1 ⟨G, rfl, hg, hk1⟩
  have HK1 := Lib.hid (HK.out.trans hk1)
  have y2 := (hk1.blk HB.out (fun f => f)).cell 2 rfl
  have hLI : (m : Int) < (L : Int) := by omega
  clear hk1 HK hg HB
  go_wp2_with fail
  go_ret2
  exact ⟨rfl, HK1.out⟩
set_option maxRecDepth 4000 in
set_option maxHeartbeats 4000000 in
theorem rpNew_zero (c : Conf) (w : World) (hT : Tabs w) (hok : c.ok = true) (m r n : Nat) (hm : c.m = m) (hr : c.r = r) (hn : c.c = n) (hm8 : m ≤ 8) :
    Calls Tryz.prog 5 #[.agg c.cells.toArray, .slice none 0 0] w fun e w' => ∃ B, e = .returned (.tuple #[.pointer (some ⟨B, 0, none⟩), .int .i64 0]) ∧ Keep none_ w w' := by
  obtain ⟨W0, hW0⟩ : ∃ W', W' = w.alloc (.cells c.cells.toArray 23) := ⟨_, rfl⟩
  have HK : Hid (Keep none_ w W0) := by rw [hW0]; exact (Keep.refl _ _).alloc _
  have HB := Lib.hid (show Blk W0 w.heap.size c.cells 23 by rw [hW0]; exact Blk.new w _ _)
  have HN := Lib.hid (gnew_any c W0 (hT.keep HK.out) hok m r n hm hr hn)
  obtain ⟨b, ww, mm, rr, cc, l, s⟩ := c
  simp only at hm hr hn
  subst hm hr hn
  simp only [Conf.cells] at *
  have hmk : ∀ w : World, (Instr.makeSlice 46 (.int .i64 (m : Int)) (.int .i64 (m : Int))).run Tryz.prog w = .ok (.slice (some ⟨w.heap.size, 0, none⟩) m m) (w.alloc (.cells (zeros (.int .i64 0) m).toArray 3)) :=
    fun w => run_mk (P := Tryz.prog) (by kernel_rfl) Tryz.infoInt rfl (by decide) m (by omega) _ rfl w
  have hmk2 : ∀ w : World, (Instr.makeSlice 32 (.int .i64 (m : Int)) (.int .i64 (m : Int))).run Tryz.prog w = .ok (.slice (some ⟨w.heap.size, 0, none⟩) m m) (w.alloc (.cells (zeros (.slice none 0 0) m).toArray 49)) :=
    fun w => run_mk (P := Tryz.prog) (by kernel_rfl) Tryz.infoOps rfl (by decide) m (by omega) _ rfl w
  clear hT hok
  go_enter Tryz.func5, Tryz.ntmps5
  go_wp2_with fail
  rw [← hW0]
  clear hW0
  refine HN.out.mono ?_
  rintro e w1 ⟨G, rfl, hg, hk1⟩
  have HK1 := Lib.hid (HK.out.trans hk1)
  have HB1 := Lib.hid (hk1.blk HB.out (fun f => f))
  have q0 := HB1.out.cell 0 rfl; have q1 := HB1.out.cell 1 rfl; have q2 := HB1.out.cell 2 rfl; have q3 := HB1.out.cell 3 rfl; have q4 := HB1.out.cell 4 rfl; have q5 := HB1.out.cell 5 rfl; have q6 := HB1.out.cell 6 rfl
  have p0 : ∀ o, (w1.alloc o).cell? ⟨w.heap.size, 0, none⟩ = _ := fun o => ((Keep.refl none_ w1).alloc o).still q0
  have p1 : ∀ o, (w1.alloc o).cell? ⟨w.heap.size, 1, none⟩ = _ := fun o => ((Keep.refl none_ w1).alloc o).still q1
  have p2 : ∀ o, (w1.alloc o).cell? ⟨w.heap.size, 2, none⟩ = _ := fun o => ((Keep.refl none_ w1).alloc o).still q2
  have p3 : ∀ o, (w1.alloc o).cell? ⟨w.heap.size, 3, none⟩ = _ := fun o => ((Keep.refl none_ w1).alloc o).still q3
  have p4 : ∀ o, (w1.alloc o).cell? ⟨w.heap.size, 4, none⟩ = _ := fun o => ((Keep.refl none_ w1).alloc o).still q4
  have p5 : ∀ o, (w1.alloc o).cell? ⟨w.heap.size, 5, none⟩ = _ := fun o => ((Keep.refl none_ w1).alloc o).still q5
  have p6 : ∀ o, (w1.alloc o).cell? ⟨w.heap.size, 6, none⟩ = _ := fun o => ((Keep.refl none_ w1).alloc o).still q6
  have p0' : ∀ o o', ((w1.alloc o).alloc o').cell? ⟨w.heap.size, 0, none⟩ = _ := fun o o' => (((Keep.refl none_ w1).alloc o).alloc o').still q0
  have p1' : ∀ o o', ((w1.alloc o).alloc o').cell? ⟨w.heap.size, 1, none⟩ = _ := fun o o' => (((Keep.refl none_ w1).alloc o).alloc o').still q1
  have p2' : ∀ o o', ((w1.alloc o).alloc o').cell? ⟨w.heap.size, 2, none⟩ = _ := fun o o' => (((Keep.refl none_ w1).alloc o).alloc o').still q2
  have p3' : ∀ o o', ((w1.alloc o).alloc o').cell? ⟨w.heap.size, 3, none⟩ = _ := fun o o' => (((Keep.refl none_ w1).alloc o).alloc o').still q3
  have p4' : ∀ o o', ((w1.alloc o).alloc o').cell? ⟨w.heap.size, 4, none⟩ = _ := fun o o' => (((Keep.refl none_ w1).alloc o).alloc o').still q4
  have p5' : ∀ o o', ((w1.alloc o).alloc o').cell? ⟨w.heap.size, 5, none⟩ = _ := fun o o' => (((Keep.refl none_ w1).alloc o).alloc o').still q5
  have p6' : ∀ o o', ((w1.alloc o).alloc o').cell? ⟨w.heap.size, 6, none⟩ = _ := fun o o' => (((Keep.refl none_ w1).alloc o).alloc o').still q6
  have hm0 : decide ((m : Int) < 0) = false := decide_eq_false (by omega)
  clear hk1 HK hg HB
  go_wp2_with fail
  go_region
  all_goals
    generalize hB' : w1.heap.size + 1 + 1 = B'
    go_wp2_with fail
    go_loopg [37] 0 (fun g i wr => i = .int .i64 0 ∧ Hid (Keep none_ w wr))
    case atStart => exact ⟨rfl, (((HK1.out.alloc _).alloc _).alloc _).drew⟩
    case round =>
      obtain ⟨rfl, HKR⟩ := hrel
      go_wp2_with fail
      go_ret2
      exact ⟨_, rfl, HKR.out⟩
set_option maxRecDepth 10000 in
set_option maxHeartbeats 400000 in
/-- A copy of a slice of one operation. -/
theorem cloneO_one (Q : Nat) (o0 o1 o2 o3 : Int) (w : World) (h0 : w.cell? ⟨Q, 0, none⟩ = some (.int .i64 o0)) (h1 : w.cell? ⟨Q, 1, none⟩ = some (.int .i64 o1)) (h2 : w.cell? ⟨Q, 2, none⟩ = some (.int .i64 o2)) (h3 : w.cell? ⟨Q, 3, none⟩ = some (.int .i64 o3)) :
    Calls Tryz.prog 16 #[.slice (some ⟨Q, 0, none⟩) 1 1] w fun e w' => ∃ pd cap, e = .returned (.slice (some ⟨pd, 0, none⟩) 1 cap) ∧ w.heap.size ≤ pd ∧ w'.cell? ⟨pd, 0, none⟩ = some (.int .i64 o0) ∧ w'.cell? ⟨pd, 1, none⟩ = some (.int .i64 o1) ∧ w'.cell? ⟨pd, 2, none⟩ = some (.int .i64 o2) ∧ w'.cell? ⟨pd, 3, none⟩ = some (.int .i64 o3) ∧ Keep none_ w w' := by
  have hn := fun w => Lib.run_eql_slice_nil (P := Tryz.prog) w 49 52 (some ⟨Q, 0, none⟩) 1 1 0 0 Tryz.underlying49
  obtain ⟨i0, hi1, hi2, hi3, hi4⟩ := info_parts Tryz.infoOp
  have hw0 : ∀ w : World, (w.alloc (.cells #[] 52)).ownsRow w.heap.size 52 4 (.slice (some ⟨w.heap.size, 0, none⟩) 0 0) 0 [] := fun w => World.ownsRow_made w #[] 0 (Nat.le_refl _) (by decide) rfl
  have hcell : ∀ (j : Nat) (u : Value), [Value.int .i64 o0, .int .i64 o1, .int .i64 o2, .int .i64 o3][j]? = some u → (w.alloc (.cells #[] 52)).cell? ((⟨Q, 0, none⟩ : Addr).add j) = some u := fun j u hj => by
    have ea : (⟨Q, 0, none⟩ : Addr).add j = ⟨Q, j, none⟩ := by simp only [Addr.add]; split <;> simp_all
    rw [ea]
    have hk : Keep none_ w (w.alloc (.cells #[] 52)) := (Keep.refl _ _).alloc _
    match j, hj with
    | 0, hj => simp at hj; subst hj; exact hk.still h0
    | 1, hj => simp at hj; subst hj; exact hk.still h1
    | 2, hj => simp at hj; subst hj; exact hk.still h2
    | 3, hj => simp at hj; subst hj; exact hk.still h3
  have HU : Hid (∀ u ∈ [Value.int .i64 o0, .int .i64 o1, .int .i64 o2, .int .i64 o3], u.oneCell' = true) := fun u hu => by
    simp at hu
    rcases hu with rfl | rfl | rfl | rfl <;> rfl
  have HC := Lib.hid hcell
  clear hcell h0 h1 h2 h3
  go_enter Tryz.func16, Tryz.ntmps16
  go_wp2_with (at_builtin; refine wpList_append_own _ rfl _ _ 49 rfl w.heap.size 52 i0 (.agg #[.int .i64 0, .int .i64 0, .int .i64 0, .int .i64 0]) 4 32 Tryz.underlying49 hi1 hi2 hi3 hi4 rfl (by decide) _ _ _ rfl (hw0 w) ⟨Q, 0, none⟩ 1 1 [.int .i64 o0, .int .i64 o1, .int .i64 o2, .int .i64 o3] rfl (by simp) HC.out HU.out (by unfold maxLen; omega) (by omega) (by simp) ?_; intro v' w1 hown hgr _)
  have hown' : w1.ownsRow w.heap.size 52 4 v' 1 [.int .i64 o0, .int .i64 o1, .int .i64 o2, .int .i64 o3] := by simpa using hown
  have hkeep : Keep none_ w w1 := ((Keep.refl none_ w).alloc _).grown hgr (fun k e hk => absurd hk (by have e' : w.heap.size = k := Option.some.inj e; omega))
  clear hown hgr
  have HO := Lib.hid hown'
  have HK := Lib.hid hkeep
  clear hown' hkeep
  go_wp2_with fail
  go_ret
  rcases HO.out.2 with ⟨-, h⟩ | ⟨g, cap, cur, rfl, hb, hg, hnc, hm, hs, htake⟩
  · cases h
  · have hx := HO.out.cells (g := g) rfl
    have ea : ∀ j, (⟨g, 0, none⟩ : Addr).add j = ⟨g, j, none⟩ := fun j => by simp only [Addr.add]; split <;> simp_all
    exact ⟨g, cap, rfl, hb, by rw [← ea]; exact hx 0 _ rfl, by rw [← ea]; exact hx 1 _ rfl, by rw [← ea]; exact hx 2 _ rfl, by rw [← ea]; exact hx 3 _ rfl, HK.out⟩
end Go.Proofs.YtkjplkkjdlanhaaGreatDoor
