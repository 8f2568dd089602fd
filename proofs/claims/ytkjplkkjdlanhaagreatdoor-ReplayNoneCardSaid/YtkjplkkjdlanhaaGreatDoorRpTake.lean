/- Take of a replay, at the law's example. -/
import Derived.Test.YtkjplkkjdlanhaaGreatDoorRpNew
import Derived.Deep.QuietTactic
import Derived.BigQuiet
import Derived.Deep.RegionHeld3
import Derived.StillTailTactics
import Derived.Test.YtkjplkkjdlanhaaGreatDoorStillMid
namespace Go.Proofs.YtkjplkkjdlanhaaGreatDoor
open Go.RowKit Go.Sort
attribute [local go_sem ↓] app9_of

def cfg1 : Conf := ⟨1, 16, 1, 1, 0, 1, 1⟩
/-- The example's replay. -/
structure Rp1 (V : World) (B G pr nx pd cap : Nat) (w : World) : Prop where
  blk : Blk w B [.int .i64 1, .int .i64 16, .int .i64 1, .int .i64 1, .int .i64 0, .int .i64 1, .int .i64 1, .slice (some ⟨pr, 0, none⟩) 1 1, .slice (some ⟨nx, 0, none⟩) 1 1, .pointer (some ⟨G, 0, none⟩), .slice none 0 0, .int .i64 0] 48
  prs : w.cell? ⟨pr, 0, none⟩ = some (.slice (some ⟨pd, 0, none⟩) 1 cap)
  nxs : Blk w nx [.int .i64 0] 3
  o0 : w.cell? ⟨pd, 0, none⟩ = some (.int .i64 1)
  o1 : w.cell? ⟨pd, 1, none⟩ = some (.int .i64 0)
  o2 : w.cell? ⟨pd, 2, none⟩ = some (.int .i64 1)
  o3 : w.cell? ⟨pd, 3, none⟩ = some (.int .i64 0)
  gr : ∃ F, GSt F G cfg1 1 (rows0 1 1 0) w ∧ ∀ i, F i → V.heap.size ≤ i ∧ i < w.heap.size ∧ i ≠ B ∧ i ≠ pr ∧ i ≠ nx ∧ i ≠ pd
  new : V.heap.size ≤ B ∧ V.heap.size ≤ nx
section
variable {V w w' : World} {B G pr nx pd cap : Nat}
theorem Rp1.keep (h : Rp1 V B G pr nx pd cap w) (k : Keep none_ w w') : Rp1 V B G pr nx pd cap w' := by
  obtain ⟨F, hF, hi⟩ := h.gr
  have := k.size
  exact ⟨k.blk h.blk (fun f => f), k.still h.prs, k.blk h.nxs (fun f => f), k.still h.o0, k.still h.o1, k.still h.o2, k.still h.o3, ⟨F, hF.still k, fun i hi' => by have := hi i hi'; omega⟩, h.new⟩

end

theorem three_blk {w1 W2 : World} {A B C : List Value} {TA TB TC : TypeId} (h : W2 = (((w1.alloc (.cells A.toArray TA)).alloc (.cells B.toArray TB)).alloc (.cells C.toArray TC)).drew) :
    Blk W2 w1.heap.size A TA ∧ Blk W2 (w1.heap.size + 1) B TB ∧ Blk W2 (w1.heap.size + 1 + 1) C TC ∧ Keep none_ w1 W2 := by
  subst h
  refine ⟨(((Blk.new w1 A TA).alloc _).alloc _).drew, ?_, ?_, ((((Keep.refl _ _).alloc _).alloc _).alloc _).drew⟩
  · have h := ((Blk.new (w1.alloc (.cells A.toArray TA)) B TB).alloc (.cells C.toArray TC)).drew
    rw [World.size_alloc] at h
    exact h
  · have h := (Blk.new ((w1.alloc (.cells A.toArray TA)).alloc (.cells B.toArray TB)) C TC).drew
    rw [World.size_alloc, World.size_alloc] at h
    exact h

set_option maxRecDepth 4000 in
set_option maxHeartbeats 4000000 in
theorem rpNew_one (w : World) (hT : Tabs w) (P Q : Nat) (hP : w.cell? ⟨P, 0, none⟩ = some (.slice (some ⟨Q, 0, none⟩) 1 1)) (h0 : w.cell? ⟨Q, 0, none⟩ = some (.int .i64 1)) (h1 : w.cell? ⟨Q, 1, none⟩ = some (.int .i64 0)) (h2 : w.cell? ⟨Q, 2, none⟩ = some (.int .i64 1)) (h3 : w.cell? ⟨Q, 3, none⟩ = some (.int .i64 0)) :
    Calls Tryz.prog 5 #[.agg cfg1.cells.toArray, .slice (some ⟨P, 0, none⟩) 1 1] w fun e w' => ∃ B G pr nx pd cap, e = .returned (.tuple #[.pointer (some ⟨B, 0, none⟩), .int .i64 0]) ∧ Rp1 w B G pr nx pd cap w' ∧ Keep none_ w w' := by
  obtain ⟨W0, hW0⟩ : ∃ W', W' = w.alloc (.cells cfg1.cells.toArray 23) := ⟨_, rfl⟩
  have HK : Hid (Keep none_ w W0) := by rw [hW0]; exact (Keep.refl _ _).alloc _
  have HB := Lib.hid (show Blk W0 w.heap.size cfg1.cells 23 by rw [hW0]; exact Blk.new w _ _)
  have HN := Lib.hid (gnew_any cfg1 W0 (hT.keep HK.out) (by decide) 1 1 0 rfl rfl rfl)
  have HCL : Hid (∀ W, Keep none_ w W → Calls Tryz.prog 16 #[.slice (some ⟨Q, 0, none⟩) 1 1] W fun e w' => ∃ pd cap, e = .returned (.slice (some ⟨pd, 0, none⟩) 1 cap) ∧ W.heap.size ≤ pd ∧ w'.cell? ⟨pd, 0, none⟩ = some (.int .i64 1) ∧ w'.cell? ⟨pd, 1, none⟩ = some (.int .i64 0) ∧ w'.cell? ⟨pd, 2, none⟩ = some (.int .i64 1) ∧ w'.cell? ⟨pd, 3, none⟩ = some (.int .i64 0) ∧ Keep none_ W w') := fun W hW =>
    cloneO_one Q 1 0 1 0 W (hW.still h0) (hW.still h1) (hW.still h2) (hW.still h3)
  have hmk : ∀ w : World, (Instr.makeSlice 46 (.int .i64 1) (.int .i64 1)).run Tryz.prog w = .ok (.slice (some ⟨w.heap.size, 0, none⟩) 1 1) (w.alloc (.cells #[.int .i64 0] 3)) :=
    fun w => run_mk (P := Tryz.prog) (by kernel_rfl) Tryz.infoInt rfl (by decide) 1 (by omega) 1 rfl w
  have hmk2 : ∀ w : World, (Instr.makeSlice 32 (.int .i64 1) (.int .i64 1)).run Tryz.prog w = .ok (.slice (some ⟨w.heap.size, 0, none⟩) 1 1) (w.alloc (.cells #[.slice none 0 0] 49)) :=
    fun w => run_mk (P := Tryz.prog) (by kernel_rfl) Tryz.infoOps rfl (by decide) 1 (by omega) 1 rfl w
  simp only [Conf.cells, cfg1] at hW0 HB HN ⊢
  have HPP := Lib.hid hP
  clear hT h0 h1 h2 h3 hP
  go_enter Tryz.func5, Tryz.ntmps5
  go_wp2_with fail
  rw [← hW0]
  clear hW0
  refine HN.out.mono ?_
  rintro e w1 ⟨G, rfl, hg, hk1⟩
  have HK1 := Lib.hid (HK.out.trans hk1)
  have HB1 := Lib.hid (hk1.blk HB.out (fun f => f))
  have HG := Lib.hid hg.there
  have q0 := HB1.out.cell 0 rfl; have q1 := HB1.out.cell 1 rfl; have q2 := HB1.out.cell 2 rfl; have q3 := HB1.out.cell 3 rfl; have q4 := HB1.out.cell 4 rfl; have q5 := HB1.out.cell 5 rfl; have q6 := HB1.out.cell 6 rfl
  have p0 : ∀ o, (w1.alloc o).cell? ⟨w.heap.size, 0, none⟩ = _ := fun o => ((Keep.refl none_ w1).alloc o).still q0
  have p1 : ∀ o, (w1.alloc o).cell? ⟨w.heap.size, 1, none⟩ = _ := fun o => ((Keep.refl none_ w1).alloc o).still q1
  have p2 : ∀ o, (w1.alloc o).cell? ⟨w.heap.size, 2, none⟩ = _ := fun o => ((Keep.refl none_ w1).alloc o).still q2
  have p3 : ∀ o, (w1.alloc o).cell? ⟨w.heap.size, 3, none⟩ = _ := fun o => ((Keep.refl none_ w1).alloc o).still q3
  have p4 : ∀ o, (w1.alloc o).cell? ⟨w.heap.size, 4, none⟩ = _ := fun o => ((Keep.refl none_ w1).alloc o).still q4
  have p5 : ∀ o, (w1.alloc o).cell? ⟨w.heap.size, 5, none⟩ = _ := fun o => ((Keep.refl none_ w1).alloc o).still q5
  have p6 : ∀ o, (w1.alloc o).cell? ⟨w.heap.size, 6, none⟩ = _ := fun o => ((Keep.refl none_ w1).alloc o).still q6
  have p0' : ∀ o o', ((w1.alloc o).alloc o').cell? ⟨w.heap.size, 0, none⟩ = _ := fun o o' => (((Keep.refl none_ w1).alloc o).alloc o').still q0
  have p1' : ∀ o o', ((w1.alloc o).alloc o').cell? ⟨w.heap.size, 1, none⟩ = _ := fun o o' => (((Keep.refl none_ w1).alloc o).alloc o').still q1
  have p2' : ∀ o o', ((w1.alloc o).alloc o').cell? ⟨w.heap.size, 2, none⟩ = _ := fun o o' => (((Keep.refl none_ w1).alloc o).alloc o').still q2
  have p3' : ∀ o o', ((w1.alloc o).alloc o').cell? ⟨w.heap.size, 3, none⟩ = _ := fun o o' => (((Keep.refl none_ w1).alloc o).alloc o').still q3
  have p4' : ∀ o o', ((w1.alloc o).alloc o').cell? ⟨w.heap.size, 4, none⟩ = _ := fun o o' => (((Keep.refl none_ w1).alloc o).alloc o').still q4
  have p5' : ∀ o o', ((w1.alloc o).alloc o').cell? ⟨w.heap.size, 5, none⟩ = _ := fun o o' => (((Keep.refl none_ w1).alloc o).alloc o').still q5
  have p6' : ∀ o o', ((w1.alloc o).alloc o').cell? ⟨w.heap.size, 6, none⟩ = _ := fun o o' => (((Keep.refl none_ w1).alloc o).alloc o').still q6
  have HS1 : Hid (w.heap.size ≤ w1.heap.size) := HK1.out.size
  have HSW : Hid (w.heap.size ≤ W0.heap.size) := HK.out.size
  clear hk1 HK hg HB HB1 HN
  go_wp2_with fail
  go_region
  all_goals
    first
      | (obtain ⟨W2, hW2⟩ : ∃ W', W' = (((w1.alloc (.cells #[.int .i64 0] 3)).alloc (.cells #[.slice none 0 0] 49)).alloc (.cells #[.int .i64 1, .int .i64 16, .int .i64 1, .int .i64 1, .int .i64 0, .int .i64 1, .int .i64 1, .slice (some ⟨w1.heap.size + 1, 0, none⟩) 1 1, .slice (some ⟨w1.heap.size, 0, none⟩) 1 1, .pointer (some ⟨G, 0, none⟩), .slice none 0 0, .int .i64 0] 48)).drew := ⟨_, rfl⟩
         rw [← hW2]
         obtain ⟨hnx, hpr, hC, hk2⟩ := three_blk (A := [.int .i64 0]) (B := [.slice none 0 0]) (C := [.int .i64 1, .int .i64 16, .int .i64 1, .int .i64 1, .int .i64 0, .int .i64 1, .int .i64 1, .slice (some ⟨w1.heap.size + 1, 0, none⟩) 1 1, .slice (some ⟨w1.heap.size, 0, none⟩) 1 1, .pointer (some ⟨G, 0, none⟩), .slice none 0 0, .int .i64 0]) hW2
         clear hW2
         have hdiff : w1.heap.size ≠ w1.heap.size + 1 ∧ w1.heap.size + 1 + 1 ≠ w1.heap.size ∧ w1.heap.size + 1 + 1 ≠ w1.heap.size + 1 := by omega
         have hlow : w1.heap.size ≤ w1.heap.size ∧ w1.heap.size ≤ w1.heap.size + 1 ∧ w1.heap.size ≤ w1.heap.size + 1 + 1 := by omega
         obtain ⟨Z, hZ⟩ : ∃ Z, Z = w1.heap.size := ⟨_, rfl⟩
         rw [← hZ] at HG HS1
         have hlow' : Z ≤ w1.heap.size ∧ Z ≤ w1.heap.size + 1 ∧ Z ≤ w1.heap.size + 1 + 1 := by omega
         clear hZ hlow
         generalize w1.heap.size + 1 + 1 = B at *
         generalize w1.heap.size + 1 = pr at *
         generalize w1.heap.size = nx at *)
      | (obtain ⟨W2, hW2⟩ : ∃ W', W' = (((w1.alloc (.cells #[.slice none 0 0] 49)).alloc (.cells #[.int .i64 0] 3)).alloc (.cells #[.int .i64 1, .int .i64 16, .int .i64 1, .int .i64 1, .int .i64 0, .int .i64 1, .int .i64 1, .slice (some ⟨w1.heap.size, 0, none⟩) 1 1, .slice (some ⟨w1.heap.size + 1, 0, none⟩) 1 1, .pointer (some ⟨G, 0, none⟩), .slice none 0 0, .int .i64 0] 48)).drew := ⟨_, rfl⟩
         rw [← hW2]
         obtain ⟨hpr, hnx, hC, hk2⟩ := three_blk (A := [.slice none 0 0]) (B := [.int .i64 0]) (C := [.int .i64 1, .int .i64 16, .int .i64 1, .int .i64 1, .int .i64 0, .int .i64 1, .int .i64 1, .slice (some ⟨w1.heap.size, 0, none⟩) 1 1, .slice (some ⟨w1.heap.size + 1, 0, none⟩) 1 1, .pointer (some ⟨G, 0, none⟩), .slice none 0 0, .int .i64 0]) hW2
         clear hW2
         have hdiff : w1.heap.size + 1 ≠ w1.heap.size ∧ w1.heap.size + 1 + 1 ≠ w1.heap.size + 1 ∧ w1.heap.size + 1 + 1 ≠ w1.heap.size := by omega
         obtain ⟨Z, hZ⟩ : ∃ Z, Z = w1.heap.size := ⟨_, rfl⟩
         rw [← hZ] at HG HS1
         have hlow' : Z ≤ w1.heap.size + 1 ∧ Z ≤ w1.heap.size ∧ Z ≤ w1.heap.size + 1 + 1 := by omega
         clear hZ
         generalize w1.heap.size + 1 + 1 = B at *
         generalize w1.heap.size + 1 = nx at *
         generalize w1.heap.size = pr at *)
    obtain ⟨ne1, ne2, ne3⟩ := hdiff
    obtain ⟨lo1, lo2, lo3⟩ := hlow'
    have HKW := Lib.hid (HK1.out.trans hk2)
    have HP2 := Lib.hid (HKW.out.still HPP.out)
    have HG2 := Lib.hid (HG.out.still hk2)
    have HNX := Lib.hid hnx
    have HPR := Lib.hid hpr
    have HCC := Lib.hid hC
    have HD := Lib.hid (And.intro ne1 (And.intro ne2 (And.intro ne3 (And.intro lo1 (And.intro lo2 lo3)))))
    clear hnx hpr hC hk2 ne1 ne2 ne3 lo1 lo2 lo3 q0 q1 q2 q3 q4 q5 q6 p0 p1 p2 p3 p4 p5 p6 p0' p1' p2' p3' p4' p5' p6' hmk hmk2 HK1 HG HPP
    go_wp2_with fail
    go_loopg [37] 1 (fun g i wr => ∃ k : Nat, g + k = 1 ∧ i = .int .i64 k ∧ (k = 0 → W2 = wr) ∧ Hid (k = 1 → ∃ pd cap, Rp1 w B G pr nx pd cap wr ∧ Keep none_ w wr))
    case atStart => exact ⟨0, rfl, rfl, fun _ => rfl, fun h => by cases h⟩
    case round =>
      obtain ⟨k, hg, rfl, h0, h1⟩ := hrel
      obtain rfl | rfl : k = 0 ∨ k = 1 := by omega
      · obtain rfl := h0 rfl
        clear h0 h1
        have b7 := HCC.out.cell 7 rfl
        have p0 := HPR.out.cell 0 rfl
        have f0 := HPR.out.free 0
        have pp := HP2.out
        go_wp2_with fail
        go_region_held3 (fun w' => w'.cell? ⟨B, 7, none⟩ = some (.slice (some ⟨pr, 0, none⟩) 1 1) ∧ (∃ v, w'.cell? ⟨pr, 0, none⟩ = some v) ∧ w'.frozen? ⟨pr, 0, none⟩ = false)
          (first
            | exact ⟨b7, ⟨_, p0⟩, f0⟩
            | exact hS3
            | exact hST _
            | fail "SFAIL")
          ((go_at_call 16
            refine (HCL.out _ (HKW.out.drew)).mono ?_
            rintro e w3 ⟨pd, cap, rfl, hpd, d0, d1, d2, d3, hk3⟩
            have HK3 := Lib.hid (((Keep.refl none_ W2).drew).trans hk3)
            have hpr3 := HK3.out.blk HPR.out (fun f => f)
            have hC3 := HK3.out.blk HCC.out (fun f => f)
            have hS3 : w3.cell? ⟨B, 7, none⟩ = some (.slice (some ⟨pr, 0, none⟩) 1 1) ∧ (∃ v, w3.cell? ⟨pr, 0, none⟩ = some v) ∧ w3.frozen? ⟨pr, 0, none⟩ = false := ⟨hC3.cell 7 rfl, ⟨_, hpr3.cell 0 rfl⟩, hpr3.free 0⟩
            have hST : ∀ v, (w3.setCell ⟨pr, 0, none⟩ v).cell? ⟨B, 7, none⟩ = some (.slice (some ⟨pr, 0, none⟩) 1 1) ∧ (∃ u, (w3.setCell ⟨pr, 0, none⟩ v).cell? ⟨pr, 0, none⟩ = some u) ∧ (w3.setCell ⟨pr, 0, none⟩ v).frozen? ⟨pr, 0, none⟩ = false := fun v =>
              ⟨(hC3.other (a := ⟨pr, 0, none⟩) HD.out.2.2.1 v).cell 7 rfl, ⟨_, (hpr3.set 0 v).cell 0 rfl⟩, (hpr3.set 0 v).free 0⟩
            have HDD := Lib.hid (And.intro d0 (And.intro d1 (And.intro d2 d3)))
            have HPD := Lib.hid hpd
            have sp := hpr3.cell 0 rfl
            have sf := hpr3.free 0
            have HPR3 := Lib.hid hpr3
            have HC3 := Lib.hid hC3
            clear d0 d1 d2 d3 hpd hk3 hpr3 hC3))
        have hfin : ∃ pd' cap', Rp1 w B G pr nx pd' cap' (w3.setCell ⟨pr, 0, none⟩ (.slice (some ⟨pd, 0, none⟩) 1 cap)) ∧ Keep none_ w (w3.setCell ⟨pr, 0, none⟩ (.slice (some ⟨pd, 0, none⟩) 1 cap)) := by
          obtain ⟨ne1, ne2, ne3, lo1, lo2, lo3⟩ := HD.out
          have hkp : Keep (only pr) w3 (w3.setCell ⟨pr, 0, none⟩ (.slice (some ⟨pd, 0, none⟩) 1 cap)) := (Keep.refl _ _).put 0 _
          have hwpr : w.heap.size ≤ pr := Nat.le_trans HS1.out lo2
          have hkw : Keep none_ w (w3.setCell ⟨pr, 0, none⟩ (.slice (some ⟨pd, 0, none⟩) 1 cap)) := (HKW.out.trans HK3.out).onNew hkp hwpr
          have hpdpr : pd ≠ pr := by
            have h9 := HPR.out.lt
            have h8 : W2.heap.size ≤ pd := HPD.out
            omega
          have hs3 := HK3.out.size
          refine ⟨pd, cap, ⟨HC3.out.other (a := ⟨pr, 0, none⟩) ne3 _, (HPR3.out.set 0 _).cell 0 rfl, (HK3.out.blk HNX.out (fun f => f)).other (a := ⟨pr, 0, none⟩) ne1 _, hkp.cellv HDD.out.1 hpdpr, hkp.cellv HDD.out.2.1 hpdpr, hkp.cellv HDD.out.2.2.1 hpdpr, hkp.cellv HDD.out.2.2.2 hpdpr, ?_, Nat.le_trans HS1.out lo3, Nat.le_trans HS1.out lo1⟩, hkw⟩
          refine ⟨_, (HG2.out.still HK3.out).keep hkp (fun i hi e => ?_), fun i hi => ?_⟩
          · have h7 : i = pr := e
            omega
          · have h9 := HPR.out.lt
            have h8 : W2.heap.size ≤ pd := HPD.out
            have h6 := (HKW.out.trans HK3.out).size
            have h5 := hkp.size
            have h4 : w.heap.size ≤ W0.heap.size := HSW.out
            omega
        have HFIN := Lib.hid hfin
        clear hfin hS3 hST sp sf
        go_wp2_with fail
        go_roundg (gk - 1)
        case measure => omega
        case rel => exact ⟨1, by omega, rfl, (fun h => by cases h), fun _ => HFIN.out⟩
      · obtain ⟨pd, cap, hr, hk⟩ := h1.out rfl
        have HR := Lib.hid hr
        have HKF := Lib.hid hk
        clear hr hk h0 h1
        go_wp2_with fail
        go_ret2
        exact ⟨B, G, pr, nx, pd, cap, rfl, HR.out, HKF.out⟩

section
variable {V w w' : World} {B G pr nx pd cap : Nat}
def evL : List Value := [.int .i64 0, .int .i64 0, .int .i64 1, .int .i64 0, .int .i64 0, .int .i64 5]

set_option maxRecDepth 4000 in
set_option maxHeartbeats 4000000 in
theorem rpKnown_one (h : Rp1 V B G pr nx pd cap w) : Calls Tryz.prog 22 #[.pointer (some ⟨B, 0, none⟩), .agg evL.toArray] w fun e w' => e = .returned (.bool true) ∧ Keep none_ w w' := by
  obtain ⟨W0, hW0⟩ : ∃ W', W' = w.alloc (.cells evL.toArray 26) := ⟨_, rfl⟩
  have HK : Hid (Keep none_ w W0) := by rw [hW0]; exact (Keep.refl _ _).alloc _
  have HE := Lib.hid (show Blk W0 w.heap.size evL 26 by rw [hW0]; exact Blk.new w _ _)
  have h0 := h.keep HK.out
  have y7 := h0.blk.cell 7 rfl
  have y8 := h0.blk.cell 8 rfl
  have n0 := h0.nxs.cell 0 rfl
  have p0 := h0.prs
  have e1 := HE.out.cell 1 rfl
  have e3 := HE.out.cell 3 rfl
  clear h h0
  simp only [evL] at hW0 ⊢
  go_enter Tryz.func22, Tryz.ntmps22
  go_wp2_with fail
  rw [← hW0]
  clear hW0
  go_quiet (fail)
  go_wp2_with fail
  go_ret
  exact ⟨rfl, HK.out.drewN _⟩
set_option maxRecDepth 4000 in
set_option maxHeartbeats 4000000 in
theorem rpMemory_one (h : Rp1 V B G pr nx pd cap w) : Calls Tryz.prog 23 #[.pointer (some ⟨B, 0, none⟩), .agg evL.toArray] w fun e w' => e = .returned (.bool true) ∧ Keep none_ w w' := by
  obtain ⟨W0, hW0⟩ : ∃ W', W' = w.alloc (.cells evL.toArray 26) := ⟨_, rfl⟩
  have HK : Hid (Keep none_ w W0) := by rw [hW0]; exact (Keep.refl _ _).alloc _
  have HE := Lib.hid (show Blk W0 w.heap.size evL 26 by rw [hW0]; exact Blk.new w _ _)
  have h0 := h.keep HK.out
  have y7 := h0.blk.cell 7 rfl
  have p0 := h0.prs
  have o0 := h0.o0; have o1 := h0.o1; have o2 := h0.o2; have o3 := h0.o3
  have e1 := HE.out.cell 1 rfl
  have e3 := HE.out.cell 3 rfl
  have HA : ∀ o, Keep none_ W0 (W0.alloc o) := fun o => (Keep.refl _ _).alloc o
  have y7' : ∀ o, (W0.alloc o).cell? ⟨B, 7, none⟩ = _ := fun o => (HA o).still y7
  have p0' : ∀ o, (W0.alloc o).cell? ⟨pr, 0, none⟩ = _ := fun o => (HA o).still p0
  have o0' : ∀ o, (W0.alloc o).cell? ⟨pd, 0, none⟩ = _ := fun o => (HA o).still o0
  have o1' : ∀ o, (W0.alloc o).cell? ⟨pd, 1, none⟩ = _ := fun o => (HA o).still o1
  have o2' : ∀ o, (W0.alloc o).cell? ⟨pd, 2, none⟩ = _ := fun o => (HA o).still o2
  have o3' : ∀ o, (W0.alloc o).cell? ⟨pd, 3, none⟩ = _ := fun o => (HA o).still o3
  have e1' : ∀ o, (W0.alloc o).cell? ⟨w.heap.size, 1, none⟩ = _ := fun o => (HA o).still e1
  have e3' : ∀ o, (W0.alloc o).cell? ⟨w.heap.size, 3, none⟩ = _ := fun o => (HA o).still e3
  clear h h0 HA
  simp only [evL] at hW0 ⊢
  go_enter Tryz.func23, Tryz.ntmps23
  go_wp2_with fail
  rw [← hW0]
  clear hW0
  go_region
  obtain ⟨W1, hW1⟩ : ∃ W', W' = (W0.alloc (.cells #[.int .i64 1, .int .i64 0, .int .i64 1, .int .i64 0] 52)).drew := ⟨_, rfl⟩
  rw [← hW1]
  have HK1 : Hid (Keep none_ W0 W1) := by rw [hW1]; exact ((Keep.refl _ _).alloc _).drew
  have e4 := HK1.out.still (HE.out.cell 4 rfl)
  clear hW1 y7 p0 o0 o1 o2 o3 e1 e3 y7' p0' o0' o1' o2' o3' e1' e3'
  go_wp2_with fail
  go_quiet (fail)
  go_wp2_with fail
  go_ret
  exact ⟨rfl, (HK.out.trans HK1.out).drewN _⟩
set_option maxRecDepth 4000 in
set_option maxHeartbeats 4000000 in
theorem rpRight_one (h : Rp1 V B G pr nx pd cap w) (hT : Tabs w) : Calls Tryz.prog 24 #[.pointer (some ⟨B, 0, none⟩), .agg evL.toArray] w fun e w' => e = .returned (.bool true) ∧ Keep none_ w w' := by
  have hgd : gDoP cfg1 1 (rows0 1 1 0) 0 ⟨1, 0, 1, 0⟩ = ([[1], [], [0]], 1, 0) := by decide
  obtain ⟨F, hF, -⟩ := h.gr
  have HCP : Hid (∀ W, Keep none_ w W → Calls Tryz.prog 26 #[.pointer (some ⟨G, 0, none⟩)] W fun e w' => ∃ B', e = .returned (.pointer (some ⟨B', 0, none⟩)) ∧ GSt (fun k => W.heap.size ≤ k) B' cfg1 1 (rows0 1 1 0) w' ∧ Keep none_ W w') := fun W hW =>
    gcopy_any (hF.still hW) (by omega) (by decide)
  have HDO : Hid (∀ (W : World) (s B' : Nat), GSt (fun k => s ≤ k) B' cfg1 1 (rows0 1 1 0) W → s ≤ W.heap.size → Keep none_ w W → Calls Tryz.prog 25 #[.pointer (some ⟨B', 0, none⟩), .int .i64 0, .agg #[.int .i64 1, .int .i64 0, .int .i64 1, .int .i64 0]] W fun e w' => e = .returned (.tuple #[.int .i64 1, .int .i64 0]) ∧ Keep (fun k => s ≤ k) W w') := fun W s B' hg hs hW => by
    have h9 := gdo_any hg (fun k hk => Nat.le_trans hs hk) (by decide) 0 ⟨1, 0, 1, 0⟩ (hT.keep hW)
    rw [hgd] at h9
    exact h9.mono (fun e w' ⟨a, _, b⟩ => ⟨a, b⟩)
  obtain ⟨W0, hW0⟩ : ∃ W', W' = w.alloc (.cells evL.toArray 26) := ⟨_, rfl⟩
  have HK : Hid (Keep none_ w W0) := by rw [hW0]; exact (Keep.refl _ _).alloc _
  have HE := Lib.hid (show Blk W0 w.heap.size evL 26 by rw [hW0]; exact Blk.new w _ _)
  have h0 := h.keep HK.out
  have HH := Lib.hid h0
  have y7 := h0.blk.cell 7 rfl
  have p0 := h0.prs
  have o0 := h0.o0; have o1 := h0.o1; have o2 := h0.o2; have o3 := h0.o3
  have e1 := HE.out.cell 1 rfl
  have e3 := HE.out.cell 3 rfl
  have e4 := HE.out.cell 4 rfl
  have HA : ∀ o, Keep none_ W0 (W0.alloc o) := fun o => (Keep.refl _ _).alloc o
  have y7' : ∀ o, (W0.alloc o).cell? ⟨B, 7, none⟩ = _ := fun o => (HA o).still y7
  have p0' : ∀ o, (W0.alloc o).cell? ⟨pr, 0, none⟩ = _ := fun o => (HA o).still p0
  have o0' : ∀ o, (W0.alloc o).cell? ⟨pd, 0, none⟩ = _ := fun o => (HA o).still o0
  have o1' : ∀ o, (W0.alloc o).cell? ⟨pd, 1, none⟩ = _ := fun o => (HA o).still o1
  have o2' : ∀ o, (W0.alloc o).cell? ⟨pd, 2, none⟩ = _ := fun o => (HA o).still o2
  have o3' : ∀ o, (W0.alloc o).cell? ⟨pd, 3, none⟩ = _ := fun o => (HA o).still o3
  have e1' : ∀ o, (W0.alloc o).cell? ⟨w.heap.size, 1, none⟩ = _ := fun o => (HA o).still e1
  have e3' : ∀ o, (W0.alloc o).cell? ⟨w.heap.size, 3, none⟩ = _ := fun o => (HA o).still e3
  have e4w := e4
  rw [hW0] at e4w
  clear h h0 HA hF hgd
  simp only [evL] at hW0 e4w ⊢
  go_enter Tryz.func24, Tryz.ntmps24
  go_wp2_with fail
  rw [← hW0]
  clear hW0 e4w
  go_region
  obtain ⟨W1, hW1⟩ : ∃ W', W' = (W0.alloc (.cells #[.int .i64 1, .int .i64 0, .int .i64 1, .int .i64 0] 52)).drew := ⟨_, rfl⟩
  rw [← hW1]
  have HK1 : Hid (Keep none_ W0 W1) := by rw [hW1]; exact ((Keep.refl _ _).alloc _).drew
  have HB1 : Hid (Blk W1 W0.heap.size [.int .i64 1, .int .i64 0, .int .i64 1, .int .i64 0] 52) := by rw [hW1]; exact (Blk.new W0 _ _).drew
  clear hW1 y7 p0 o0 o1 o2 o3 e1 e3 e4 y7' p0' o0' o1' o2' o3' e1' e3'
  have s0 := HK1.out.still (HH.out.blk.cell 9 rfl)
  have s1 := HK1.out.still (HE.out.cell 1 rfl)
  have s2 := HB1.out.cell 0 rfl; have s3 := HB1.out.cell 1 rfl; have s4 := HB1.out.cell 2 rfl; have s5 := HB1.out.cell 3 rfl
  have HKW := Lib.hid (HK.out.trans HK1.out)
  go_wp2_with fail
  go_region_held3 (fun w' => w'.cell? ⟨B, 9, none⟩ = some (.pointer (some ⟨G, 0, none⟩)) ∧ w'.cell? ⟨w.heap.size, 1, none⟩ = some (.int .i64 0) ∧ w'.cell? ⟨W0.heap.size, 0, none⟩ = some (.int .i64 1) ∧ w'.cell? ⟨W0.heap.size, 1, none⟩ = some (.int .i64 0) ∧ w'.cell? ⟨W0.heap.size, 2, none⟩ = some (.int .i64 1) ∧ w'.cell? ⟨W0.heap.size, 3, none⟩ = some (.int .i64 0))
    (first
      | exact ⟨s0, s1, s2, s3, s4, s5⟩
      | exact ⟨hk2.still s0, hk2.still s1, hk2.still s2, hk2.still s3, hk2.still s4, hk2.still s5⟩
      | exact ⟨hk3.still s0, hk3.still s1, hk3.still s2, hk3.still s3, hk3.still s4, hk3.still s5⟩
      | fail "SFAIL")
    (first
      | (go_at_call 26
         refine (HCP.out _ HKW.out.drew).mono ?_
         rintro e w2 ⟨B', rfl, hg2, hk2⟩
         have HG2 := Lib.hid hg2
         have HS2 := Lib.hid hk2.size
         have hk2 := ((Keep.refl none_ W1).drew).trans hk2
         clear hg2)
      | (go_at_call 25
         refine (HDO.out _ _ _ HG2.out HS2.out (HKW.out.trans hk2)).mono ?_
         rintro e w3 ⟨rfl, hk3⟩
         have hk3 := hk2.trans' hk3 (fun i hi h => absurd h (by have : W1.drew.heap.size = W1.heap.size := rfl; omega))))
  have HKF := Lib.hid (HKW.out.trans hk3)
  have e4 := hk3.still (HK1.out.still (HE.out.cell 4 rfl))
  have e5 := hk3.still (HK1.out.still (HE.out.cell 5 rfl))
  have t0 := hk3.still s2
  go_wp2_with fail
  go_ret
  exact ⟨rfl, HKF.out⟩
end
end Go.Proofs.YtkjplkkjdlanhaaGreatDoor
