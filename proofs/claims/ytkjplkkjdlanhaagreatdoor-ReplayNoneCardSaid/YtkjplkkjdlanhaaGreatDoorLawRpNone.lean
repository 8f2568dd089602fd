/- The walk of ReplayNone. -/
import Derived.Test.YtkjplkkjdlanhaaGreatDoorRpNil
import Derived.Test.YtkjplkkjdlanhaaGreatDoorRRight
import Derived.IntWalk
namespace Go.Proofs.YtkjplkkjdlanhaaGreatDoor
open Go.RowKit Go.Sort

set_option maxRecDepth 4000 in
set_option maxHeartbeats 8000000 in
theorem replayNone_any (z0 z1 : List Value) (n : Int) (w : World) (h0 : FlatOk [.int .i64, .int .i64, .int .i64, .int .i64, .int .i64, .int .i64, .int .i64] z0) (h1 : FlatOk [.int .i64, .int .i64, .int .i64, .int .i64, .int .i64, .int .i64] z1) (_hn : (Lit.int .i64 n).wf = true) (hL : laidMetH Tryz.prog Rows.replayNoneRow.laid w) :
    Calls Tryz.prog 3 #[.agg z0.toArray, .agg z1.toArray, .int .i64 n] w fun e w' => e = .returned (.bool true) ∧ Keep none_ w w' := by
  have hL' : laidMetH Tryz.prog [("dustpan/config.limits", Rows.laid_dustpan_config_limits), ("dustpan/class.sizes", Rows.laid_dustpan_class_sizes), ("dustpan/op.kinds", Rows.laid_dustpan_op_kinds)] w := hL
  rw [MakeChecks.laidMetH_plain _ _ _ (by kernel_rfl)] at hL'
  have hT : Tabs w := ⟨lim_of hL', kind_of (laidMet.tail (laidMet.tail hL'))⟩
  have HT := Lib.hid hT
  clear hL hL' hT
  obtain ⟨c, rfl, -⟩ := conf_of h0
  obtain ⟨v0, v1, v2, v3, v4, v5, rfl⟩ : ∃ v0 v1 v2 v3 v4 v5 : Int, z1 = [.int .i64 v0, .int .i64 v1, .int .i64 v2, .int .i64 v3, .int .i64 v4, .int .i64 v5] := by
    obtain ⟨u0, g0, x0, rfl, y0⟩ := h1.at_ 0 _ rfl
    obtain ⟨u1, g1, x1, rfl, y1⟩ := h1.at_ 1 _ rfl
    obtain ⟨u2, g2, x2, rfl, y2⟩ := h1.at_ 2 _ rfl
    obtain ⟨u3, g3, x3, rfl, y3⟩ := h1.at_ 3 _ rfl
    obtain ⟨u4, g4, x4, rfl, y4⟩ := h1.at_ 4 _ rfl
    obtain ⟨u5, g5, x5, rfl, y5⟩ := h1.at_ 5 _ rfl
    have hl := h1.len
    match z1, hl with
    | [a0, a1, a2, a3, a4, a5], _ =>
      simp at g0 g1 g2 g3 g4 g5
      exact ⟨x0, x1, x2, x3, x4, x5, by simp [g0, g1, g2, g3, g4, g5]⟩
  clear h0 h1
  have HRR := Lib.hid (fun W => rRight_any c W)
  have HLI := Lib.hid (fun W => little_any c W)
  have HNB := Lib.hid (fun W (h : Keep none_ w W) (hok : c.ok = false) => rpNew_bad c W (HT.out.keep h) hok (.slice none 0 0))
  have HALL := Lib.hid rpAll_nil
  have HTK := Lib.hid (fun W => rpTake_nil v0 v1 v2 v3 v4 v5 W)
  have HAD := Lib.hid (fun W => rpAddress_nil n W)
  have HCO := Lib.hid rpCount_nil
  have HGR := Lib.hid rpGraph_nil
  have HSA := Lib.hid rpSame_nil
  have HAW := Lib.hid (fun W (h : Keep none_ w W) => awake25_any W (HT.out.keep h))
  obtain ⟨q, hq⟩ : ∃ q, q = c.little := ⟨_, rfl⟩
  rw [← hq] at HLI
  have hok1 : q.ok = true := by rw [hq]; exact little_ok c
  have hnums := little_nums c
  rw [← hq] at hnums
  obtain ⟨m, r, k, hm, hr, hk, m1, m4, r1, r5, k3⟩ := hnums
  have HMANY : Hid (∀ W, Keep none_ w W → ∀ a, Calls Tryz.prog 5 #[.agg q.cells.toArray, .slice a (m + 1) (m + 1)] W fun e w' => e = .returned (.tuple #[.pointer none, .int .i64 1]) ∧ Keep none_ W w') := fun W hW a =>
    rpNew_many q W (HT.out.keep hW) hok1 m r k hm hr hk a (m + 1) (m + 1) (by omega)
  have HZERO : Hid (∀ W, Keep none_ w W → Calls Tryz.prog 5 #[.agg q.cells.toArray, .slice none 0 0] W fun e w' => ∃ B, e = .returned (.tuple #[.pointer (some ⟨B, 0, none⟩), .int .i64 0]) ∧ Keep none_ W w') := fun W hW =>
    rpNew_zero q W (HT.out.keep hW) hok1 m r k hm hr hk (by omega)
  obtain ⟨q0, q1, q2, q3, q4, q5, q6⟩ := q
  simp only at hm
  subst hm
  clear hr hk hok1 hq r1 r5 k3
  have hmk : ∀ w : World, (Instr.makeSlice 32 (.int .i64 ((m : Int) + 1)) (.int .i64 ((m : Int) + 1))).run Tryz.prog w = .ok (.slice (some ⟨w.heap.size, 0, none⟩) (m + 1) (m + 1)) (w.alloc (.cells (zeros (.slice none 0 0) (m + 1)).toArray 49)) :=
    fun w => run_mk (P := Tryz.prog) (by kernel_rfl) Tryz.infoOps rfl (by decide) (m + 1) (by omega) _ (by omega) w
  obtain ⟨W0, hW0⟩ : ∃ W', W' = (w.alloc (.cells c.cells.toArray 23)).alloc (.cells #[.int .i64 v0, .int .i64 v1, .int .i64 v2, .int .i64 v3, .int .i64 v4, .int .i64 v5] 26) := ⟨_, rfl⟩
  have HK0 : Hid (Keep none_ w W0) := by rw [hW0]; exact ((Keep.refl _ _).alloc _).alloc _
  have HC0 : Hid (Blk W0 w.heap.size c.cells 23) := by rw [hW0]; exact (Blk.new w _ _).alloc _
  have HE0 : Hid (Blk W0 (w.heap.size + 1) [.int .i64 v0, .int .i64 v1, .int .i64 v2, .int .i64 v3, .int .i64 v4, .int .i64 v5] 26) := by
    rw [hW0]
    have h := Blk.new (w.alloc (.cells c.cells.toArray 23)) [.int .i64 v0, .int .i64 v1, .int .i64 v2, .int .i64 v3, .int .i64 v4, .int .i64 v5] 26
    simp only [World.size_alloc] at h
    exact h
  obtain ⟨ok, hok⟩ : ∃ ok, ok = c.ok := ⟨_, rfl⟩
  rw [← hok] at HRR HNB
  clear hok
  obtain ⟨c0, c1, c2, c3, c4, c5, c6⟩ := c
  simp only [Conf.cells] at *
  go_enter Tryz.func3, Tryz.ntmps3
  go_wp2_with fail
  rw [← hW0]
  clear hW0
  refine (HRR.out W0).mono ?_
  rintro e W1 ⟨rfl, hk1⟩
  have HK1 := Lib.hid (HK0.out.trans hk1)
  have HC1 := Lib.hid (hk1.blk HC0.out (fun f => f))
  have HE1 := Lib.hid (hk1.blk HE0.out (fun f => f))
  clear hk1 HK0 HC0 HE0 HRR
  generalize w.heap.size = C at *
  have y0 := HC1.out.cell 0 rfl; have y1 := HC1.out.cell 1 rfl; have y2 := HC1.out.cell 2 rfl; have y3 := HC1.out.cell 3 rfl; have y4 := HC1.out.cell 4 rfl; have y5 := HC1.out.cell 5 rfl; have y6 := HC1.out.cell 6 rfl
  cases ok with
  | true =>
    have HKV := HK1
    have HCV := HC1
    have HEV := HE1
    obtain ⟨V1, rfl⟩ : ∃ V1 : World, V1 = W1 := ⟨_, rfl⟩
    clear HK1 HC1 HE1 HNB
    go_wp2_with fail
    refine (HLI.out V1).mono ?_
    rintro e V2 ⟨rfl, hk2⟩
    have HK2 := Lib.hid (HKV.out.trans hk2)
    have HE2 := Lib.hid (hk2.blk HEV.out (fun f => f))
    clear hk2 y0 y1 y2 y3 y4 y5 y6 HKV HCV HEV
    go_wp2_with fail
    obtain ⟨V3, hV3⟩ : ∃ W', W' = V2.alloc (.cells #[.int .i64 q0, .int .i64 q1, .int .i64 (m : Int), .int .i64 q3, .int .i64 q4, .int .i64 q5, .int .i64 q6] 23) := ⟨_, rfl⟩
    rw [← hV3]
    have HK3 : Hid (Keep none_ w V3) := by rw [hV3]; exact HK2.out.alloc _
    have HE3 : Hid (Blk V3 (C + 1) [.int .i64 v0, .int .i64 v1, .int .i64 v2, .int .i64 v3, .int .i64 v4, .int .i64 v5] 26) := by rw [hV3]; exact HE2.out.alloc _
    have HD3 : Hid (Blk V3 V2.heap.size [.int .i64 q0, .int .i64 q1, .int .i64 (m : Int), .int .i64 q3, .int .i64 q4, .int .i64 q5, .int .i64 q6] 23) := by rw [hV3]; exact Blk.new V2 _ _
    clear hV3 HK2 HE2
    generalize V2.heap.size = D at *
    have s0 := HD3.out.cell 0 rfl; have s1 := HD3.out.cell 1 rfl; have s2 := HD3.out.cell 2 rfl; have s3 := HD3.out.cell 3 rfl; have s4 := HD3.out.cell 4 rfl; have s5 := HD3.out.cell 5 rfl; have s6 := HD3.out.cell 6 rfl
    have HA : ∀ o, Keep none_ V3 (V3.drew.alloc o) := fun o => ((Keep.refl _ _).drew).alloc o
    have HA2 : Hid (∀ o, Keep none_ w (V3.drew.alloc o)) := fun o => HK3.out.drew.alloc o
    have hwr : IntKind.i64.wrap ((m : Int) + 1) = (m : Int) + 1 := IntWalk.i64_in _ (by omega)
    go_region_held3 (fun w' => w'.cell? ⟨D, 0, none⟩ = some (.int .i64 q0) ∧ w'.cell? ⟨D, 1, none⟩ = some (.int .i64 q1) ∧ w'.cell? ⟨D, 2, none⟩ = some (.int .i64 (m : Int)) ∧ w'.cell? ⟨D, 3, none⟩ = some (.int .i64 q3) ∧ w'.cell? ⟨D, 4, none⟩ = some (.int .i64 q4) ∧ w'.cell? ⟨D, 5, none⟩ = some (.int .i64 q5) ∧ w'.cell? ⟨D, 6, none⟩ = some (.int .i64 q6))
      (first
        | exact ⟨s0, s1, s2, s3, s4, s5, s6⟩
        | exact ⟨(HA _).still s0, (HA _).still s1, (HA _).still s2, (HA _).still s3, (HA _).still s4, (HA _).still s5, (HA _).still s6⟩
        | exact ⟨hk4.still s0, hk4.still s1, hk4.still s2, hk4.still s3, hk4.still s4, hk4.still s5, hk4.still s6⟩
        | fail "SFAIL")
      ((go_at_call 5
        refine (HMANY.out _ (HA2.out _) _).mono ?_
        rintro e w4 ⟨rfl, hk4⟩
        have hk4 := (HA _).trans hk4))
    have HK4 := Lib.hid (HK3.out.trans hk4)
    have HE4 := Lib.hid (hk4.blk HE3.out (fun f => f))
    have HD4 := Lib.hid (hk4.blk HD3.out (fun f => f))
    clear s0 s1 s2 s3 s4 s5 s6 HA HA2 hk4 HK3 HE3 HD3 hmk hwr
    have x0 := HE4.out.cell 0 rfl; have x1 := HE4.out.cell 1 rfl; have x2 := HE4.out.cell 2 rfl; have x3 := HE4.out.cell 3 rfl; have x4 := HE4.out.cell 4 rfl; have x5 := HE4.out.cell 5 rfl
    have HB : ∀ o, Keep none_ w4 (w4.alloc o) := fun o => (Keep.refl _ _).alloc o
    have s0 := fun o => (HB o).still (HD4.out.cell 0 rfl); have s1 := fun o => (HB o).still (HD4.out.cell 1 rfl); have s2 := fun o => (HB o).still (HD4.out.cell 2 rfl); have s3 := fun o => (HB o).still (HD4.out.cell 3 rfl); have s4 := fun o => (HB o).still (HD4.out.cell 4 rfl); have s5 := fun o => (HB o).still (HD4.out.cell 5 rfl); have s6 := fun o => (HB o).still (HD4.out.cell 6 rfl)
    go_wp2_with (go_at_call 7; refine (HALL.out _ _ _ _).mono ?_; rintro e w5 ⟨rfl, rfl⟩)
    refine (HZERO.out _ (HK4.out.alloc _)).mono ?_
    rintro e w5 ⟨B, rfl, hk5⟩
    have hkF : Keep none_ w w5 := (HK4.out.alloc _).trans hk5
    have hev : Blk w5 (C + 1) [.int .i64 v0, .int .i64 v1, .int .i64 v2, .int .i64 v3, .int .i64 v4, .int .i64 v5] 26 := hk5.blk (HE4.out.alloc _) (fun f => f)
    clear s0 s1 s2 s3 s4 s5 s6 x0 x1 x2 x3 x4 x5 hk5 HB HK4 HE4 HD4
    go_wp2_with (first
      | (go_at_call 8
         refine (HSA.out _ _).mono ?_
         rintro e w6 ⟨rfl, hk6⟩
         have hkF := hkF.trans hk6
         have hev := hk6.blk hev (fun f => f)
         have x0 := hev.cell 0 rfl
         have x1 := hev.cell 1 rfl
         have x2 := hev.cell 2 rfl
         have x3 := hev.cell 3 rfl
         have x4 := hev.cell 4 rfl
         have x5 := hev.cell 5 rfl
         clear hk6)
      | (go_at_call 9
         refine (HTK.out _).mono ?_
         rintro e w6 ⟨rfl, hk6⟩
         have hkF := hkF.trans hk6
         have hev := hk6.blk hev (fun f => f)
         clear hk6)
      | (go_at_call 10; refine (HAD.out _).mono ?_; rintro e w1 ⟨rfl, rfl⟩)
      | (go_at_call 11; refine (HCO.out _).mono ?_; rintro e w1 ⟨rfl, rfl⟩)
      | (go_at_call 12; refine (HGR.out _).mono ?_; rintro e w1 ⟨rfl, rfl⟩)
      | (go_at_call 13
         refine (HAW.out _ hkF).mono ?_
         rintro e w6 ⟨rfl, hk6⟩
         have hkF := hkF.trans hk6
         clear hk6))
    go_ret
    exact ⟨rfl, hkF⟩
  | false =>
    go_wp2_with fail
    refine (HNB.out W1 HK1.out (by first | rfl | trivial)).mono ?_
    rintro e V1 ⟨rfl, hk2⟩
    clear y0 y1 y2 y3 y4 y5 y6
    have HKV := Lib.hid (HK1.out.trans hk2)
    have HCV := Lib.hid (hk2.blk HC1.out (fun f => f))
    have HEV := Lib.hid (hk2.blk HE1.out (fun f => f))
    clear hk2 HK1 HC1 HE1 HNB
    have y0 := HCV.out.cell 0 rfl; have y1 := HCV.out.cell 1 rfl; have y2 := HCV.out.cell 2 rfl; have y3 := HCV.out.cell 3 rfl; have y4 := HCV.out.cell 4 rfl; have y5 := HCV.out.cell 5 rfl; have y6 := HCV.out.cell 6 rfl
    go_wp2_with fail
    refine (HLI.out V1).mono ?_
    rintro e V2 ⟨rfl, hk2⟩
    have HK2 := Lib.hid (HKV.out.trans hk2)
    have HE2 := Lib.hid (hk2.blk HEV.out (fun f => f))
    clear hk2 y0 y1 y2 y3 y4 y5 y6 HKV HCV HEV
    go_wp2_with fail
    obtain ⟨V3, hV3⟩ : ∃ W', W' = V2.alloc (.cells #[.int .i64 q0, .int .i64 q1, .int .i64 (m : Int), .int .i64 q3, .int .i64 q4, .int .i64 q5, .int .i64 q6] 23) := ⟨_, rfl⟩
    rw [← hV3]
    have HK3 : Hid (Keep none_ w V3) := by rw [hV3]; exact HK2.out.alloc _
    have HE3 : Hid (Blk V3 (C + 1) [.int .i64 v0, .int .i64 v1, .int .i64 v2, .int .i64 v3, .int .i64 v4, .int .i64 v5] 26) := by rw [hV3]; exact HE2.out.alloc _
    have HD3 : Hid (Blk V3 V2.heap.size [.int .i64 q0, .int .i64 q1, .int .i64 (m : Int), .int .i64 q3, .int .i64 q4, .int .i64 q5, .int .i64 q6] 23) := by rw [hV3]; exact Blk.new V2 _ _
    clear hV3 HK2 HE2
    generalize V2.heap.size = D at *
    have s0 := HD3.out.cell 0 rfl; have s1 := HD3.out.cell 1 rfl; have s2 := HD3.out.cell 2 rfl; have s3 := HD3.out.cell 3 rfl; have s4 := HD3.out.cell 4 rfl; have s5 := HD3.out.cell 5 rfl; have s6 := HD3.out.cell 6 rfl
    have HA : ∀ o, Keep none_ V3 (V3.drew.alloc o) := fun o => ((Keep.refl _ _).drew).alloc o
    have HA2 : Hid (∀ o, Keep none_ w (V3.drew.alloc o)) := fun o => HK3.out.drew.alloc o
    have hwr : IntKind.i64.wrap ((m : Int) + 1) = (m : Int) + 1 := IntWalk.i64_in _ (by omega)
    go_region_held3 (fun w' => w'.cell? ⟨D, 0, none⟩ = some (.int .i64 q0) ∧ w'.cell? ⟨D, 1, none⟩ = some (.int .i64 q1) ∧ w'.cell? ⟨D, 2, none⟩ = some (.int .i64 (m : Int)) ∧ w'.cell? ⟨D, 3, none⟩ = some (.int .i64 q3) ∧ w'.cell? ⟨D, 4, none⟩ = some (.int .i64 q4) ∧ w'.cell? ⟨D, 5, none⟩ = some (.int .i64 q5) ∧ w'.cell? ⟨D, 6, none⟩ = some (.int .i64 q6))
      (first
        | exact ⟨s0, s1, s2, s3, s4, s5, s6⟩
        | exact ⟨(HA _).still s0, (HA _).still s1, (HA _).still s2, (HA _).still s3, (HA _).still s4, (HA _).still s5, (HA _).still s6⟩
        | exact ⟨hk4.still s0, hk4.still s1, hk4.still s2, hk4.still s3, hk4.still s4, hk4.still s5, hk4.still s6⟩
        | fail "SFAIL")
      ((go_at_call 5
        refine (HMANY.out _ (HA2.out _) _).mono ?_
        rintro e w4 ⟨rfl, hk4⟩
        have hk4 := (HA _).trans hk4))
    have HK4 := Lib.hid (HK3.out.trans hk4)
    have HE4 := Lib.hid (hk4.blk HE3.out (fun f => f))
    have HD4 := Lib.hid (hk4.blk HD3.out (fun f => f))
    clear s0 s1 s2 s3 s4 s5 s6 HA HA2 hk4 HK3 HE3 HD3 hmk hwr
    have x0 := HE4.out.cell 0 rfl; have x1 := HE4.out.cell 1 rfl; have x2 := HE4.out.cell 2 rfl; have x3 := HE4.out.cell 3 rfl; have x4 := HE4.out.cell 4 rfl; have x5 := HE4.out.cell 5 rfl
    have HB : ∀ o, Keep none_ w4 (w4.alloc o) := fun o => (Keep.refl _ _).alloc o
    have s0 := fun o => (HB o).still (HD4.out.cell 0 rfl); have s1 := fun o => (HB o).still (HD4.out.cell 1 rfl); have s2 := fun o => (HB o).still (HD4.out.cell 2 rfl); have s3 := fun o => (HB o).still (HD4.out.cell 3 rfl); have s4 := fun o => (HB o).still (HD4.out.cell 4 rfl); have s5 := fun o => (HB o).still (HD4.out.cell 5 rfl); have s6 := fun o => (HB o).still (HD4.out.cell 6 rfl)
    go_wp2_with (go_at_call 7; refine (HALL.out _ _ _ _).mono ?_; rintro e w5 ⟨rfl, rfl⟩)
    refine (HZERO.out _ (HK4.out.alloc _)).mono ?_
    rintro e w5 ⟨B, rfl, hk5⟩
    have hkF : Keep none_ w w5 := (HK4.out.alloc _).trans hk5
    have hev : Blk w5 (C + 1) [.int .i64 v0, .int .i64 v1, .int .i64 v2, .int .i64 v3, .int .i64 v4, .int .i64 v5] 26 := hk5.blk (HE4.out.alloc _) (fun f => f)
    clear s0 s1 s2 s3 s4 s5 s6 x0 x1 x2 x3 x4 x5 hk5 HB HK4 HE4 HD4
    go_wp2_with (first
      | (go_at_call 8
         refine (HSA.out _ _).mono ?_
         rintro e w6 ⟨rfl, hk6⟩
         have hkF := hkF.trans hk6
         have hev := hk6.blk hev (fun f => f)
         have x0 := hev.cell 0 rfl
         have x1 := hev.cell 1 rfl
         have x2 := hev.cell 2 rfl
         have x3 := hev.cell 3 rfl
         have x4 := hev.cell 4 rfl
         have x5 := hev.cell 5 rfl
         clear hk6)
      | (go_at_call 9
         refine (HTK.out _).mono ?_
         rintro e w6 ⟨rfl, hk6⟩
         have hkF := hkF.trans hk6
         have hev := hk6.blk hev (fun f => f)
         clear hk6)
      | (go_at_call 10; refine (HAD.out _).mono ?_; rintro e w1 ⟨rfl, rfl⟩)
      | (go_at_call 11; refine (HCO.out _).mono ?_; rintro e w1 ⟨rfl, rfl⟩)
      | (go_at_call 12; refine (HGR.out _).mono ?_; rintro e w1 ⟨rfl, rfl⟩)
      | (go_at_call 13
         refine (HAW.out _ hkF).mono ?_
         rintro e w6 ⟨rfl, hk6⟩
         have hkF := hkF.trans hk6
         clear hk6))
    go_ret
    exact ⟨rfl, hkF⟩
end Go.Proofs.YtkjplkkjdlanhaaGreatDoor
