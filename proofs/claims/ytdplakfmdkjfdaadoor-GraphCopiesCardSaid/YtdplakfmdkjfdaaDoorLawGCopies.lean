/- The walk of GraphCopies. -/
import Derived.Test.YtdplakfmdkjfdaaDoorGAct
import Derived.Test.YtdplakfmdkjfdaaDoorGReach2
import Derived.Test.YtdplakfmdkjfdaaDoorStillMid
import Derived.Deep.QuietTactic
import Derived.BigQuiet
namespace Go.Proofs.YtdplakfmdkjfdaaDoor
open Go.RowKit Go.Sort

set_option maxRecDepth 4000 in
set_option maxHeartbeats 8000000 in
theorem graphCopies_any (z0 : List Value) (a1 : Option Addr) (n1 c1 : Nat) (z1 : List (List Value)) (a2 : Option Addr) (n2 c2 : Nat) (z2 : List (List Value)) (w : World) (h0 : FlatOk [.int .i64, .int .i64, .int .i64, .int .i64, .int .i64, .int .i64, .int .i64] z0)
    (h1 : Flats [.int .i64, .int .i64, .int .i64, .int .i64, .int .i64] w a1 n1 z1) (hm1 : n1 ≤ maxLen) (h2 : Flats [.int .i64, .int .i64, .int .i64, .int .i64, .int .i64] w a2 n2 z2) (hm2 : n2 ≤ maxLen) (hL : laidMetH Tryd.prog Rows.graphCopiesRow.laid w) :
    Calls Tryd.prog 6 #[.agg z0.toArray, .slice a1 n1 c1, .slice a2 n2 c2] w fun e w' => e = .returned (.bool true) ∧ Keep none_ w w' := by
  unfold maxLen at hm1 hm2
  have HT := Lib.hid (tabs_of hL)
  clear hL
  obtain ⟨c, rfl, -⟩ := conf_of h0
  obtain ⟨l, rfl, -⟩ := list_of (f := DeedR.cells) (P := fun _ => True) (fun r h => deed_of h) z1 h1.ok
  obtain ⟨l2, rfl, -⟩ := list_of (f := DeedR.cells) (P := fun _ => True) (fun r h => deed_of h) z2 h2.ok
  have HR := Lib.hid (RecAt.ofFlats h1)
  have HRM := Lib.hid (RecAt.ofFlats h2)
  clear h0 h1 h2
  obtain ⟨W0, hW0⟩ : ∃ W', W' = w.alloc (.cells c.cells.toArray 23) := ⟨_, rfl⟩
  have HK0 : Hid (Keep none_ w W0) := by rw [hW0]; exact (Keep.refl _ _).alloc _
  have HC0 : Hid (Blk W0 w.heap.size c.cells 23) := by rw [hW0]; exact Blk.new w _ _
  go_enter Tryd.func6, Tryd.ntmps6
  simp only [Conf.cells] at hW0
  simp only [Conf.cells]
  go_wp2_with fail
  rw [← hW0]
  obtain ⟨C, hC⟩ : ∃ C, C = w.heap.size := ⟨_, rfl⟩
  rw [← hC]
  have HCC := Lib.hid hC
  rw [← hC] at HC0
  clear hW0 hC
  refine (little_any c W0).mono ?_
  rintro e W1 ⟨rfl, hk1⟩
  have HK1 := Lib.hid (HK0.out.trans hk1)
  have HC1 := Lib.hid (hk1.blk HC0.out (fun f => f))
  clear hk1 HK0 HC0
  have z0 := HC1.out.free 0; have z1 := HC1.out.free 1; have z2 := HC1.out.free 2; have z3 := HC1.out.free 3; have z4 := HC1.out.free 4; have z5 := HC1.out.free 5; have z6 := HC1.out.free 6
  have y0 := HC1.out.cell 0 rfl; have y1 := HC1.out.cell 1 rfl; have y2 := HC1.out.cell 2 rfl; have y3 := HC1.out.cell 3 rfl; have y4 := HC1.out.cell 4 rfl; have y5 := HC1.out.cell 5 rfl; have y6 := HC1.out.cell 6 rfl
  obtain ⟨q, hq⟩ : ∃ q, q = c.little := ⟨_, rfl⟩
  rw [← hq]
  have HOK : Hid (q.ok = true) := by rw [hq]; exact little_ok c
  have HNUM := Lib.hid (little_nums c)
  rw [← hq] at HNUM
  clear hq
  obtain ⟨q0, q1, q2, q3, q4, q5, q6⟩ := q
  simp only [Conf.cells]
  obtain ⟨W2, hW2, hC2, hk2⟩ := conf_put HC1.out q0 q1 q2 q3 q4 q5 q6
  have HC2 := Lib.hid hC2
  have HK2 : Hid (Keep none_ w W2) := HK1.out.onNew hk2 (by rw [HCC.out]; exact Nat.le_refl _)
  have early : Hid (∀ W3, Keep none_ w W3 → True) := fun _ _ => trivial
  clear early
  by_cases hbig : 60 < n1
  · go_wp2_with fail
    rw [← hW2]
    refine (awake18_any W2 (HT.out.keep HK2.out)).mono ?_
    rintro e W3 ⟨rfl, hk3⟩
    clear hW2 hC2 hk2 y0 y1 y2 y3 y4 y5 y6 z0 z1 z2 z3 z4 z5 z6
    have HK3 := Lib.hid (HK2.out.trans hk3)
    clear hk3
    go_wp2_with fail
    go_ret
    exact ⟨rfl, HK3.out⟩
  have d60 : decide (60 < (n1 : Int)) = false := decide_eq_false (by omega)
  by_cases hbig2 : 30 < n2
  · have d30 : decide (30 < (n2 : Int)) = true := decide_eq_true (by omega)
    go_wp2_with fail
    rw [← hW2]
    refine (awake18_any W2 (HT.out.keep HK2.out)).mono ?_
    rintro e W3 ⟨rfl, hk3⟩
    clear hW2 hC2 hk2 y0 y1 y2 y3 y4 y5 y6 z0 z1 z2 z3 z4 z5 z6
    have HK3 := Lib.hid (HK2.out.trans hk3)
    clear hk3
    go_wp2_with fail
    go_ret
    exact ⟨rfl, HK3.out⟩
  have d30 : decide (30 < (n2 : Int)) = false := decide_eq_false (by omega)
  go_wp2_with fail
  rw [← hW2]
  refine (awake18_any W2 (HT.out.keep HK2.out)).mono ?_
  rintro e W3 ⟨rfl, hk3⟩
  clear hW2 hC2 hk2 y0 y1 y2 y3 y4 y5 y6 z0 z1 z2 z3 z4 z5 z6
  have HK3 := Lib.hid (HK2.out.trans hk3)
  have HC3 := Lib.hid (hk3.blk HC2.out (fun f => f))
  clear hk3 HK2 HC2 HK1 HC1
  have y0 := HC3.out.cell 0 rfl; have y1 := HC3.out.cell 1 rfl; have y2 := HC3.out.cell 2 rfl; have y3 := HC3.out.cell 3 rfl; have y4 := HC3.out.cell 4 rfl; have y5 := HC3.out.cell 5 rfl; have y6 := HC3.out.cell 6 rfl
  go_wp2_with fail
  obtain ⟨m, r, n, hm, hr, hn, m1, m4, r1, r5, n3⟩ := HNUM.out
  refine (gnew_any ⟨q0, q1, q2, q3, q4, q5, q6⟩ W3 (HT.out.keep HK3.out) HOK.out m r n hm hr hn).mono ?_
  rintro e W4 ⟨B, rfl, hg, hk4⟩
  obtain rfl : q2 = (m : Int) := hm
  obtain rfl : q3 = (r : Int) := hr
  obtain rfl : q4 = (n : Int) := hn
  have HG4 : Hid (Ran W3 B ⟨q0, q1, m, r, n, q5, q6⟩ m 0 W4) := ⟨⟨_, hg, by simp [rows0]⟩, hk4⟩
  have HTT := Lib.hid (HT.out.keep HK3.out)
  have HRR := Lib.hid (HR.out.below HK3.out)
  have HRM3 := Lib.hid (HRM.out.below HK3.out)
  clear hg hk4 HT HR HRM HNUM y0 y1 y2 y3 y4 y5 y6 HC3
  go_wp2_with fail
  go_loopg [9] n1 (fun g i wr => ∃ k : Nat, g + k = n1 ∧ i = .int .i64 k ∧ Hid (Ran W3 B ⟨q0, q1, m, r, n, q5, q6⟩ m k wr))
  case atStart => exact ⟨0, by omega, rfl, HG4⟩
  case round =>
    obtain ⟨k, hg, rfl, HG⟩ := hrel
    by_cases hlt : k < n1
    · obtain ⟨b, off, rfl, d', hd, g0, g1, g2, g3, g4⟩ := deedCells (HRR.out.below HG.out.2) k hlt
      clear hd
      obtain ⟨mi, ⟨ok, oa, ob, oc⟩⟩ := d'
      simp only at g0 g1 g2 g3 g4
      have hltI : (k : Int) < (n1 : Int) := by omega
      have hk0 : (0 : Int) ≤ (k : Int) := by omega
      go_wp2_with fail
      refine wp_region_still_tail 11 (by kernel_rfl) (by kernel_rfl) ?_
      change wpStill _ _ (World.drew _) _ _ _
      simp only [List.take_succ_cons, List.take_zero, List.drop_succ_cons, List.drop_zero]
      repeat still_step
      refine wpStill_nil ?_
      change wpList _ _ _ _ _ wr.drew
      go_wp2_with fail
      refine (HG.out.do_ (by omega) HTT.out mi ⟨ok, oa, ob, oc⟩).mono ?_
      rintro e w5 ⟨v1, v2, rfl, h5⟩
      have HG5 := Lib.hid h5
      clear h5
      go_wp2_with fail
      go_roundg (gk - 1)
      case measure => omega
      case rel => exact ⟨k + 1, by omega, by go_num, HG5⟩
    · obtain rfl : k = n1 := by omega
      clear hg
      obtain ⟨V, rfl⟩ : ∃ V : World, V = wr := ⟨_, rfl⟩
      obtain ⟨⟨R, hG, hRl⟩, hk⟩ := HG.out
      have HK := Lib.hid hk
      have HS := Lib.hid hG
      have HRl : Hid (R.length ≤ m + 1 + 60) := by unfold Hid; omega
      have HGOOD := Lib.hid hG.good
      clear hG hk HG hRl
      go_wp2_with fail
      refine (gcopy_any HS.out (by omega) (by have := HRl.out; omega)).mono ?_
      rintro e w5 ⟨B2, rfl, h5, hk5⟩
      have HS5 := Lib.hid h5
      have HK5 := Lib.hid hk5
      clear h5 hk5
      go_wp2_with fail
      refine (greach_any (HS.out.still HK5.out) (by omega) (by have := HRl.out; omega)).mono ?_
      rintro e w6 ⟨aw, cw, L, rfl, hc6, hL6, hab6, hk6⟩
      have HK6 := Lib.hid hk6
      have HL6 := Lib.hid hL6
      have HC6 := Lib.hid hc6
      have HAB := Lib.hid hab6
      have HCT := Lib.hid ((gcount_any (HS.out.still (HK5.out.trans hk6))).mono (fun _ _ h => And.intro h.1 h.2.symm))
      have HB2 : Hid (GSt (fun i => (V.heap.size ≤ i ∧ i < w5.heap.size) ∨ w6.heap.size ≤ i) B2 ⟨q0, q1, m, r, n, q5, q6⟩ m R w6) := (HS5.out.there.still hk6).mono (fun i hi => .inl hi)
      have HTW := Lib.hid (HTT.out.keep (HK.out.trans (HK5.out.trans hk6)))
      have HRW := Lib.hid (HRM3.out.below (HK.out.trans (HK5.out.trans hk6)))
      have HSZ : Hid (W3.heap.size ≤ V.heap.size ∧ V.heap.size ≤ w5.heap.size ∧ w5.heap.size ≤ w6.heap.size) := ⟨HK.out.size, HK5.out.size, hk6.size⟩
      clear hk6 hL6 hc6 hab6
      obtain ⟨N, hN⟩ : ∃ N, N = L.length := ⟨_, rfl⟩
      rw [← hN] at HC6
      simp only [← hN]
      have HN := Lib.hid hN
      clear hN
      go_wp2_with (go_at_call 21; refine HCT.out.mono ?_; rintro e w9 ⟨rfl, rfl⟩)
      have hcn : cntP m R ≤ 1000 := by have := HRl.out; unfold cntP; omega
      obtain ⟨cn, hcne⟩ : ∃ cn, cn = cntP m R := ⟨_, rfl⟩
      rw [← hcne] at hcn
      simp only [← hcne]
      have HCNE := Lib.hid hcne
      clear hcne HCT
      go_loopg [13] n2 (fun g i wr => ∃ k : Nat, g + k = n2 ∧ i = .int .i64 k ∧ Hid (∃ Rh, GSt (fun i => (V.heap.size ≤ i ∧ i < w5.heap.size) ∨ w6.heap.size ≤ i) B2 ⟨q0, q1, m, r, n, q5, q6⟩ m Rh wr ∧ Rh.length ≤ m + 1 + 60 + k) ∧ Hid (Keep (fun i => V.heap.size ≤ i ∧ i < w5.heap.size) w6 wr))
      case atStart => exact ⟨0, by omega, rfl, ⟨R, HB2.out, HRl.out⟩, Keep.refl _ _⟩
      case round =>
        clear HB2
        obtain ⟨k2, hg2, rfl, HI, HKI⟩ := hrel
        obtain ⟨v0, rfl⟩ : ∃ v0 : World, v0 = wr := ⟨_, rfl⟩
        by_cases hlt2 : k2 < n2
        · obtain ⟨Rh, hG, hRhl⟩ := HI.out
          have HGH := Lib.hid hG
          have HGH2 := Lib.hid hG.there
          have HRHl : Hid (Rh.length ≤ m + 1 + 60 + k2) := hRhl
          have hkw : Keep none_ W3 v0 := ((HK.out.trans HK5.out).trans HK6.out).trans' HKI.out (fun i hi h => by have := HSZ.out; omega)
          have HKW := Lib.hid hkw
          clear hG hRhl HI hkw
          go_wp2_with fail
          refine (greach_any HGH.out (by omega) (by have := HRHl.out; omega)).mono ?_
          rintro e w7 ⟨ab, cb, Lb, rfl, hc7, hL7, hab7, hk7⟩
          have HK7 := Lib.hid hk7
          have HL7 := Lib.hid hL7
          have HC7 := Lib.hid hc7
          have HAB7 := Lib.hid hab7
          have HCT7 := Lib.hid ((gcount_any (HGH.out.still hk7)).mono (fun _ _ h => And.intro h.1 h.2.symm))
          clear hk7 hL7 hc7 hab7
          go_wp2_with (go_at_call 21; refine HCT7.out.mono ?_; rintro e w9 ⟨rfl, rfl⟩)
          obtain ⟨b, off, rfl, d', hd, g0, g1, g2, g3, g4⟩ := deedCells (HRM3.out.below (HKW.out.trans HK7.out)) k2 hlt2
          clear hd HCT7
          obtain ⟨mi, ⟨ok, oa, ob, oc⟩⟩ := d'
          simp only at g0 g1 g2 g3 g4
          have hltI : (k2 : Int) < (n2 : Int) := by omega
          have hk0 : (0 : Int) ≤ (k2 : Int) := by omega
          refine wp_region_still_mid 11 rfl (by kernel_rfl) (by kernel_rfl) (fun K hK => ?_)
          change wpStill _ _ (World.drew _) _ _ _
          simp only [List.take_succ_cons, List.take_zero, List.drop_succ_cons, List.drop_zero] at hK ⊢
          repeat still_step
          refine wpStill_nil ?_
          change ite _ (Oper.wp _ _ _ w7.drew _ _) _
          go_simp
          have h3 : GSt (fun i => (((V.heap.size ≤ i ∧ i < w5.heap.size) ∨ w6.heap.size ≤ i) ∧ i < v0.heap.size) ∨ w7.heap.size ≤ i) B2 ⟨q0, q1, m, r, n, q5, q6⟩ m Rh w7.drew := (HGH2.out.still HK7.out.drew).mono (fun i hi => .inl hi)
          refine (gdo_any h3 (fun i hi => .inr hi) (by have := HRHl.out; omega) mi ⟨ok, oa, ob, oc⟩ (HTT.out.keep (HKW.out.trans HK7.out.drew))).mono ?_
          rintro e w8 ⟨rfl, hg8, hk8⟩
          refine hK _ _ ?_
          clear hK K h3 g0 g1 g2 g3 g4
          have HGE := Lib.hid (do_error HGH.out.good mi ⟨ok, oa, ob, oc⟩)
          have HDL := Lib.hid (HGH.out.good.do_ mi ⟨ok, oa, ob, oc⟩).2
          have hk8' := (Keep.refl none_ w7).drew |> fun h => (Keep.mono (T := fun i => (((V.heap.size ≤ i ∧ i < w5.heap.size) ∨ w6.heap.size ≤ i) ∧ i < v0.heap.size) ∨ w7.heap.size ≤ i) h (fun _ _ f => f.elim)).trans hk8
          have HC8 : Hid (IntCells .i64 w8 ab Lb.length Lb) := HC7.out.keepS hk8' (fun b off e hb => by have := HAB7.out b off e; omega)
          have HG8 : Hid (GSt (fun i => (V.heap.size ≤ i ∧ i < w5.heap.size) ∨ w6.heap.size ≤ i) B2 ⟨q0, q1, m, r, n, q5, q6⟩ m (gDoP ⟨q0, q1, m, r, n, q5, q6⟩ m Rh mi ⟨ok, oa, ob, oc⟩).1 w8) := hg8.mono (fun i hi => by
            have h1 := HKI.out.size
            have h2 := HK7.out.size
            rcases hi with ⟨h, _⟩ | h
            · exact h
            · exact .inr (by omega))
          have HK8 : Hid (Keep (fun i => V.heap.size ≤ i ∧ i < w5.heap.size) w6 w8) := (HKI.out.trans (Keep.mono HK7.out (fun _ _ f => f.elim))).trans' hk8' (fun i hi h => by
            have h1 := HKI.out.size
            have h2 := HK7.out.size
            rcases h with ⟨h | h, _⟩ | h
            · exact h
            · omega
            · omega)
          clear hg8 hk8 hk8'
          generalize gDoP ⟨q0, q1, m, r, n, q5, q6⟩ m Rh mi ⟨ok, oa, ob, oc⟩ = pr at *
          obtain ⟨R', v, f⟩ := pr
          repeat still_step
          refine wpStill_nil ?_
          by_cases hf : f = 0
          · subst hf
            go_wp2_with fail
            go_roundg (gk - 1)
            case measure => omega
            case rel => exact ⟨k2 + 1, by omega, by go_num, ⟨R', HG8.out, by have h1 : R'.length ≤ Rh.length + 1 := HDL.out; have := HRHl.out; omega⟩, HK8⟩
          · obtain ⟨e1, e2⟩ := HGE.out hf
            simp only at e1 e2
            subst e1 e2
            have hf1 : (f == 0) = false := by simpa using hf
            go_wp2_with fail
            refine (greach_any HG8.out (by omega) (by have := HRHl.out; omega)).mono ?_
            rintro e w9 ⟨a9, c9, L9, rfl, hc9, hL9, hab9, hk9⟩
            obtain rfl := hL9.eq HL7.out
            have hll : L9.length ≤ 1001 := hL9.len
            have HSM := Lib.hid (same_any a9 ab _ _ c9 cb _ _ w9 hc9 (HC8.out.below hk9) (by omega) (by omega))
            have HK9 := Lib.hid hk9
            clear hc9 hL9 hab9 hk9
            go_wp2_with fail
            refine HSM.out.mono ?_
            rintro e w10 ⟨rfl, hk10⟩
            have HK10 := Lib.hid (HK9.out.trans hk10)
            have HCT10 := Lib.hid ((gcount_any (HG8.out.still HK10.out)).mono (fun _ _ h => And.intro h.1 h.2.symm))
            clear hk10
            go_wp2_with (go_at_call 21; refine HCT10.out.mono ?_; rintro e w11 ⟨rfl, rfl⟩)
            go_roundg (gk - 1)
            case measure => omega
            case rel => exact ⟨k2 + 1, by omega, by go_num, ⟨_, HG8.out.still HK10.out, by have := HRHl.out; omega⟩, HK8.out.trans (Keep.mono HK10.out (fun _ _ f => f.elim))⟩
        · obtain rfl : n2 = k2 := by omega
          have HGV : Hid (GSt (fun i => W3.heap.size ≤ i ∧ i < V.heap.size) B ⟨q0, q1, m, r, n, q5, q6⟩ m R v0) := (HS.out.there.still (HK5.out.trans HK6.out)).keep HKI.out (fun i hi h => by omega)
          have HCV : Hid (IntCells .i64 v0 aw N L) := HC6.out.keepS HKI.out (fun b off e hb h => by have := HAB.out b off e; omega)
          have HKV : Hid (Keep none_ W3 v0) := ((HK.out.trans HK5.out).trans HK6.out).trans' HKI.out (fun i hi h => by have := HSZ.out; omega)
          go_wp2_with fail
          refine (greach_any HGV.out (by omega) (by have := HRl.out; omega)).mono ?_
          rintro e w7 ⟨a7, c7, L7, rfl, hc7, hL7, hab7, hk7⟩
          obtain rfl := hL7.eq HL6.out
          have hll : L7.length ≤ 1001 := hL7.len
          have HSM := Lib.hid (same_any a7 aw _ N c7 cw _ _ w7 hc7 (HCV.out.below hk7) (by omega) (by rw [HN.out]; omega))
          have HK7 := Lib.hid hk7
          clear hc7 hL7 hab7 hk7
          go_wp2_with fail
          refine HSM.out.mono ?_
          rintro e w10 ⟨rfl, hk10⟩
          have HK10 := Lib.hid (HK7.out.trans hk10)
          have HCT10 := Lib.hid ((gcount_any (HGV.out.still HK10.out)).mono (fun _ _ h => And.intro h.1 h.2.symm))
          rw [← HCNE.out] at HCT10
          clear hk10
          go_wp2_with (go_at_call 21; refine HCT10.out.mono ?_; rintro e w11 ⟨rfl, rfl⟩)
          go_ret
          exact ⟨rfl, HK3.out.trans (HKV.out.trans HK10.out)⟩
end Go.Proofs.YtdplakfmdkjfdaaDoor
