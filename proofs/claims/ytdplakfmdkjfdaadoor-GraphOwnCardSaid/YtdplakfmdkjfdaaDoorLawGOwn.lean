/- The walk of GraphOwn. -/
import Derived.Test.YtdplakfmdkjfdaaDoorGAct
import Derived.Test.YtdplakfmdkjfdaaDoorGPlain3
import Derived.Test.YtdplakfmdkjfdaaDoorStillMid
import Derived.Deep.QuietTactic
import Derived.BigQuiet
namespace Go.Proofs.YtdplakfmdkjfdaaDoor
open Go.RowKit Go.Sort

set_option maxRecDepth 4000 in
set_option maxHeartbeats 8000000 in
theorem graphOwn_any (z0 : List Value) (a1 : Option Addr) (n1 c1 : Nat) (z1 : List (List Value)) (w : World) (h0 : FlatOk [.int .i64, .int .i64, .int .i64, .int .i64, .int .i64, .int .i64, .int .i64] z0)
    (h1 : Flats [.int .i64, .int .i64, .int .i64, .int .i64, .int .i64] w a1 n1 z1) (hm1 : n1 ≤ maxLen) (hL : laidMetH Tryd.prog Rows.graphOwnRow.laid w) :
    Calls Tryd.prog 3 #[.agg z0.toArray, .slice a1 n1 c1] w fun e w' => e = .returned (.bool true) ∧ Keep none_ w w' := by
  unfold maxLen at hm1
  have HT := Lib.hid (tabs_of hL)
  clear hL
  obtain ⟨c, rfl, -⟩ := conf_of h0
  obtain ⟨l, rfl, -⟩ := list_of (f := DeedR.cells) (P := fun _ => True) (fun r h => deed_of h) z1 h1.ok
  have HR := Lib.hid (RecAt.ofFlats h1)
  clear h0 h1
  obtain ⟨W0, hW0⟩ : ∃ W', W' = w.alloc (.cells c.cells.toArray 23) := ⟨_, rfl⟩
  have HK0 : Hid (Keep none_ w W0) := by rw [hW0]; exact (Keep.refl _ _).alloc _
  have HC0 : Hid (Blk W0 w.heap.size c.cells 23) := by rw [hW0]; exact Blk.new w _ _
  go_enter Tryd.func3, Tryd.ntmps3
  simp only [Conf.cells] at hW0
  simp only [Conf.cells]
  go_wp2_with fail
  rw [← hW0]
  obtain ⟨C, hC⟩ : ∃ C, C = w.heap.size := ⟨_, rfl⟩
  rw [← hC]
  have HCC := Lib.hid hC
  rw [← hC] at HC0
  clear hW0 hC
  refine (little_any c W0).mono ?_
  rintro e W1 ⟨rfl, hk1⟩
  have HK1 := Lib.hid (HK0.out.trans hk1)
  have HC1 := Lib.hid (hk1.blk HC0.out (fun f => f))
  clear hk1 HK0 HC0
  have z0 := HC1.out.free 0; have z1 := HC1.out.free 1; have z2 := HC1.out.free 2; have z3 := HC1.out.free 3; have z4 := HC1.out.free 4; have z5 := HC1.out.free 5; have z6 := HC1.out.free 6
  have y0 := HC1.out.cell 0 rfl; have y1 := HC1.out.cell 1 rfl; have y2 := HC1.out.cell 2 rfl; have y3 := HC1.out.cell 3 rfl; have y4 := HC1.out.cell 4 rfl; have y5 := HC1.out.cell 5 rfl; have y6 := HC1.out.cell 6 rfl
  obtain ⟨q, hq⟩ : ∃ q, q = c.little := ⟨_, rfl⟩
  rw [← hq]
  have HOK : Hid (q.ok = true) := by rw [hq]; exact little_ok c
  have HNUM := Lib.hid (little_nums c)
  rw [← hq] at HNUM
  clear hq
  obtain ⟨q0, q1, q2, q3, q4, q5, q6⟩ := q
  simp only [Conf.cells]
  obtain ⟨W2, hW2, hC2, hk2⟩ := conf_put HC1.out q0 q1 q2 q3 q4 q5 q6
  have HC2 := Lib.hid hC2
  have HK2 : Hid (Keep none_ w W2) := HK1.out.onNew hk2 (by rw [HCC.out]; exact Nat.le_refl _)
  by_cases hbig : 80 < n1
  · go_wp2_with fail
    rw [← hW2]
    refine (awake18_any W2 (HT.out.keep HK2.out)).mono ?_
    rintro e W3 ⟨rfl, hk3⟩
    clear hW2 hC2 hk2 y0 y1 y2 y3 y4 y5 y6 z0 z1 z2 z3 z4 z5 z6
    have HK3 := Lib.hid (HK2.out.trans hk3)
    clear hk3
    go_wp2_with fail
    go_ret
    exact ⟨rfl, HK3.out⟩
  have d80 : decide (80 < (n1 : Int)) = false := decide_eq_false (by omega)
  go_wp2_with fail
  rw [← hW2]
  refine (awake18_any W2 (HT.out.keep HK2.out)).mono ?_
  rintro e W3 ⟨rfl, hk3⟩
  clear hW2 hC2 hk2 y0 y1 y2 y3 y4 y5 y6 z0 z1 z2 z3 z4 z5 z6
  have HK3 := Lib.hid (HK2.out.trans hk3)
  have HC3 := Lib.hid (hk3.blk HC2.out (fun f => f))
  clear hk3 HK2 HC2 HK1 HC1
  have y0 := HC3.out.cell 0 rfl; have y1 := HC3.out.cell 1 rfl; have y2 := HC3.out.cell 2 rfl; have y3 := HC3.out.cell 3 rfl; have y4 := HC3.out.cell 4 rfl; have y5 := HC3.out.cell 5 rfl; have y6 := HC3.out.cell 6 rfl
  go_wp2_with fail
  obtain ⟨m, r, n, hm, hr, hn, m1, m4, r1, r5, n3⟩ := HNUM.out
  refine (gnew_any ⟨q0, q1, q2, q3, q4, q5, q6⟩ W3 (HT.out.keep HK3.out) HOK.out m r n hm hr hn).mono ?_
  rintro e W4 ⟨B, rfl, hg, hk4⟩
  obtain rfl : q2 = (m : Int) := hm
  obtain rfl : q3 = (r : Int) := hr
  obtain rfl : q4 = (n : Int) := hn
  have HG4 : Hid (∃ R, GSt (fun k => W3.heap.size ≤ k) B ⟨q0, q1, m, r, n, q5, q6⟩ m R W4 ∧ R.length ≤ m + 1 + 0 ∧ cntP m R = 0) := ⟨_, hg, by simp [rows0], by simp [cntP, rows0]⟩
  have HK4 := Lib.hid hk4
  have HTT := Lib.hid (HT.out.keep HK3.out)
  have HRR := Lib.hid (HR.out.below HK3.out)
  clear hg hk4 HT HR HNUM y0 y1 y2 y3 y4 y5 y6
  go_wp2_with fail
  go_loopg [7, 8] n1 (fun g ct i wr => ∃ k q : Nat, g + k = n1 ∧ i = .int .i64 k ∧ ct = .int .i64 q ∧ q ≤ k ∧ Hid (∃ R, GSt (fun k => W3.heap.size ≤ k) B ⟨q0, q1, m, r, n, q5, q6⟩ m R wr ∧ R.length ≤ m + 1 + k ∧ cntP m R = q) ∧ Hid (Keep none_ W3 wr))
  case atStart => exact ⟨0, 0, by omega, rfl, rfl, Nat.le_refl _, HG4, HK4⟩
  case round =>
    clear HG4 HK4
    obtain ⟨k, cq, hg, rfl, rfl, hcq, HG, HK⟩ := hrel
    by_cases hlt : k < n1
    · obtain ⟨g1, rfl⟩ : ∃ g1 : Nat, g1 = gk := ⟨_, rfl⟩
      obtain ⟨R, hG, hRl, hRc⟩ := HG.out
      have HS := Lib.hid hG
      have HRl : Hid (R.length ≤ m + 1 + k) := hRl
      have HRc := Lib.hid hRc
      have HGOOD := Lib.hid hG.good
      clear hG hRl hRc HG
      have hltI : (k : Int) < (n1 : Int) := by omega
      have hk0 : (0 : Int) ≤ (k : Int) := by omega
      go_wp2_with fail
      refine (gcopy_any HS.out (by omega) (by have := HRl.out; omega)).mono ?_
      rintro e w5 ⟨B2, rfl, h5, hk5⟩
      have HS5 := Lib.hid h5
      have HK5 := Lib.hid hk5
      clear h5 hk5
      obtain ⟨b, off, rfl, d', hd, g0, g1', g2, g3, g4⟩ := deedCells HRR.out k hlt
      clear hd
      obtain ⟨mi, ⟨ok, oa, ob, oc⟩⟩ := d'
      simp only at g0 g1' g2 g3 g4
      have HGW := Lib.hid (And.intro g0 (And.intro g1' (And.intro g2 (And.intro g3 g4))))
      have hk9 := HK.out.trans HK5.out
      replace g0 := hk9.still g0
      replace g1' := hk9.still g1'
      replace g2 := hk9.still g2
      replace g3 := hk9.still g3
      replace g4 := hk9.still g4
      clear hk9
      have hD := twin_do HS.out HK.out.size HK5.out HS5.out ((Keep.refl _ _).drew) (by have := HRl.out; omega) mi ⟨ok, oa, ob, oc⟩ (HTT.out.keep (HK.out.trans HK5.out))
      have HLEN := Lib.hid (HGOOD.out.do_ mi ⟨ok, oa, ob, oc⟩).2
      have HOTH := Lib.hid (deed_other HGOOD.out mi ⟨ok, oa, ob, oc⟩)
      have HCNT := Lib.hid (deed_count HGOOD.out mi ⟨ok, oa, ob, oc⟩)
      have HSTO := Lib.hid (deed_store HGOOD.out mi ⟨ok, oa, ob, oc⟩)
      have HTEL := Lib.hid (deed_tell HGOOD.out mi ⟨ok, oa, ob, oc⟩)
      generalize gDoP ⟨q0, q1, m, r, n, q5, q6⟩ m R mi ⟨ok, oa, ob, oc⟩ = pr at *
      obtain ⟨R', v, f⟩ := pr
      simp only [OpR.cells] at hD
      simp only at HLEN HOTH HCNT HSTO HTEL
      have HD := Lib.hid hD
      clear hD
      go_wp2_with fail
      refine wp_region_still_mid 11 rfl (by kernel_rfl) (by kernel_rfl) (fun K hK => ?_)
      change wpStill _ _ (World.drew _) _ _ _
      simp only [List.take_succ_cons, List.take_zero, List.drop_succ_cons, List.drop_zero] at hK ⊢
      repeat still_step
      refine wpStill_nil ?_
      change ite _ (Oper.wp _ _ _ w5.drew _ _) _
      go_simp
      refine HD.out.mono ?_
      rintro e w6 ⟨rfl, hg6, hs6, hk6⟩
      refine hK _ _ ?_
      clear hK K
      have HG6 := Lib.hid hg6
      have HS6 := Lib.hid hs6
      have HK6 : Hid (Keep none_ W3 w6) := (HK.out.trans HK5.out).trans' hk6 (fun i hi h => by omega)
      clear hg6 hs6 hk6 g0 g1' g2 g3 g4
      repeat still_step
      refine wpStill_nil ?_
      go_wp2_with fail
      have HRG : Hid (∀ p (k2 : Nat) r, k2 < m → (k2 : Int) ≠ mi → p = B ∨ p = B2 → Calls Tryd.prog 19 #[.pointer (some ⟨p, 0, none⟩), .int .i64 (k2 : Int), .int .i64 r] w6 fun e w' => e = .returned (.int .i64 (regP m R k2 r)) ∧ w6 = w') := by
        rintro p k2 r h1 h2 (rfl | rfl)
        · refine (greg_any HG6.out k2 r).mono (fun _ _ h => ⟨?_, h.2.symm⟩)
          rw [h.1, HOTH.out k2 h1 h2 r]
        · exact (greg_any HS6.out k2 r).mono (fun _ _ h => ⟨h.1, h.2.symm⟩)
      have HCB := Lib.hid ((HK6.out).blk HC3.out (fun f => f))
      have HG0 := Lib.hid (And.intro (HK6.out.still HGW.out.1) (And.intro (HK6.out.still HGW.out.2.1) (And.intro (HK6.out.still HGW.out.2.2.1) (And.intro (HK6.out.still HGW.out.2.2.2.1) (HK6.out.still HGW.out.2.2.2.2)))))
      have y2 := HCB.out.cell 2 rfl
      have y3 := HCB.out.cell 3 rfl
      have g0 := HG0.out.1
      go_loopg [12] m (fun g i wr => ∃ k : Nat, g + k = m ∧ i = .int .i64 k ∧ w6 = wr)
      case atStart => exact ⟨0, by omega, rfl, rfl⟩
      case round =>
        obtain ⟨k2, hg2, rfl, rfl⟩ := hrel
        by_cases hlt2 : k2 < m
        · obtain ⟨g2, rfl⟩ : ∃ g2 : Nat, g2 = gk := ⟨_, rfl⟩
          go_wp2_with fail
          go_loopg [13] r (fun g i w' => ∃ k : Nat, g + k = r ∧ i = .int .i64 k ∧ w6 = w')
          case atStart => exact ⟨0, by omega, rfl, rfl⟩
          case round =>
            obtain ⟨k3, hg3, rfl, rfl⟩ := hrel
            by_cases hlt3 : k3 < r
            · have hlt3I : (k3 : Int) < (r : Int) := by omega
              by_cases hmi : (k2 : Int) = mi
              · subst hmi
                go_wp2_with fail
                go_roundg (gk - 1)
                case measure => omega
                case rel => exact ⟨k3 + 1, by omega, by go_num, rfl⟩
              · have hm1 : ((k2 : Int) == mi) = false := by simpa using hmi
                have hm2 : ((k2 : Int) != mi) = true := by simpa using hmi
                go_wp2_with (go_at_call 19; refine (HRG.out _ _ _ (by assumption) (by assumption) (by first | exact .inl rfl | exact .inr rfl)).mono ?_; rintro e w1 ⟨rfl, rfl⟩)
                go_roundg (gk - 1)
                case measure => omega
                case rel => exact ⟨k3 + 1, by omega, by go_num, rfl⟩
            · obtain rfl : k3 = r := by omega
              go_wp2_with fail
              go_roundg (g2 - 1)
              case measure => omega
              case rel => exact ⟨k2 + 1, by omega, by go_num, rfl⟩
        · obtain rfl : m = k2 := by omega
          have g1' := HG0.out.2.1
          have g2' := HG0.out.2.2.1
          have g3 := HG0.out.2.2.2.1
          have g4 := HG0.out.2.2.2.2
          have HNX : Hid (∀ (q' : Nat) W, cntP m R' = q' → Keep none_ w6 W → (Hid (∃ R, GSt (fun k => W3.heap.size ≤ k) B ⟨q0, q1, m, r, n, q5, q6⟩ m R W ∧ R.length ≤ m + 1 + (k + 1) ∧ cntP m R = q')) ∧ Hid (Keep none_ W3 W)) :=
            fun q' W h1 h2 => ⟨⟨R', HG6.out.still h2, by have := HLEN.out; have := HRl.out; omega, h1⟩, HK6.out.trans h2⟩
          have HREG : Hid (∀ W, Keep none_ w6 W → ∀ x, Calls Tryd.prog 19 #[.pointer (some ⟨B, 0, none⟩), .int .i64 mi, .int .i64 x] W fun e w' => e = .returned (.int .i64 (regP m R' mi x)) ∧ w' = W) :=
            fun W h x => greg_any (HG6.out.still h) mi x
          have HFLD : Hid (∀ W, Keep none_ w6 W → ∀ id, Calls Tryd.prog 20 #[.pointer (some ⟨B, 0, none⟩), .int .i64 id] W fun e w' => ∃ a cap, e = .returned (.slice a (fldP m R' id).length cap) ∧ IntCells .i64 w' a (fldP m R' id).length (fldP m R' id) ∧ Keep none_ W w') :=
            fun W h id => gfields_any (HG6.out.still h) (by have := HLEN.out; have := HRl.out; omega) id
          have HK7 : ∀ o, Hid (Keep none_ w6 (w6.alloc o)) := fun o => (Keep.refl _ _).alloc o
          have HFL := Lib.hid (fld_len HG6.out.good)
          rcases HCNT.out with ⟨hf, hk1, hcn, hv⟩ | ⟨hno, hcn⟩
          · subst hf hk1 hv
            rw [HRc.out] at hcn
            have hcv : (cntP m R : Int) = (cq : Int) := by rw [HRc.out]
            rw [hcv]
            have HCN := Lib.hid hcn
            clear hcn hcv
            go_wp2_with fail
            go_quiet (fail)
            go_wp2_with fail
            go_roundg (g1 - 1)
            case measure => omega
            case rel => exact ⟨k + 1, cq + 1, by omega, by go_num, by go_num, by omega, (HNX.out _ _ HCN.out ((HK7 _).out.drewN _)).1, (HNX.out _ _ HCN.out ((HK7 _).out.drewN _)).2⟩
          rw [HRc.out] at hcn
          have HCN := Lib.hid hcn
          clear hcn
          by_cases hf : f = 0
          · subst hf
            have hk1 : (ok == 1) = false := by
              by_cases h : ok = 1
              · exact absurd ⟨rfl, h⟩ hno
              · simpa using h
            clear hno
            by_cases hk3 : ok = 3
            · subst hk3
              clear hk1
              obtain ⟨ff, hob, hfl, hfx⟩ := HSTO.out rfl rfl
              obtain rfl : ob = (ff : Int) := hob
              obtain ⟨id, hid⟩ : ∃ id, id = regP m R' mi oa := ⟨_, rfl⟩
              rw [← hid] at hfl hfx
              have HRA : Hid (∀ W, Keep none_ w6 W → Calls Tryd.prog 19 #[.pointer (some ⟨B, 0, none⟩), .int .i64 mi, .int .i64 oa] W fun e w' => e = .returned (.int .i64 id) ∧ w' = W) := by
                intro W hW
                rw [hid]
                exact HREG.out W hW oa
              obtain ⟨x, hx⟩ : ∃ x, x = regP m R' mi oc := ⟨_, rfl⟩
              rw [← hx] at hfx
              have HRC : Hid (∀ W, Keep none_ w6 W → Calls Tryd.prog 19 #[.pointer (some ⟨B, 0, none⟩), .int .i64 mi, .int .i64 oc] W fun e w' => e = .returned (.int .i64 x) ∧ w' = W) := by
                intro W hW
                rw [hx]
                exact HREG.out W hW oc
              clear hid hx
              have HLL := HFL.out id
              have HFI : Hid (∀ W, Keep none_ w6 W → Calls Tryd.prog 20 #[.pointer (some ⟨B, 0, none⟩), .int .i64 id] W fun e w' => ∃ a cap, e = .returned (.slice a (fldP m R' id).length cap) ∧ IntCells .i64 w' a (fldP m R' id).length (fldP m R' id) ∧ Keep none_ W w') := fun W h => HFLD.out W h id
              generalize fldP m R' id = L at *
              obtain ⟨W7, hW7⟩ : ∃ W', W' = w6.alloc (.cells #[.int .i64 3, .int .i64 oa, .int .i64 (ff : Int), .int .i64 oc] 35) := ⟨_, rfl⟩
              have hk7 : Keep none_ w6 W7 := by rw [hW7]; exact (Keep.refl _ _).alloc _
              have hb7 : Blk W7 w6.heap.size [.int .i64 3, .int .i64 oa, .int .i64 (ff : Int), .int .i64 oc] 35 := by rw [hW7]; exact Blk.new w6 _ _
              have HKW := Lib.hid hk7
              have HBW := Lib.hid hb7
              go_wp2_with fail
              rw [← hW7]
              clear hW7 hk7 hb7
              have p0 := HKW.out.still HG0.out.1
              have p1 := HBW.out.cell 0 rfl
              have p2 := HBW.out.cell 1 rfl
              have p3 := HBW.out.cell 2 rfl
              have p4 := HBW.out.cell 3 rfl
              generalize w6.heap.size = N at *
              refine wp_region_still_mid 10 rfl (by kernel_rfl) (by kernel_rfl) (fun K hK => ?_)
              change wpStill _ _ (World.drew _) _ _ _
              simp only [List.take_succ_cons, List.take_zero, List.drop_succ_cons, List.drop_zero] at hK ⊢
              still_step
              still_step
              still_step
              still_step
              still_step
              still_step
              still_step
              still_step
              still_step
              still_call (HRA.out _ HKW.out.drew)
              refine wpStill_nil ?_
              change ite _ (Oper.wp _ _ _ W7.drew _ _) _
              go_simp
              refine (HFI.out _ HKW.out.drew).mono ?_
              rintro e w8 ⟨af, cf, rfl, ha, hk8⟩
              refine hK _ _ ?_
              clear hK K
              have HK8 := Lib.hid (HKW.out.drew.trans hk8)
              have HB8 := Lib.hid (hk8.blk HBW.out.drew (fun f => f))
              obtain ⟨bf, of, rfl, hcf⟩ := ha.at_ (by omega)
              have hcx := hcf ff hfl
              rw [hfx] at hcx
              have dl : decide (L.length ≤ ff) = false := decide_eq_false (by omega)
              have dl' : ¬ (L.length ≤ ff) := by omega
              have hltf : (ff : Int) < (L.length : Int) := by omega
              have hf0 : (0 : Int) ≤ (ff : Int) := by omega
              clear ha hk8 hcf p0 p1 p2 p3 p4
              repeat still_step
              refine wpStill_nil ?_
              have p0 := HK8.out.still HG0.out.1
              have p1 := HB8.out.cell 0 rfl
              have p2 := HB8.out.cell 1 rfl
              have p3 := HB8.out.cell 2 rfl
              have p4 := HB8.out.cell 3 rfl
              go_wp2_with fail
              go_quiet (first | (go_at_call 19; exact Calls.quiet_of_same (HRC.out _ (HK8.out.drewN _))))
              go_wp2_with fail
              go_quiet (fail)
              go_wp2_with fail
              go_roundg (g1 - 1)
              case measure => omega
              case rel => exact ⟨k + 1, cq, by omega, by go_num, rfl, by omega, (HNX.out _ _ HCN.out (HK8.out.drewN _)).1, (HNX.out _ _ HCN.out (HK8.out.drewN _)).2⟩
            have hk31 : (ok == 3) = false := by simpa using hk3
            by_cases hk7 : ok = 2 ∨ ok = 4 ∨ ok = 7
            · have htel := HTEL.out rfl hk7
              have HRX : Hid (∀ W, Keep none_ w6 W → Calls Tryd.prog 19 #[.pointer (some ⟨B, 0, none⟩), .int .i64 mi, .int .i64 oa] W fun e w' => e = .returned (.int .i64 v) ∧ w' = W) := by
                intro W hW
                rw [htel]
                exact HREG.out W hW oa
              clear htel hk3
              have g0a : ∀ o, (w6.alloc o).cell? ⟨b, off + k * 5, none⟩ = some (.int .i64 mi) := fun o => (HK7 o).out.still g0
              rcases hk7 with rfl | rfl | rfl
              all_goals
                go_wp2_with fail
                go_quiet (first | (go_at_call 19; exact Calls.quiet_of_same (HRX.out _ ((HK7 _).out.drewN _))))
                go_wp2_with fail
                go_roundg (g1 - 1)
                case measure => omega
                case rel => exact ⟨k + 1, cq, by omega, by go_num, rfl, by omega, (HNX.out _ _ HCN.out ((HK7 _).out.drewN _)).1, (HNX.out _ _ HCN.out ((HK7 _).out.drewN _)).2⟩
            · have hk2 : (ok == 2) = false := by simp; omega
              have hk4 : (ok == 4) = false := by simp; omega
              have hk71 : (ok == 7) = false := by simp; omega
              go_wp2_with fail
              go_quiet (fail)
              go_wp2_with fail
              go_roundg (g1 - 1)
              case measure => omega
              case rel => exact ⟨k + 1, cq, by omega, by go_num, rfl, by omega, (HNX.out _ _ HCN.out ((HK7 _).out.drewN _)).1, (HNX.out _ _ HCN.out ((HK7 _).out.drewN _)).2⟩
          · have hf1 : (f == 0) = false := by simpa using hf
            go_wp2_with fail
            go_quiet (fail)
            go_wp2_with fail
            go_roundg (g1 - 1)
            case measure => omega
            case rel => exact ⟨k + 1, cq, by omega, by go_num, rfl, by omega, (HNX.out _ _ HCN.out ((HK7 _).out.drewN _)).1, (HNX.out _ _ HCN.out ((HK7 _).out.drewN _)).2⟩
    · obtain rfl : n1 = k := by omega
      obtain ⟨R, hG, hRl, hRc⟩ := HG.out
      have HCT := Lib.hid (gcount_any hG)
      rw [hRc] at HCT
      clear hG hRl hRc HG
      go_wp2_with (go_at_call 21; refine HCT.out.mono ?_; rintro e w1 ⟨rfl, rfl⟩)
      go_ret
      exact ⟨rfl, HK3.out.trans HK.out⟩
end Go.Proofs.YtdplakfmdkjfdaaDoor
