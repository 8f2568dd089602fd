/- The walk of GraphErrors. -/
import Derived.Test.YtdplakfmdkjfdaaDoorGAct
import Derived.Test.YtdplakfmdkjfdaaDoorGPlain3
import Derived.Deep.QuietTactic
namespace Go.Proofs.YtdplakfmdkjfdaaDoor
open Go.RowKit Go.Sort

set_option maxRecDepth 4000 in
set_option maxHeartbeats 4000000 in
theorem graphErrors_any (z0 : List Value) (a1 : Option Addr) (n1 c1 : Nat) (z1 : List (List Value)) (z2 : List Value) (w : World) (h0 : FlatOk [.int .i64, .int .i64, .int .i64, .int .i64, .int .i64, .int .i64, .int .i64] z0)
    (h1 : Flats [.int .i64, .int .i64, .int .i64, .int .i64, .int .i64] w a1 n1 z1) (hm1 : n1 ≤ maxLen) (h2 : FlatOk [.int .i64, .int .i64, .int .i64, .int .i64, .int .i64] z2) (hL : laidMetH Tryd.prog Rows.graphErrorsRow.laid w) :
    Calls Tryd.prog 4 #[.agg z0.toArray, .slice a1 n1 c1, .agg z2.toArray] w fun e w' => e = .returned (.bool true) ∧ Keep none_ w w' := by
  unfold maxLen at hm1
  have HT := Lib.hid (tabs_of hL)
  clear hL
  obtain ⟨c, rfl, -⟩ := conf_of h0
  obtain ⟨d, rfl, -⟩ := deed_of h2
  obtain ⟨l, rfl, -⟩ := list_of (f := DeedR.cells) (P := fun _ => True) (fun r h => deed_of h) z1 h1.ok
  have HR := Lib.hid (RecAt.ofFlats h1)
  clear h0 h1 h2
  obtain ⟨W0, hW0⟩ : ∃ W', W' = (w.alloc (.cells c.cells.toArray 23)).alloc (.cells d.cells.toArray 37) := ⟨_, rfl⟩
  have HK0 : Hid (Keep none_ w W0) := by rw [hW0]; exact ((Keep.refl _ _).alloc _).alloc _
  have HC0 : Hid (Blk W0 w.heap.size c.cells 23) := by rw [hW0]; exact (Blk.new w _ _).alloc _
  have HD0 : Hid (Blk W0 (w.heap.size + 1) d.cells 37) := by rw [hW0]; have h := Blk.new (w.alloc (.cells c.cells.toArray 23)) d.cells 37; simp only [World.size_alloc] at h; exact h
  go_enter Tryd.func4, Tryd.ntmps4
  simp only [Conf.cells, DeedR.cells] at hW0
  simp only [Conf.cells, DeedR.cells]
  go_wp2_with fail
  rw [← hW0]
  obtain ⟨C, hC⟩ : ∃ C, C = w.heap.size := ⟨_, rfl⟩
  rw [← hC]
  have HCC := Lib.hid hC
  rw [← hC] at HC0 HD0
  clear hW0 hC
  refine (little_any c W0).mono ?_
  rintro e W1 ⟨rfl, hk1⟩
  have HK1 := Lib.hid (HK0.out.trans hk1)
  have HC1 := Lib.hid (hk1.blk HC0.out (fun f => f))
  have HD1 := Lib.hid (hk1.blk HD0.out (fun f => f))
  clear hk1 HK0 HC0 HD0
  have z0 := HC1.out.free 0; have z1 := HC1.out.free 1; have z2 := HC1.out.free 2; have z3 := HC1.out.free 3; have z4 := HC1.out.free 4; have z5 := HC1.out.free 5; have z6 := HC1.out.free 6
  have y0 := HC1.out.cell 0 rfl; have y1 := HC1.out.cell 1 rfl; have y2 := HC1.out.cell 2 rfl; have y3 := HC1.out.cell 3 rfl; have y4 := HC1.out.cell 4 rfl; have y5 := HC1.out.cell 5 rfl; have y6 := HC1.out.cell 6 rfl
  obtain ⟨q, hq⟩ : ∃ q, q = c.little := ⟨_, rfl⟩
  rw [← hq]
  have HOK : Hid (q.ok = true) := by rw [hq]; exact little_ok c
  have HNUM := Lib.hid (little_nums c)
  rw [← hq] at HNUM
  clear hq
  obtain ⟨q0, q1, q2, q3, q4, q5, q6⟩ := q
  simp only [Conf.cells]
  obtain ⟨W2, hW2, hC2, hk2⟩ := conf_put HC1.out q0 q1 q2 q3 q4 q5 q6
  have HC2 := Lib.hid hC2
  have HK2 : Hid (Keep none_ w W2) := HK1.out.onNew hk2 (by rw [HCC.out]; exact Nat.le_refl _)
  have HD2 : Hid (Blk W2 (C + 1) d.cells 37) := hk2.blk HD1.out (by unfold only; omega)
  by_cases hbig : 80 < n1
  · go_wp2_with fail
    rw [← hW2]
    refine (awake18_any W2 (HT.out.keep HK2.out)).mono ?_
    rintro e W3 ⟨rfl, hk3⟩
    clear hW2 hC2 hk2 y0 y1 y2 y3 y4 y5 y6 z0 z1 z2 z3 z4 z5 z6
    have HK3 := Lib.hid (HK2.out.trans hk3)
    clear hk3
    go_wp2_with fail
    go_ret
    exact ⟨rfl, HK3.out⟩
  have d80 : decide (80 < (n1 : Int)) = false := decide_eq_false (by omega)
  go_wp2_with fail
  rw [← hW2]
  refine (awake18_any W2 (HT.out.keep HK2.out)).mono ?_
  rintro e W3 ⟨rfl, hk3⟩
  clear hW2 hC2 hk2 y0 y1 y2 y3 y4 y5 y6 z0 z1 z2 z3 z4 z5 z6
  have HK3 := Lib.hid (HK2.out.trans hk3)
  have HC3 := Lib.hid (hk3.blk HC2.out (fun f => f))
  have HD3 := Lib.hid (hk3.blk HD2.out (fun f => f))
  clear hk3 HK2 HC2 HD2 HK1 HC1 HD1
  have y0 := HC3.out.cell 0 rfl; have y1 := HC3.out.cell 1 rfl; have y2 := HC3.out.cell 2 rfl; have y3 := HC3.out.cell 3 rfl; have y4 := HC3.out.cell 4 rfl; have y5 := HC3.out.cell 5 rfl; have y6 := HC3.out.cell 6 rfl
  go_wp2_with fail
  obtain ⟨m, r, n, hm, hr, hn, m1, m4, r1, r5, n3⟩ := HNUM.out
  refine (gnew_any ⟨q0, q1, q2, q3, q4, q5, q6⟩ W3 (HT.out.keep HK3.out) HOK.out m r n hm hr hn).mono ?_
  rintro e W4 ⟨B, rfl, hg, hk4⟩
  obtain rfl : q2 = (m : Int) := hm
  obtain rfl : q3 = (r : Int) := hr
  obtain rfl : q4 = (n : Int) := hn
  have HG4 : Hid (Ran W3 B ⟨q0, q1, m, r, n, q5, q6⟩ m 0 W4) := ⟨⟨_, hg, by simp [rows0]⟩, hk4⟩
  have HTT := Lib.hid (HT.out.keep HK3.out)
  have HRR := Lib.hid (HR.out.below HK3.out)
  have HL : Hid (l.length = n1) := by have := HR.out.len; simpa [Hid] using this
  clear hg hk4 HT HR HNUM y0 y1 y2 y3 y4 y5 y6
  go_wp2_with fail
  go_loopg [9] n1 (fun g i wr => ∃ k : Nat, g + k = n1 ∧ i = .int .i64 k ∧ Hid (Ran W3 B ⟨q0, q1, m, r, n, q5, q6⟩ m k wr))
  case atStart => exact ⟨0, by omega, rfl, HG4⟩
  case round =>
    obtain ⟨k, hg, rfl, HG⟩ := hrel
    by_cases hlt : k < n1
    · obtain ⟨b, off, rfl, d', hd, g0, g1, g2, g3, g4⟩ := deedCells (HRR.out.below HG.out.2) k hlt
      clear hd
      obtain ⟨mi, ⟨ok, oa, ob, oc⟩⟩ := d'
      simp only at g0 g1 g2 g3 g4
      have hltI : (k : Int) < (n1 : Int) := by omega
      have hk0 : (0 : Int) ≤ (k : Int) := by omega
      go_wp2_with fail
      refine wp_region_still_tail 11 (by kernel_rfl) (by kernel_rfl) ?_
      change wpStill _ _ (World.drew _) _ _ _
      simp only [List.take_succ_cons, List.take_zero, List.drop_succ_cons, List.drop_zero]
      repeat still_step
      refine wpStill_nil ?_
      change wpList _ _ _ _ _ wr.drew
      go_wp2_with fail
      refine (HG.out.do_ (by omega) HTT.out mi ⟨ok, oa, ob, oc⟩).mono ?_
      rintro e w5 ⟨v1, v2, rfl, h5⟩
      have HG5 := Lib.hid h5
      clear h5
      go_wp2_with fail
      go_roundg (gk - 1)
      case measure => omega
      case rel => exact ⟨k + 1, by omega, by go_num, HG5⟩
    · obtain rfl : k = n1 := by omega
      clear hg
      obtain ⟨⟨R, hG, hRl⟩, hk⟩ := HG.out
      have HK := Lib.hid hk
      have HS := Lib.hid hG
      have HRl : Hid (R.length ≤ 100) := by unfold Hid; omega
      have HCW := Lib.hid (hk.blk HC3.out (fun f => f))
      have HDW := Lib.hid (hk.blk HD3.out (fun f => f))
      have HGOOD := Lib.hid hG.good
      clear hG hk HG hRl
      go_wp2_with fail
      refine (gcopy_any HS.out (by omega) (by have := HRl.out; omega)).mono ?_
      rintro e w5 ⟨B2, rfl, h5, hk5⟩
      have HS5 := Lib.hid h5
      have HK5 := Lib.hid hk5
      have y0 : w5.cell? ⟨C + 1, 0, none⟩ = some (.int .i64 d.m) := (hk5.blk HDW.out (fun f => f)).cell 0 rfl
      have y1 : w5.cell? ⟨C + 1, 1, none⟩ = some (.int .i64 d.o.k) := (hk5.blk HDW.out (fun f => f)).cell 1 rfl
      have y2 : w5.cell? ⟨C + 1, 2, none⟩ = some (.int .i64 d.o.a) := (hk5.blk HDW.out (fun f => f)).cell 2 rfl
      have y3 : w5.cell? ⟨C + 1, 3, none⟩ = some (.int .i64 d.o.b) := (hk5.blk HDW.out (fun f => f)).cell 3 rfl
      have y4 : w5.cell? ⟨C + 1, 4, none⟩ = some (.int .i64 d.o.c) := (hk5.blk HDW.out (fun f => f)).cell 4 rfl
      clear h5 hk5
      go_wp2_with fail
      refine (twin_do HS.out HK.out.size HK5.out HS5.out (Keep.refl _ _) (by have := HRl.out; omega) d.m d.o (HTT.out.keep (HK.out.trans HK5.out))).mono ?_
      rintro e w6 ⟨rfl, hg6, hs6, hk6⟩
      have HGE := Lib.hid (do_error HGOOD.out d.m d.o)
      have HG6 := Lib.hid hg6
      have HS6 := Lib.hid hs6
      have HK6 : Hid (Keep none_ W3 w6) := (HK.out.trans HK5.out).trans' hk6 (fun i hi h => by omega)
      clear hg6 hs6 hk6 y0 y1 y2 y3 y4
      generalize gDoP ⟨q0, q1, m, r, n, q5, q6⟩ m R d.m d.o = pr at *
      obtain ⟨R', v, f⟩ := pr
      by_cases hf : f = 0
      · subst hf
        go_wp2_with fail
        go_ret
        exact ⟨rfl, HK3.out.trans HK6.out⟩
      obtain ⟨e1, e2⟩ := HGE.out hf
      simp only at e1 e2
      subst e1 e2
      have hf1 : (f == 0) = false := by simpa using hf
      go_wp2_with fail
      have HRG : Hid (∀ p mi r, p = B ∨ p = B2 → Calls Tryd.prog 19 #[.pointer (some ⟨p, 0, none⟩), .int .i64 mi, .int .i64 r] w6 fun e w' => e = .returned (.int .i64 (regP m R' mi r)) ∧ w6 = w') := by
        rintro p mi r (rfl | rfl)
        · exact (greg_any HG6.out mi r).mono (fun _ _ h => ⟨h.1, h.2.symm⟩)
        · exact (greg_any HS6.out mi r).mono (fun _ _ h => ⟨h.1, h.2.symm⟩)
      have HCG : Hid (∀ p i, p = B ∨ p = B2 → Calls Tryd.prog 22 #[.pointer (some ⟨p, 0, none⟩), .int .i64 i] w6 fun e w' => e = .returned (.int .i64 (cellP m R' i)) ∧ w6 = w') := by
        rintro p i (rfl | rfl)
        · exact (gcell_any HG6.out i).mono (fun _ _ h => ⟨h.1, h.2.symm⟩)
        · exact (gcell_any HS6.out i).mono (fun _ _ h => ⟨h.1, h.2.symm⟩)
      have HFG : Hid (∀ p i W, p = B ∨ p = B2 → Keep none_ w6 W → Calls Tryd.prog 20 #[.pointer (some ⟨p, 0, none⟩), .int .i64 i] W fun e w' => ∃ a cap, e = .returned (.slice a (fldP m R' i).length cap) ∧ IntCells .i64 w' a (fldP m R' i).length (fldP m R' i) ∧ Keep none_ W w') := by
        rintro p i W (rfl | rfl) hk
        · exact gfields_any (HG6.out.still hk) (by have := HRl.out; omega) i
        · exact gfields_any (HS6.out.still hk) (by have := HRl.out; omega) i
      have HCT : Hid (∀ p W, p = B ∨ p = B2 → Keep none_ w6 W → Calls Tryd.prog 21 #[.pointer (some ⟨p, 0, none⟩)] W fun e w' => e = .returned (.int .i64 (cntP m R' : Int)) ∧ W = w') := by
        rintro p W (rfl | rfl) hk
        · exact (gcount_any (HG6.out.still hk)).mono (fun _ _ h => ⟨h.1, h.2.symm⟩)
        · exact (gcount_any (HS6.out.still hk)).mono (fun _ _ h => ⟨h.1, h.2.symm⟩)
      have HFL : Hid (∀ i, (fldP m R' i).length ≤ 100) := fun i => fld_len HG6.out.good i
      obtain ⟨cnt, hcnt⟩ : ∃ cnt, cnt = cntP m R' := ⟨_, rfl⟩
      rw [← hcnt] at HCT
      have hcn : cnt ≤ 1000 := by rw [hcnt]; have := HRl.out; unfold cntP; omega
      clear hcnt
      have HCN := Lib.hid hcn
      clear hcn
      have HCB := Lib.hid ((HK6.out).blk HC3.out (fun f => f))
      have y2 := HCB.out.cell 2 rfl; have y3 := HCB.out.cell 3 rfl; have y4 := HCB.out.cell 4 rfl
      go_loopg [13] m (fun g i wr => ∃ k : Nat, g + k = m ∧ i = .int .i64 k ∧ w6 = wr)
      case atStart => exact ⟨0, by omega, rfl, rfl⟩
      case round =>
        obtain ⟨k2, hg, rfl, rfl⟩ := hrel
        by_cases hlt2 : k2 < m
        · obtain ⟨g1, rfl⟩ : ∃ g1 : Nat, g1 = gk := ⟨_, rfl⟩
          go_wp2_with fail
          go_loopg [14] r (fun g i w' => ∃ k : Nat, g + k = r ∧ i = .int .i64 k ∧ w6 = w')
          case atStart => exact ⟨0, by omega, rfl, rfl⟩
          case round =>
            obtain ⟨k3, hg3, rfl, rfl⟩ := hrel
            by_cases hlt3 : k3 < r
            · have hlt3I : (k3 : Int) < (r : Int) := by omega
              go_wp2_with (go_at_call 19; refine (HRG.out _ _ _ (by first | exact .inl rfl | exact .inr rfl)).mono ?_; rintro e w1 ⟨rfl, rfl⟩)
              go_roundg (gk - 1)
              case measure => omega
              case rel => exact ⟨k3 + 1, by omega, by go_num, rfl⟩
            · obtain rfl : k3 = r := by omega
              go_wp2_with fail
              go_roundg (g1 - 1)
              case measure => omega
              case rel => exact ⟨k2 + 1, by omega, by go_num, rfl⟩
        · obtain rfl : k2 = m := by omega
          go_wp2_with fail
          go_loopg [15] n (fun g i wr => ∃ k : Nat, g + k = n ∧ i = .int .i64 k ∧ w6 = wr)
          case atStart => exact ⟨0, by omega, rfl, rfl⟩
          case round =>
            obtain ⟨k4, hg4, rfl, rfl⟩ := hrel
            by_cases hlt4 : k4 < n
            · have hlt4I : (k4 : Int) < (n : Int) := by omega
              go_wp2_with (go_at_call 22; refine (HCG.out _ _ (by first | exact .inl rfl | exact .inr rfl)).mono ?_; rintro e w1 ⟨rfl, rfl⟩)
              go_roundg (gk - 1)
              case measure => omega
              case rel => exact ⟨k4 + 1, by omega, by go_num, rfl⟩
            · obtain rfl : k4 = n := by omega
              go_wp2_with fail
              clear y2 y3 y4
              go_loopg [16] cnt (fun g i wr => ∃ k : Nat, g + k = cnt ∧ i = .int .i64 ((k : Int) + 1) ∧ Hid (Keep none_ w6 wr))
              case atStart => exact ⟨0, by omega, rfl, Keep.refl _ _⟩
              case round =>
                obtain ⟨k5, hg5, rfl, HK7⟩ := hrel
                have hcn : cnt ≤ 1000 := HCN.out
                by_cases hlt5 : k5 < cnt
                · have hlt5I : (k5 : Int) + 1 ≤ (cnt : Int) := by omega
                  go_wp2_with (go_at_call 21; refine (HCT.out _ _ (by first | exact .inl rfl | exact .inr rfl) HK7.out).mono ?_; rintro e w1 ⟨rfl, rfl⟩)
                  refine (HFG.out _ _ _ (.inl rfl) HK7.out).mono ?_
                  rintro e w8 ⟨aa, ca, rfl, ha, hk8⟩
                  have HK8 := Lib.hid (HK7.out.trans hk8)
                  have HA8 := Lib.hid ha
                  clear ha hk8
                  go_wp2_with fail
                  refine (HFG.out _ _ _ (.inr rfl) HK8.out).mono ?_
                  rintro e w9 ⟨ab, cb, rfl, hb, hk9⟩
                  have HK9 := Lib.hid (HK8.out.trans hk9)
                  have HA9 := Lib.hid (HA8.out.below hk9)
                  have HB9 := Lib.hid hb
                  have HSM := Lib.hid (same_any aa ab _ _ ca cb _ _ w9 HA9.out HB9.out (by have := HFL.out ((k5 : Int) + 1); omega) (by have := HFL.out ((k5 : Int) + 1); omega))
                  clear hb hk9
                  go_wp2_with fail
                  refine HSM.out.mono ?_
                  rintro e w10 ⟨rfl, hk10⟩
                  have HK10 := Lib.hid (HK9.out.trans hk10)
                  clear hk10
                  go_wp2_with fail
                  go_roundg (gk - 1)
                  case measure => omega
                  case rel => exact ⟨k5 + 1, by omega, by go_num, HK10⟩
                · obtain rfl : k5 = cnt := by omega
                  go_wp2_with (go_at_call 21; refine (HCT.out _ _ (by first | exact .inl rfl | exact .inr rfl) HK7.out).mono ?_; rintro e w1 ⟨rfl, rfl⟩)
                  go_ret
                  exact ⟨rfl, (HK3.out.trans HK6.out).trans HK7.out⟩
end Go.Proofs.YtdplakfmdkjfdaaDoor
