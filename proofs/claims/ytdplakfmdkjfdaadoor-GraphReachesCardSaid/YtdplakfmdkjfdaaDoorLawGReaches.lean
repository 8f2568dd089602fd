/- The walk of GraphReaches. -/
import Derived.Test.YtdplakfmdkjfdaaDoorGAct
import Derived.Test.YtdplakfmdkjfdaaDoorGReach2
import Derived.Deep.QuietTactic
namespace Go.Proofs.YtdplakfmdkjfdaaDoor
open Go.RowKit Go.Sort

set_option maxRecDepth 4000 in
set_option maxHeartbeats 4000000 in
theorem graphReaches_any (z0 : List Value) (a1 : Option Addr) (n1 c1 : Nat) (z1 : List (List Value)) (z2 : List Value) (w : World) (h0 : FlatOk [.int .i64, .int .i64, .int .i64, .int .i64, .int .i64, .int .i64, .int .i64] z0)
    (h1 : Flats [.int .i64, .int .i64, .int .i64, .int .i64, .int .i64] w a1 n1 z1) (hm1 : n1 ≤ maxLen) (h2 : FlatOk [.int .i64, .int .i64] z2) (hL : laidMetH Tryd.prog Rows.graphReachesRow.laid w) :
    Calls Tryd.prog 5 #[.agg z0.toArray, .slice a1 n1 c1, .agg z2.toArray] w fun e w' => e = .returned (.bool true) ∧ Keep none_ w w' := by
  unfold maxLen at hm1
  have HT := Lib.hid (tabs_of hL)
  clear hL
  obtain ⟨c, rfl, -⟩ := conf_of h0
  obtain ⟨d0, d1, rfl⟩ : ∃ d0 d1 : Int, z2 = [.int .i64 d0, .int .i64 d1] := by
    obtain ⟨v0, e0, x0, rfl, y0⟩ := h2.at_ 0 _ rfl
    obtain ⟨v1, e1, x1, rfl, y1⟩ := h2.at_ 1 _ rfl
    have hl := h2.len
    match z2, hl with
    | [a0, a1], _ =>
      simp at e0 e1
      exact ⟨x0, x1, by simp [e0, e1]⟩
  obtain ⟨l, rfl, -⟩ := list_of (f := DeedR.cells) (P := fun _ => True) (fun r h => deed_of h) z1 h1.ok
  have HR := Lib.hid (RecAt.ofFlats h1)
  clear h0 h1 h2
  obtain ⟨W0, hW0⟩ : ∃ W', W' = (w.alloc (.cells c.cells.toArray 23)).alloc (.cells #[.int .i64 d0, .int .i64 d1] 46) := ⟨_, rfl⟩
  have HK0 : Hid (Keep none_ w W0) := by rw [hW0]; exact ((Keep.refl _ _).alloc _).alloc _
  have HC0 : Hid (Blk W0 w.heap.size c.cells 23) := by rw [hW0]; exact (Blk.new w _ _).alloc _
  have HD0 : Hid (Blk W0 (w.heap.size + 1) [.int .i64 d0, .int .i64 d1] 46) := by rw [hW0]; have h := Blk.new (w.alloc (.cells c.cells.toArray 23)) [.int .i64 d0, .int .i64 d1] 46; simp only [World.size_alloc] at h; exact h
  go_enter Tryd.func5, Tryd.ntmps5
  simp only [Conf.cells] at hW0
  simp only [Conf.cells]
  go_wp2_with fail
  rw [← hW0]
  obtain ⟨C, hC⟩ : ∃ C, C = w.heap.size := ⟨_, rfl⟩
  rw [← hC]
  have HCC := Lib.hid hC
  rw [← hC] at HC0 HD0
  clear hW0 hC
  refine (little_any c W0).mono ?_
  rintro e W1 ⟨rfl, hk1⟩
  have HK1 := Lib.hid (HK0.out.trans hk1)
  have HC1 := Lib.hid (hk1.blk HC0.out (fun f => f))
  have HD1 := Lib.hid (hk1.blk HD0.out (fun f => f))
  clear hk1 HK0 HC0 HD0
  have z0 := HC1.out.free 0; have z1 := HC1.out.free 1; have z2 := HC1.out.free 2; have z3 := HC1.out.free 3; have z4 := HC1.out.free 4; have z5 := HC1.out.free 5; have z6 := HC1.out.free 6
  have y0 := HC1.out.cell 0 rfl; have y1 := HC1.out.cell 1 rfl; have y2 := HC1.out.cell 2 rfl; have y3 := HC1.out.cell 3 rfl; have y4 := HC1.out.cell 4 rfl; have y5 := HC1.out.cell 5 rfl; have y6 := HC1.out.cell 6 rfl
  obtain ⟨q, hq⟩ : ∃ q, q = c.little := ⟨_, rfl⟩
  rw [← hq]
  have HOK : Hid (q.ok = true) := by rw [hq]; exact little_ok c
  have HNUM := Lib.hid (little_nums c)
  rw [← hq] at HNUM
  clear hq
  obtain ⟨q0, q1, q2, q3, q4, q5, q6⟩ := q
  simp only [Conf.cells]
  obtain ⟨W2, hW2, hC2, hk2⟩ := conf_put HC1.out q0 q1 q2 q3 q4 q5 q6
  have HC2 := Lib.hid hC2
  have HK2 : Hid (Keep none_ w W2) := HK1.out.onNew hk2 (by rw [HCC.out]; exact Nat.le_refl _)
  have HD2 : Hid (Blk W2 (C + 1) [.int .i64 d0, .int .i64 d1] 46) := hk2.blk HD1.out (by unfold only; omega)
  by_cases hbig : 80 < n1
  · go_wp2_with fail
    rw [← hW2]
    refine (awake18_any W2 (HT.out.keep HK2.out)).mono ?_
    rintro e W3 ⟨rfl, hk3⟩
    clear hW2 hC2 hk2 y0 y1 y2 y3 y4 y5 y6 z0 z1 z2 z3 z4 z5 z6
    have HK3 := Lib.hid (HK2.out.trans hk3)
    clear hk3
    go_wp2_with fail
    go_ret
    exact ⟨rfl, HK3.out⟩
  have d80 : decide (80 < (n1 : Int)) = false := decide_eq_false (by omega)
  go_wp2_with fail
  rw [← hW2]
  refine (awake18_any W2 (HT.out.keep HK2.out)).mono ?_
  rintro e W3 ⟨rfl, hk3⟩
  clear hW2 hC2 hk2 y0 y1 y2 y3 y4 y5 y6 z0 z1 z2 z3 z4 z5 z6
  have HK3 := Lib.hid (HK2.out.trans hk3)
  have HC3 := Lib.hid (hk3.blk HC2.out (fun f => f))
  have HD3 := Lib.hid (hk3.blk HD2.out (fun f => f))
  clear hk3 HK2 HC2 HD2 HK1 HC1 HD1
  have y0 := HC3.out.cell 0 rfl; have y1 := HC3.out.cell 1 rfl; have y2 := HC3.out.cell 2 rfl; have y3 := HC3.out.cell 3 rfl; have y4 := HC3.out.cell 4 rfl; have y5 := HC3.out.cell 5 rfl; have y6 := HC3.out.cell 6 rfl
  go_wp2_with fail
  obtain ⟨m, r, n, hm, hr, hn, m1, m4, r1, r5, n3⟩ := HNUM.out
  refine (gnew_any ⟨q0, q1, q2, q3, q4, q5, q6⟩ W3 (HT.out.keep HK3.out) HOK.out m r n hm hr hn).mono ?_
  rintro e W4 ⟨B, rfl, hg, hk4⟩
  obtain rfl : q2 = (m : Int) := hm
  obtain rfl : q3 = (r : Int) := hr
  obtain rfl : q4 = (n : Int) := hn
  have HG4 : Hid (Ran W3 B ⟨q0, q1, m, r, n, q5, q6⟩ m 0 W4) := ⟨⟨_, hg, by simp [rows0]⟩, hk4⟩
  have HTT := Lib.hid (HT.out.keep HK3.out)
  have HRR := Lib.hid (HR.out.below HK3.out)
  have HL : Hid (l.length = n1) := by have := HR.out.len; simpa [Hid] using this
  clear hg hk4 HT HR HNUM y0 y1 y2 y3 y4 y5 y6
  go_wp2_with fail
  go_loopg [9] n1 (fun g i wr => ∃ k : Nat, g + k = n1 ∧ i = .int .i64 k ∧ Hid (Ran W3 B ⟨q0, q1, m, r, n, q5, q6⟩ m k wr))
  case atStart => exact ⟨0, by omega, rfl, HG4⟩
  case round =>
    obtain ⟨k, hg, rfl, HG⟩ := hrel
    by_cases hlt : k < n1
    · obtain ⟨b, off, rfl, d', hd, g0, g1, g2, g3, g4⟩ := deedCells (HRR.out.below HG.out.2) k hlt
      clear hd
      obtain ⟨mi, ⟨ok, oa, ob, oc⟩⟩ := d'
      simp only at g0 g1 g2 g3 g4
      have hltI : (k : Int) < (n1 : Int) := by omega
      have hk0 : (0 : Int) ≤ (k : Int) := by omega
      go_wp2_with fail
      refine wp_region_still_tail 11 (by kernel_rfl) (by kernel_rfl) ?_
      change wpStill _ _ (World.drew _) _ _ _
      simp only [List.take_succ_cons, List.take_zero, List.drop_succ_cons, List.drop_zero]
      repeat still_step
      refine wpStill_nil ?_
      change wpList _ _ _ _ _ wr.drew
      go_wp2_with fail
      refine (HG.out.do_ (by omega) HTT.out mi ⟨ok, oa, ob, oc⟩).mono ?_
      rintro e w5 ⟨v1, v2, rfl, h5⟩
      have HG5 := Lib.hid h5
      clear h5
      go_wp2_with fail
      go_roundg (gk - 1)
      case measure => omega
      case rel => exact ⟨k + 1, by omega, by go_num, HG5⟩
    · obtain rfl : k = n1 := by omega
      clear hg
      obtain ⟨V, rfl⟩ : ∃ V : World, V = wr := ⟨_, rfl⟩
      obtain ⟨⟨R, hG, hRl⟩, hk⟩ := HG.out
      have HK := Lib.hid hk
      have HS := Lib.hid hG
      have HRl : Hid (R.length ≤ 100) := by unfold Hid; omega
      have HCW := Lib.hid (hk.blk HC3.out (fun f => f))
      have HDW := Lib.hid (hk.blk HD3.out (fun f => f))
      have HGOOD := Lib.hid hG.good
      clear hG hk HG hRl
      go_wp2_with fail
      refine (greach_any HS.out (by omega) (by have := HRl.out; omega)).mono ?_
      rintro e w5 ⟨ai, ci, L, rfl, hc5, hL5, hab5, hk5⟩
      have HK5 := Lib.hid hk5
      have HL5 := Lib.hid hL5
      have HC5 := Lib.hid hc5
      have HAB := Lib.hid hab5
      have hLl : L.length ≤ 1001 := hL5.len
      have HIN : Hid (∀ W, Keep none_ w5 W → ∀ f : Int, f ∈ L → Calls Tryd.prog 25 #[.slice ai L.length ci, .int .i64 f] W fun e w' => e = .returned (.bool true) ∧ W = w') := fun W hW f hf =>
        in_is (hc5.below hW) (by omega) (inL_true.2 hf)
      have HCLO : Hid (∀ i ∈ L, ∀ f ∈ fldP m R i, f ≠ 0 → f ∈ L) := fun i hi f hf h0 => (hL5.mem f).2 (.step ((hL5.mem i).1 hi) hf h0)
      have HFG : Hid (∀ W, Keep none_ w5 W → ∀ i, Calls Tryd.prog 20 #[.pointer (some ⟨B, 0, none⟩), .int .i64 i] W fun e w' => ∃ a cap, e = .returned (.slice a (fldP m R i).length cap) ∧ IntCells .i64 w' a (fldP m R i).length (fldP m R i) ∧ Keep none_ W w') :=
        fun W hW i => gfields_any (HS.out.still (HK5.out.trans hW)) (by have := HRl.out; omega) i
      have HFL : Hid (∀ i, (fldP m R i).length ≤ 100) := fun i => fld_len HGOOD.out i
      clear hk5 hL5 hc5 hab5
      obtain ⟨N, hN⟩ : ∃ N, N = L.length := ⟨_, rfl⟩
      rw [← hN] at hLl HIN HC5
      simp only [← hN]
      have HN := Lib.hid hN
      clear hN
      go_wp2_with fail
      go_loopg [11] N (fun g i wr => ∃ k : Nat, g + k = N ∧ i = .int .i64 k ∧ Hid (Keep none_ w5 wr))
      case atStart => exact ⟨0, by omega, rfl, Keep.refl _ _⟩
      case round =>
        obtain ⟨k2, hg2, rfl, HK6⟩ := hrel
        by_cases hlt2 : k2 < N
        · obtain ⟨g2, rfl⟩ : ∃ g2 : Nat, g2 = gk := ⟨_, rfl⟩
          obtain ⟨bi, oi, rfl, hci⟩ := (HC5.out.below HK6.out).at_ (by omega)
          have hcx := hci k2 hlt2
          have hxm : L.getD k2 0 ∈ L := by
            rw [List.getD_eq_getElem?_getD, List.getElem?_eq_getElem (by rw [← HN.out]; exact hlt2)]
            exact List.getElem_mem _
          have hlt2I : (k2 : Int) < (N : Int) := by omega
          have hk20 : (0 : Int) ≤ (k2 : Int) := by omega
          generalize L.getD k2 0 = x at *
          have HXM := Lib.hid hxm
          clear hxm hci
          go_wp2_with fail
          refine (HFG.out _ HK6.out x).mono ?_
          rintro e w7 ⟨af, cf, rfl, hf7, hk7⟩
          have HF7 := Lib.hid hf7
          have HK7 := Lib.hid (HK6.out.trans hk7)
          have HCX := Lib.hid (HCLO.out x HXM.out)
          have hfl := HFL.out x
          clear hf7 hk7 hcx
          generalize fldP m R x = fl at *
          go_wp2_with fail
          go_loopg [13] fl.length (fun g i wr => ∃ k : Nat, g + k = fl.length ∧ i = .int .i64 k ∧ w7 = wr)
          case atStart => exact ⟨0, by omega, rfl, rfl⟩
          case round =>
            obtain ⟨k3, hg3, rfl, rfl⟩ := hrel
            by_cases hlt3 : k3 < fl.length
            · obtain ⟨bf, of, rfl, hcf⟩ := HF7.out.at_ (by omega)
              have hcfx := hcf k3 hlt3
              have hfm : fl.getD k3 0 ∈ fl := by
                rw [List.getD_eq_getElem?_getD, List.getElem?_eq_getElem hlt3]
                exact List.getElem_mem _
              have hlt3I : (k3 : Int) < (fl.length : Int) := by omega
              have hk30 : (0 : Int) ≤ (k3 : Int) := by omega
              generalize fl.getD k3 0 = y at *
              have HYM := Lib.hid hfm
              clear hfm hcf
              by_cases hy : y = 0
              · subst hy
                go_wp2_with fail
                go_roundg (gk - 1)
                case measure => omega
                case rel => exact ⟨k3 + 1, by omega, by go_num, rfl⟩
              · have hy1 : (y == 0) = false := by simpa using hy
                have hy2 : (y != 0) = true := by simpa using hy
                have HYN := Lib.hid hy
                go_wp2_with (go_at_call 25; refine (HIN.out _ HK7.out y (HCX.out y HYM.out HYN.out)).mono ?_; rintro e w8 ⟨rfl, rfl⟩)
                go_roundg (gk - 1)
                case measure => omega
                case rel => exact ⟨k3 + 1, by omega, by go_num, rfl⟩
            · obtain rfl : fl.length = k3 := by omega
              go_wp2_with fail
              go_roundg (g2 - 1)
              case measure => omega
              case rel => exact ⟨k2 + 1, by omega, by go_num, HK7⟩
        · obtain rfl : N = k2 := by omega
          have HD6 := Lib.hid (HDW.out |> fun h => (HK5.out.trans HK6.out).blk h (fun f => f))
          have y0 := HD6.out.cell 0 rfl
          have y1 := HD6.out.cell 1 rfl
          go_wp2_with fail
          have h3 : GSt (fun i => (W3.heap.size ≤ i ∧ i < V.heap.size) ∨ wr.heap.size ≤ i) B ⟨q0, q1, m, r, n, q5, q6⟩ m R wr := (HS.out.there.still (HK5.out.trans HK6.out)).mono (fun i hi => .inl hi)
          refine (gdo_any h3 (fun i hi => .inr hi) (by have := HRl.out; omega) d0 ⟨6, d1, 0, 0⟩ (HTT.out.keep (HK.out.trans (HK5.out.trans HK6.out)))).mono ?_
          rintro e w7 ⟨rfl, hg7, hk7⟩
          have hl7 := (HGOOD.out.do_ d0 ⟨6, d1, 0, 0⟩).2
          have HDR := Lib.hid (fun x => reach_drop HGOOD.out d0 d1 (x := x))
          have HC7 : Hid (IntCells .i64 w7 ai N L) := (HC5.out.below HK6.out).keepS hk7 (fun b off e hb => by have := HAB.out b off e; omega)
          have HG7 := Lib.hid hg7
          have hsz := (HK.out.trans (HK5.out.trans HK6.out)).size
          have hszv := HK.out.size
          have hszw := (HK5.out.trans HK6.out).size
          have HK7 : Hid (Keep none_ W3 w7) := (HK.out.trans (HK5.out.trans HK6.out)).trans' hk7 (fun i hi h => by omega)
          have HL7 : Hid ((gDoP ⟨q0, q1, m, r, n, q5, q6⟩ m R d0 ⟨6, d1, 0, 0⟩).1.length ≤ 101) := by have := HRl.out; unfold Hid; omega
          clear h3 hg7 hk7 hl7 hsz hszv hszw y0 y1
          generalize gDoP ⟨q0, q1, m, r, n, q5, q6⟩ m R d0 ⟨6, d1, 0, 0⟩ = pr at *
          obtain ⟨R', v, f⟩ := pr
          go_wp2_with fail
          refine (greach_any HG7.out (by omega) (Nat.le_trans HL7.out (by decide))).mono ?_
          rintro e w8 ⟨a8, c8, L8, rfl, hc8, hL8, hab8, hk8⟩
          have HC8 := Lib.hid hc8
          have HK8 := Lib.hid hk8
          have hL8l : L8.length ≤ 1001 := hL8.len
          have HIN8 : Hid (∀ f : Int, f ∈ L8 → Calls Tryd.prog 25 #[.slice ai N ci, .int .i64 f] w8 fun e w' => e = .returned (.bool true) ∧ w8 = w') := fun f hf =>
            in_is (HC7.out.below hk8) (by omega) (inL_true.2 ((HL5.out.mem f).2 (HDR.out f ((hL8.mem f).1 hf))))
          clear hc8 hL8 hab8 hk8
          go_wp2_with fail
          go_loopg [15] L8.length (fun g i wr => ∃ k : Nat, g + k = L8.length ∧ i = .int .i64 k ∧ w8 = wr)
          case atStart => exact ⟨0, by omega, rfl, rfl⟩
          case round =>
            obtain ⟨k9, hg9, rfl, rfl⟩ := hrel
            by_cases hlt9 : k9 < L8.length
            · obtain ⟨b9, o9, rfl, hc9⟩ := HC8.out.at_ (by omega)
              have hcx9 := hc9 k9 hlt9
              have hxm9 : L8.getD k9 0 ∈ L8 := by
                rw [List.getD_eq_getElem?_getD, List.getElem?_eq_getElem hlt9]
                exact List.getElem_mem _
              have hlt9I : (k9 : Int) < (L8.length : Int) := by omega
              have hk90 : (0 : Int) ≤ (k9 : Int) := by omega
              generalize L8.getD k9 0 = x at *
              have HXM := Lib.hid hxm9
              clear hxm9 hc9
              go_wp2_with (go_at_call 25; refine (HIN8.out x HXM.out).mono ?_; rintro e w9 ⟨rfl, rfl⟩)
              go_roundg (gk - 1)
              case measure => omega
              case rel => exact ⟨k9 + 1, by omega, by go_num, rfl⟩
            · obtain rfl : L8.length = k9 := by omega
              go_wp2_with fail
              go_ret
              exact ⟨rfl, HK3.out.trans (HK7.out.trans HK8.out)⟩
end Go.Proofs.YtdplakfmdkjfdaaDoor
