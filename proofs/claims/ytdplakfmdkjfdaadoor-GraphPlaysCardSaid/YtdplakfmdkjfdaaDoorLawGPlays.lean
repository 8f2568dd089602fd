/- The walk of GraphPlays. -/
import Derived.Test.YtdplakfmdkjfdaaDoorGDuo
import Derived.Test.YtdplakfmdkjfdaaDoorStillMid
import Derived.Deep.QuietTactic
import Derived.BigQuiet
import Derived.Deep.RegionHeld3
namespace Go.Proofs.YtdplakfmdkjfdaaDoor
open Go.RowKit Go.Sort

theorem same_true {a b : Option Addr} {n c d : Nat} {xs : List Int} {w : World} (hx : IntCells .i64 w a n xs) (hy : IntCells .i64 w b n xs) (hn : n ≤ 2000) :
    Calls Tryd.prog 23 #[.slice a n c, .slice b n d] w fun e w' => e = .returned (.bool true) ∧ Keep none_ w w' := by
  have h := same_any a b n n c d xs xs w hx hy (by omega) (by omega)
  rw [beq_self_eq_true] at h
  exact h

set_option maxRecDepth 4000 in
set_option maxHeartbeats 8000000 in
theorem graphPlays_any (z0 : List Value) (a1 : Option Addr) (n1 c1 : Nat) (z1 : List (List Value)) (w : World) (h0 : FlatOk [.int .i64, .int .i64, .int .i64, .int .i64, .int .i64, .int .i64, .int .i64] z0)
    (h1 : Flats [.int .i64, .int .i64, .int .i64, .int .i64, .int .i64] w a1 n1 z1) (hm1 : n1 ≤ maxLen) (hL : laidMetH Tryd.prog Rows.graphPlaysRow.laid w) :
    Calls Tryd.prog 7 #[.agg z0.toArray, .slice a1 n1 c1] w fun e w' => e = .returned (.bool true) ∧ Keep none_ w w' := by
  unfold maxLen at hm1
  have HT := Lib.hid (tabs_of hL)
  clear hL
  obtain ⟨c, rfl, -⟩ := conf_of h0
  obtain ⟨l, rfl, -⟩ := list_of (f := DeedR.cells) (P := fun _ => True) (fun r h => deed_of h) z1 h1.ok
  have HR := Lib.hid (RecAt.ofFlats h1)
  clear h0 h1
  obtain ⟨W0, hW0⟩ : ∃ W', W' = w.alloc (.cells c.cells.toArray 23) := ⟨_, rfl⟩
  have HK0 : Hid (Keep none_ w W0) := by rw [hW0]; exact (Keep.refl _ _).alloc _
  have HC0 : Hid (Blk W0 w.heap.size c.cells 23) := by rw [hW0]; exact Blk.new w _ _
  go_enter Tryd.func7, Tryd.ntmps7
  simp only [Conf.cells] at hW0
  simp only [Conf.cells]
  go_wp2_with fail
  rw [← hW0]
  obtain ⟨C, hC⟩ : ∃ C, C = w.heap.size := ⟨_, rfl⟩
  rw [← hC]
  have HCC := Lib.hid hC
  rw [← hC] at HC0
  clear hW0 hC
  refine (little_any c W0).mono ?_
  rintro e W1 ⟨rfl, hk1⟩
  have HK1 := Lib.hid (HK0.out.trans hk1)
  have HC1 := Lib.hid (hk1.blk HC0.out (fun f => f))
  clear hk1 HK0 HC0
  have z0 := HC1.out.free 0; have z1 := HC1.out.free 1; have z2 := HC1.out.free 2; have z3 := HC1.out.free 3; have z4 := HC1.out.free 4; have z5 := HC1.out.free 5; have z6 := HC1.out.free 6
  have y0 := HC1.out.cell 0 rfl; have y1 := HC1.out.cell 1 rfl; have y2 := HC1.out.cell 2 rfl; have y3 := HC1.out.cell 3 rfl; have y4 := HC1.out.cell 4 rfl; have y5 := HC1.out.cell 5 rfl; have y6 := HC1.out.cell 6 rfl
  obtain ⟨q, hq⟩ : ∃ q, q = c.little := ⟨_, rfl⟩
  rw [← hq]
  have HOK : Hid (q.ok = true) := by rw [hq]; exact little_ok c
  have HNUM := Lib.hid (little_nums c)
  rw [← hq] at HNUM
  clear hq
  obtain ⟨q0, q1, q2, q3, q4, q5, q6⟩ := q
  simp only [Conf.cells]
  obtain ⟨W2, hW2, hC2, hk2⟩ := conf_put HC1.out q0 q1 q2 q3 q4 q5 q6
  have HC2 := Lib.hid hC2
  have HK2 : Hid (Keep none_ w W2) := HK1.out.onNew hk2 (by rw [HCC.out]; exact Nat.le_refl _)
  by_cases hbig : 80 < n1
  · go_wp2_with fail
    rw [← hW2]
    refine (awake18_any W2 (HT.out.keep HK2.out)).mono ?_
    rintro e W3 ⟨rfl, hk3⟩
    clear hW2 hC2 hk2 y0 y1 y2 y3 y4 y5 y6 z0 z1 z2 z3 z4 z5 z6
    have HK3 := Lib.hid (HK2.out.trans hk3)
    clear hk3
    go_wp2_with fail
    go_ret
    exact ⟨rfl, HK3.out⟩
  have d80 : decide (80 < (n1 : Int)) = false := decide_eq_false (by omega)
  go_wp2_with fail
  rw [← hW2]
  refine (awake18_any W2 (HT.out.keep HK2.out)).mono ?_
  rintro e W3 ⟨rfl, hk3⟩
  clear hW2 hC2 hk2 y0 y1 y2 y3 y4 y5 y6 z0 z1 z2 z3 z4 z5 z6
  have HK3 := Lib.hid (HK2.out.trans hk3)
  have HC3 := Lib.hid (hk3.blk HC2.out (fun f => f))
  clear hk3 HK2 HC2 HK1 HC1
  have y0 := HC3.out.cell 0 rfl; have y1 := HC3.out.cell 1 rfl; have y2 := HC3.out.cell 2 rfl; have y3 := HC3.out.cell 3 rfl; have y4 := HC3.out.cell 4 rfl; have y5 := HC3.out.cell 5 rfl; have y6 := HC3.out.cell 6 rfl
  go_wp2_with fail
  obtain ⟨m, r, n, hm, hr, hn, m1, m4, r1, r5, n3⟩ := HNUM.out
  refine (gnew_any ⟨q0, q1, q2, q3, q4, q5, q6⟩ W3 (HT.out.keep HK3.out) HOK.out m r n hm hr hn).mono ?_
  rintro e W4 ⟨B, rfl, hg, hk4⟩
  obtain rfl : q2 = (m : Int) := hm
  obtain rfl : q3 = (r : Int) := hr
  obtain rfl : q4 = (n : Int) := hn
  have HTT := Lib.hid (HT.out.keep HK3.out)
  have HRR := Lib.hid (HR.out.below HK3.out)
  have HL : Hid (l.length = n1) := by have := HR.out.len; simpa [Hid] using this
  have HKC4 := Lib.hid (hk4.blk HC3.out (fun f => f))
  have HG4 := Lib.hid hg
  have HK4 := Lib.hid hk4
  clear hg hk4 HT HR y0 y1 y2 y3 y4 y5 y6
  have y0 := HKC4.out.cell 0 rfl; have y1 := HKC4.out.cell 1 rfl; have y2 := HKC4.out.cell 2 rfl; have y3 := HKC4.out.cell 3 rfl; have y4 := HKC4.out.cell 4 rfl; have y5 := HKC4.out.cell 5 rfl; have y6 := HKC4.out.cell 6 rfl
  go_wp2_with fail
  obtain ⟨B2, hB2⟩ : ∃ B2, W4.heap.size = B2 := ⟨_, rfl⟩
  obtain ⟨W5, hW5⟩ : ∃ W5, W5 = W4.alloc (.cells #[.int .i64 q0, .int .i64 q1, .int .i64 m, .int .i64 r, .int .i64 n, .int .i64 q5, .int .i64 q6, .slice none 0 0, .slice none 0 0] 54) := ⟨_, rfl⟩
  rw [← hW5, hB2]
  have HD0 : Hid (Duo W3 B B2 ⟨q0, q1, m, r, n, q5, q6⟩ m 0 W5) := Duo.start HG4.out HK4.out hW5 hB2
  clear y0 y1 y2 y3 y4 y5 y6 hB2 hW5 HKC4 HG4 HK4
  go_loopg [8] n1 (fun g i wr => ∃ k : Nat, g + k = n1 ∧ i = .int .i64 k ∧ Hid (Duo W3 B B2 ⟨q0, q1, m, r, n, q5, q6⟩ m k wr))
  case atStart => exact ⟨0, by omega, rfl, HD0⟩
  case round =>
    clear HD0
    obtain ⟨k, hg, rfl, HD⟩ := hrel
    by_cases hlt : k < n1
    · obtain ⟨b, off, rfl, d', hd, g0, g1, g2, g3, g4⟩ := deedCells (HRR.out.below HD.out.keep) k hlt
      obtain ⟨mi, ⟨ok, oa, ob, oc⟩⟩ := d'
      have HDE := Lib.hid hd
      clear hd
      simp only at g0 g1 g2 g3 g4
      have hltI : (k : Int) < (n1 : Int) := by omega
      have hk0 : (0 : Int) ≤ (k : Int) := by omega
      have HNX := Lib.hid (HD.out.do_ (by omega) rfl HTT.out mi ⟨ok, oa, ob, oc⟩)
      go_wp2_with fail
      refine wp_region_still_mid 11 rfl (by kernel_rfl) (by kernel_rfl) (fun K hK => ?_)
      change wpStill _ _ (World.drew _) _ _ _
      simp only [List.take_succ_cons, List.take_zero, List.drop_succ_cons, List.drop_zero] at hK ⊢
      repeat still_step
      refine wpStill_nil ?_
      change ite _ (Oper.wp _ _ _ wr.drew _ _) _
      go_simp
      refine HNX.out.mono ?_
      rintro e w6 ⟨v1, v2, rfl, hk6, hnext⟩
      refine hK _ _ ?_
      clear hK K g0 g1 g2 g3 g4 HNX
      have HK6 := Lib.hid hk6
      have HNX := Lib.hid hnext
      clear hk6 hnext
      repeat still_step
      refine wpStill_nil ?_
      obtain ⟨b', off', e', d2, hd2, g0, g1, g2, g3, g4⟩ := deedCells (HRR.out.below HK6.out) k hlt
      cases e'
      rw [HDE.out] at hd2
      cases hd2
      simp only at g0 g1 g2 g3 g4
      go_wp2_with fail
      refine wp_region_still_mid 11 rfl (by kernel_rfl) (by kernel_rfl) (fun K hK => ?_)
      change wpStill _ _ (World.drew _) _ _ _
      simp only [List.take_succ_cons, List.take_zero, List.drop_succ_cons, List.drop_zero] at hK ⊢
      repeat still_step
      refine wpStill_nil ?_
      change ite _ (Oper.wp _ _ _ w6.drew _ _) _
      go_simp
      refine HNX.out.mono ?_
      rintro e w7 ⟨rfl, hd7⟩
      refine hK _ _ ?_
      clear hK K g0 g1 g2 g3 g4 HNX
      have HD7 := Lib.hid hd7
      clear hd7
      repeat still_step
      refine wpStill_nil ?_
      go_wp2_with fail
      go_roundg (gk - 1)
      case measure => omega
      case rel => exact ⟨k + 1, by omega, by go_num, HD7⟩
    · obtain rfl : k = n1 := by omega
      clear hg
      obtain ⟨V, rfl⟩ : ∃ V : World, V = wr := ⟨_, rfl⟩
      obtain ⟨⟨R, S, L, vs, vl, Fg, Fr, hG, hR, -, -, -, hrel, hRl, hLl⟩, hkeep⟩ := HD.out
      have hm1' : R.length ≤ 1000 := by omega
      have hml : m ≤ 1000 := by omega
      have hgood := hG.good
      have hcnt := hrel.cnt
      have hSl : S.length ≤ 100 := by rw [hcnt]; unfold cntP; omega
      obtain ⟨sa, caps, hvs, hcs, -⟩ := hR.sizes
      have y7 := hR.blk.cell 7 rfl
      rw [hvs] at y7
      have HRT := rootsR_eq hrel hgood
      obtain ⟨N, hN⟩ : ∃ N, N = S.length := ⟨_, rfl⟩
      have HCT : Hid (∀ W, Keep none_ V W → Calls Tryd.prog 21 #[.pointer (some ⟨B, 0, none⟩)] W fun e w' => e = .returned (.int .i64 (N : Int)) ∧ W = w') := fun W hW => by
        rw [hN, hcnt]; exact (gcount_any (hG.still hW)).mono (fun _ _ h => And.intro h.1 h.2.symm)
      have HREG : Hid (∀ W, Keep none_ V W → ∀ a b, Calls Tryd.prog 19 #[.pointer (some ⟨B, 0, none⟩), .int .i64 a, .int .i64 b] W fun e w' => e = .returned (.int .i64 (regP m R a b)) ∧ W = w') := fun W hW a b =>
        (greg_any (hG.still hW) a b).mono (fun _ _ h => And.intro h.1 h.2.symm)
      have HCEL : Hid (∀ W, Keep none_ V W → ∀ a, Calls Tryd.prog 22 #[.pointer (some ⟨B, 0, none⟩), .int .i64 a] W fun e w' => e = .returned (.int .i64 (cellP m R a)) ∧ W = w') := fun W hW a =>
        (gcell_any (hG.still hW) a).mono (fun _ _ h => And.intro h.1 h.2.symm)
      have HATR : Hid (∀ W, Keep none_ V W → ∀ a b, Calls Tryd.prog 30 #[.pointer (some ⟨B2, 0, none⟩), .int .i64 1, .int .i64 a, .int .i64 b] W fun e w' => e = .returned (.int .i64 (regP m R a b)) ∧ W = w') := fun W hW a b => by
        rw [← rel_reg hrel]; exact (rAt_any (hR.still hW) (by omega) 1 a b).mono (fun _ _ h => And.intro h.1 h.2.symm)
      have HATC : Hid (∀ W, Keep none_ V W → ∀ b, Calls Tryd.prog 30 #[.pointer (some ⟨B2, 0, none⟩), .int .i64 2, .int .i64 0, .int .i64 b] W fun e w' => e = .returned (.int .i64 (cellP m R b)) ∧ W = w') := fun W hW b => by
        rw [← rel_cell hrel]; exact (rAt_any (hR.still hW) (by omega) 2 0 b).mono (fun _ _ h => And.intro h.1 h.2.symm)
      have HATF : Hid (∀ W, Keep none_ V W → ∀ (a : Int) (b : Nat), Calls Tryd.prog 30 #[.pointer (some ⟨B2, 0, none⟩), .int .i64 3, .int .i64 a, .int .i64 (b : Int)] W fun e w' => e = .returned (.int .i64 ((fldP m R a).getD b 0)) ∧ w' = W) := fun W hW a b => by
        rw [← rel_fld hrel]; exact rAt_any (hR.still hW) (by omega) 3 a b
      have HFG : Hid (∀ W, Keep none_ V W → ∀ i, Calls Tryd.prog 20 #[.pointer (some ⟨B, 0, none⟩), .int .i64 i] W fun e w' => ∃ a cap, e = .returned (.slice a (fldP m R i).length cap) ∧ IntCells .i64 w' a (fldP m R i).length (fldP m R i) ∧ Keep none_ W w') :=
        fun W hW i => gfields_any (hG.still hW) hm1' i
      have HFL : Hid (∀ i, (fldP m R i).length ≤ 100) := fun i => fld_len hgood i
      obtain ⟨K1, hK1⟩ : ∃ K1, K1 = rootsL m R := ⟨_, rfl⟩
      have HK1L : Hid (K1.length ≤ 1000) := by rw [hK1, ← HRT]; have := ids_filter_len (rootOf L) S.length; unfold Hid rootsR; omega
      have HROOT : Hid (∀ W, Keep none_ V W → Calls Tryd.prog 27 #[.pointer (some ⟨B, 0, none⟩)] W fun e w' => ∃ a cap, e = .returned (.slice a K1.length cap) ∧ IntCells .i64 w' a K1.length K1 ∧ Keep none_ W w') := fun W hW =>
        (roots_any (hG.still hW) hml).mono (fun e w' ⟨v, h1, h2, h3⟩ => by
          obtain ⟨a, cap, rfl, h4⟩ := own_cells h2
          rw [hK1]
          exact ⟨a, cap, h1, h4, h3⟩)
      have HRROOT : Hid (∀ W, Keep none_ V W → Calls Tryd.prog 28 #[.pointer (some ⟨B2, 0, none⟩)] W fun e w' => ∃ a cap, e = .returned (.slice a K1.length cap) ∧ IntCells .i64 w' a K1.length K1 ∧ Keep none_ W w') := fun W hW =>
        (rRoots_any (hR.still hW) (by omega) (by omega)).mono (fun e w' ⟨v, h1, h2, h3⟩ => by
          obtain ⟨a, cap, rfl, h4⟩ := own_cells h2
          rw [HRT] at h1 h4
          rw [hK1]
          exact ⟨a, cap, h1, h4, h3⟩)
      have HREACH : Hid (∀ W, Keep none_ V W → Calls Tryd.prog 24 #[.pointer (some ⟨B, 0, none⟩)] W fun e w' => ∃ (a : Option Addr) (cap : Nat) (K : List Int), e = .returned (.slice a K.length cap) ∧ IntCells .i64 w' a K.length K ∧ IsReach m R K ∧ Keep none_ W w') := fun W hW =>
        (greach_any (hG.still hW) hml hm1').mono (fun e w' ⟨a, cap, K, h1, h2, h3, _, h4⟩ => ⟨a, cap, K, h1, h2, h3, h4⟩)
      have HRREACH : Hid (∀ W, Keep none_ V W → Calls Tryd.prog 29 #[.pointer (some ⟨B2, 0, none⟩)] W fun e w' => ∃ (a : Option Addr) (cap : Nat) (K : List Int), e = .returned (.slice a K.length cap) ∧ IntCells .i64 w' a K.length K ∧ IsReach m R K ∧ Keep none_ W w') := fun W hW =>
        rReach_any (hR.still hW) hrel hgood (by omega) (by omega)
      have HSZ : Hid (∀ p, p < N → S.getD p 0 = ((fldP m R ((p : Int) + 1)).length : Int)) := fun p hp => rel_size hrel hgood (by omega)
      have HOV : Hid (fldP m R ((N : Int) + 1) = []) := fld_over (by omega)
      have HCS := Lib.hid hcs
      have HCV := Lib.hid (hkeep.blk HC3.out (fun f => f))
      have HKV := Lib.hid hkeep
      rw [← hN] at y7 HCS hSl
      clear hG hR hrel hRl hLl hkeep hm1' hml hgood hcnt hvs hcs HRT hN hK1 HD HC3 HRR HTT
      go_wp2_with fail
      have hkv : Keep none_ V V.drew := (Keep.refl _ _).drew
      have hk1l : K1.length ≤ 1000 := HK1L.out
      go_region_held3 (fun w' => Keep none_ V w' ∧ w'.cell? ⟨B2, 7, none⟩ = some (.slice sa N caps))
        (first | exact ⟨hkv, hkv.still y7⟩ | fail "SFAIL")
        (first
          | (go_at_call 21
             refine (HCT.out _ hkv).mono ?_
             rintro e w9 ⟨rfl, rfl⟩)
          | (go_at_call 27
             refine (HROOT.out _ hkv).mono ?_
             rintro e w9 ⟨ra, rc, rfl, hra, hk9⟩
             have HRA := Lib.hid hra
             have hkv := hkv.trans hk9
             clear hra hk9)
          | (go_at_call 28
             refine (HRROOT.out _ hkv).mono ?_
             rintro e w9 ⟨rb, rd, rfl, hrb, hk9⟩
             have HSM := Lib.hid (same_true (c := rc) (d := rd) (HRA.out.below hk9) hrb (by omega))
             have hkv := hkv.trans hk9
             clear hrb hk9)
          | (go_at_call 24
             refine (HREACH.out _ hkv).mono ?_
             rintro e w9 ⟨xa, xc, K, rfl, hxa, hK, hk9⟩
             have HXA := Lib.hid hxa
             have HKK := Lib.hid hK
             have hkv := hkv.trans hk9
             clear hxa hK hk9)
          | (go_at_call 29
             refine (HRREACH.out _ hkv).mono ?_
             rintro e w9 ⟨xb, xd, K', rfl, hxb, hK', hk9⟩
             obtain rfl := hK'.eq HKK.out
             have HSM := Lib.hid (same_true (c := xc) (d := xd) (HXA.out.below hk9) hxb (by have := hK'.len; omega))
             have hkv := hkv.trans hk9
             clear hxb hK' hk9)
          | (go_at_call 23
             refine HSM.out.mono ?_
             rintro e w9 ⟨rfl, hk9⟩
             have hkv := hkv.trans hk9
             clear hk9))
      have HK9 := Lib.hid hkv
      have y7' := hkv.still y7
      have y2 := (hkv.blk HCV.out (fun f => f)).cell 2 rfl
      have y3 := (hkv.blk HCV.out (fun f => f)).cell 3 rfl
      have y4 := (hkv.blk HCV.out (fun f => f)).cell 4 rfl
      obtain ⟨V9, rfl⟩ : ∃ V9 : World, V9 = w9 := ⟨_, rfl⟩
      clear hkv y7
      go_wp2_with fail
      go_loopg [13] (m + 2) (fun g i wr => ∃ z : Nat, g + z = m + 2 ∧ i = .int .i64 ((z : Int) - 1) ∧ V9 = wr)
      case atStart => exact ⟨0, by omega, rfl, rfl⟩
      case round =>
        obtain ⟨z, hg1, rfl, rfl⟩ := hrel
        obtain ⟨g1, rfl⟩ : ∃ g1 : Nat, g1 = gk := ⟨_, rfl⟩
        by_cases hz : z ≤ m + 1
        · have hzI : (z : Int) - 1 ≤ (m : Int) := by omega
          go_wp2_with fail
          go_loopg [14] (r + 2) (fun g i wr => ∃ x : Nat, g + x = r + 2 ∧ i = .int .i64 ((x : Int) - 1) ∧ V9 = wr)
          case atStart => exact ⟨0, by omega, rfl, rfl⟩
          case round =>
            obtain ⟨x, hg2, rfl, rfl⟩ := hrel
            by_cases hx : x ≤ r + 1
            · have hxI : (x : Int) - 1 ≤ (r : Int) := by omega
              go_wp2_with (first | (go_at_call 19; refine (HREG.out _ HK9.out _ _).mono ?_; rintro e w1 ⟨rfl, rfl⟩) | (go_at_call 30; refine (HATR.out _ HK9.out _ _).mono ?_; rintro e w1 ⟨rfl, rfl⟩))
              go_roundg (gk - 1)
              case measure => omega
              case rel => exact ⟨x + 1, by omega, by go_num, rfl⟩
            · have hxI : ¬ ((x : Int) - 1 ≤ (r : Int)) := by omega
              have dx : decide ((x : Int) - 1 ≤ (r : Int)) = false := decide_eq_false hxI
              clear hxI
              go_wp2_with fail
              go_roundg (g1 - 1)
              case measure => omega
              case rel => exact ⟨z + 1, by omega, by go_num, rfl⟩
        · have dz : decide ((z : Int) - 1 ≤ (m : Int)) = false := decide_eq_false (by omega)
          clear hg1
          go_wp2_with fail
          go_loopg [15] (n + 2) (fun g i wr => ∃ z : Nat, g + z = n + 2 ∧ i = .int .i64 ((z : Int) - 1) ∧ V9 = wr)
          case atStart => exact ⟨0, by omega, rfl, rfl⟩
          case round =>
            obtain ⟨z, hg1, rfl, rfl⟩ := hrel
            by_cases hz : z ≤ n + 1
            · have hzI : (z : Int) - 1 ≤ (n : Int) := by omega
              go_wp2_with (first | (go_at_call 22; refine (HCEL.out _ HK9.out _).mono ?_; rintro e w1 ⟨rfl, rfl⟩) | (go_at_call 30; refine (HATC.out _ HK9.out _).mono ?_; rintro e w1 ⟨rfl, rfl⟩))
              go_roundg (gk - 1)
              case measure => omega
              case rel => exact ⟨z + 1, by omega, by go_num, rfl⟩
            · have dz' : decide ((z : Int) - 1 ≤ (n : Int)) = false := decide_eq_false (by omega)
              clear hg1
              go_wp2_with fail
              clear y2 y3 y4
              go_loopg [16] N (fun g i wr => ∃ p : Nat, g + p = N ∧ i = .int .i64 ((p : Int) + 1) ∧ Hid (Keep none_ V9 wr))
              case atStart => exact ⟨0, by omega, rfl, Keep.refl _ _⟩
              case round =>
                obtain ⟨p, hg1, rfl, HKP⟩ := hrel
                obtain ⟨g1, rfl⟩ : ∃ g1 : Nat, g1 = gk := ⟨_, rfl⟩
                have y7p := HKP.out.still y7'
                by_cases hp : p < N
                · have hpI : (p : Int) + 1 ≤ (N : Int) := by omega
                  have hpJ : (p : Int) < (N : Int) := by omega
                  have hp0 : (0 : Int) ≤ (p : Int) := by omega
                  obtain ⟨sb, so, rfl, hci⟩ := (HCS.out.below (HK9.out.trans HKP.out)).at_ (by omega)
                  have hcp := hci p hp
                  rw [HSZ.out p hp] at hcp
                  have HATX := Lib.hid (fun W hW b => HATF.out W hW ((p : Int) + 1) b)
                  have HFP := Lib.hid (HFG.out wr (HK9.out.trans HKP.out) ((p : Int) + 1))
                  have hfl := HFL.out ((p : Int) + 1)
                  clear hci
                  obtain ⟨fl, hfle⟩ : ∃ fl, fl = fldP m R ((p : Int) + 1) := ⟨_, rfl⟩
                  rw [← hfle] at hcp HATX HFP hfl
                  clear hfle
                  go_wp2_with (go_at_call 20; refine HFP.out.mono ?_; rintro e w8 ⟨af, cf, rfl, hf8, hk8⟩; have HF8 := Lib.hid hf8; have HK8 := Lib.hid (HKP.out.trans hk8); have y78 := hk8.still y7p; have hcp8 := hk8.still hcp; clear hf8 hk8)
                  clear y7p hcp y78 hcp8
                  go_loopg [18] fl.length (fun g i wr => ∃ q : Nat, g + q = fl.length ∧ i = .int .i64 q ∧ Hid (Keep none_ w8 wr))
                  case atStart => exact ⟨0, by omega, rfl, Keep.refl _ _⟩
                  case round =>
                    obtain ⟨q, hg2, rfl, HKQ⟩ := hrel
                    by_cases hq : q < fl.length
                    · have hqI : (q : Int) < (fl.length : Int) := by omega
                      have hq0 : (0 : Int) ≤ (q : Int) := by omega
                      obtain ⟨bf, of, rfl, hcf⟩ := (HF8.out.below HKQ.out).at_ (by omega)
                      have hcq := hcf q hq
                      have HATQ : Hid (∀ n, Calls Tryd.prog 30 #[.pointer (some ⟨B2, 0, none⟩), .int .i64 3, .int .i64 ((p : Int) + 1), .int .i64 (q : Int)] (wr.drewN n) fun e w' => e = .returned (.int .i64 (fl.getD q 0)) ∧ w' = wr.drewN n) := fun n => HATX.out _ (((HK9.out.trans HK8.out).trans HKQ.out).drewN n) q
                      generalize fl.getD q 0 = fx at *
                      clear hcf
                      go_wp2_with fail
                      go_quiet (first | (go_at_call 30; exact Calls.quiet_of_same (HATQ.out _)))
                      go_wp2_with fail
                      go_roundg (gk - 1)
                      case measure => omega
                      case rel => exact ⟨q + 1, by omega, by go_num, HKQ.out.drewN _⟩
                    · obtain rfl : fl.length = q := by omega
                      go_wp2_with fail
                      go_roundg (g1 - 1)
                      case measure => omega
                      case rel => exact ⟨p + 1, by omega, by go_num, HK8.out.trans HKQ.out⟩
                · obtain rfl : p = N := by omega
                  have dp : decide ((p : Int) + 1 ≤ (p : Int)) = false := decide_eq_false (by omega)
                  have hf0 : fldP m R 0 = [] := fld_none
                  have hf1 : fldP m R ((p : Int) + 1) = [] := HOV.out
                  have hkF := HK9.out.trans HKP.out
                  have hpn : (0 : Int) ≤ (p : Int) := by omega
                  have hpn2 : (p : Int) ≤ 100 := by omega
                  go_wp2_with (go_at_call 20; refine (HFG.out _ hkF _).mono ?_; rintro e wz ⟨az, cz, rfl, hz, hkz⟩; have y7p := hkz.still y7p; have hkF := hkF.trans hkz; clear hz hkz)
                  go_ret
                  exact ⟨rfl, HK3.out.trans (HKV.out.trans hkF)⟩
end Go.Proofs.YtdplakfmdkjfdaaDoor
