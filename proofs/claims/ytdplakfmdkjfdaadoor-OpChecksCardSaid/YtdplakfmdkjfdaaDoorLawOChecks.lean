/- The walk of OpChecks. -/
import Derived.Test.YtdplakfmdkjfdaaDoorLawORegs
import Derived.Test.YtdplakfmdkjfdaaDoorRCheck
import Derived.Test.YtdplakfmdkjfdaaDoorRecAt
import Derived.Test.YtdplakfmdkjfdaaDoorGAct
import Derived.Test.YtdplakfmdkjfdaaDoorStillMid
import Derived.Deep.LoopGhost
namespace Go.Proofs.YtdplakfmdkjfdaaDoor
open Go.RowKit Go.Sort

/-- The first of some operations that is wrong, from the i-th on, and what is wrong. -/
def fb (c : Conf) : List OpR → Nat → Int × Int
  | [], _ => (0, 0)
  | o :: l, i => if chk c o = 0 then fb c l (i + 1) else ((i : Int), chk c o)
theorem fb_at (c : Conf) : ∀ (l : List OpR) (i k : Nat) (o : OpR), l[k]? = some o → (∀ j x, j < k → l[j]? = some x → chk c x = 0) → chk c o ≠ 0 → fb c l i = (((i + k : Nat) : Int), chk c o)
  | [], i, k, o, h, _, _ => by simp at h
  | x :: l, i, k, o, h, hall, ho => by
    unfold fb
    cases k with
    | zero =>
      simp at h
      subst h
      rw [if_neg ho]
      rfl
    | succ k =>
      rw [if_pos (hall 0 x (by omega) rfl), fb_at c l (i + 1) k o (by simpa using h) (fun j y hj hy => hall (j + 1) y (by omega) (by simpa using hy)) ho]
      congr 2
      omega
theorem fb_none (c : Conf) : ∀ (l : List OpR) (i : Nat), (∀ x ∈ l, chk c x = 0) → fb c l i = (0, 0)
  | [], _, _ => rfl
  | x :: l, i, h => by
    unfold fb
    rw [if_pos (h x (by simp)), fb_none c l (i + 1) (fun y hy => h y (by simp [hy]))]

theorem opCells {w : World} {a : Option Addr} {n : Nat} {l : List OpR} (h : RecAt w a n 4 (l.map OpR.cells)) (i : Nat) (hi : i < n) : ∃ b off, a = some ⟨b, off, none⟩ ∧ ∃ o : OpR, l[i]? = some o ∧ w.cell? ⟨b, off + i * 4, none⟩ = some (.int .i64 o.k) ∧ w.cell? ⟨b, off + i * 4 + 1, none⟩ = some (.int .i64 o.a) ∧ w.cell? ⟨b, off + i * 4 + 2, none⟩ = some (.int .i64 o.b) ∧ w.cell? ⟨b, off + i * 4 + 3, none⟩ = some (.int .i64 o.c) := by
  obtain ⟨b, off, e, hc⟩ := h.at_ (by omega)
  have hl := h.len
  simp at hl
  have h1 : l[i]? = some (l[i]'(by omega)) := List.getElem?_eq_getElem _
  have h2 := hc i (l[i]'(by omega)).cells (by simp [h1])
  exact ⟨b, off, e, _, h1, h2 0 _ rfl, h2 1 _ rfl, h2 2 _ rfl, h2 3 _ rfl⟩

set_option maxRecDepth 4000 in
set_option maxHeartbeats 4000000 in
theorem opRight_any (c : Conf) (a : Option Addr) (n cc : Nat) (l : List OpR) (w : World) (h : RecAt w a n 4 (l.map OpR.cells)) (hn : n ≤ 1000000) (hT : Tabs w) :
    Calls Tryd.prog 36 #[.agg c.cells.toArray, .slice a n cc] w fun e w' => e = .returned (.tuple #[.int .i64 (fb c l 0).1, .int .i64 (fb c l 0).2]) ∧ Keep none_ w w' := by
  obtain ⟨W0, hW0⟩ : ∃ W', W' = w.alloc (.cells c.cells.toArray 23) := ⟨_, rfl⟩
  have HK0 : Hid (Keep none_ w W0) := by rw [hW0]; exact (Keep.refl _ _).alloc _
  have HC0 : Hid (Blk W0 w.heap.size c.cells 23) := by rw [hW0]; exact Blk.new w _ _
  have HR := Lib.hid h
  have HL : Hid (l.length = n) := by have := h.len; simpa [Hid] using this
  have HCK := Lib.hid (fun o W (hk : Keep none_ w W) => check_any c o W (hT.keep hk))
  clear h hT
  obtain ⟨c0, c1, c2, c3, c4, c5, c6⟩ := c
  obtain ⟨z1, hz1⟩ : ∃ z, z = fb ⟨c0, c1, c2, c3, c4, c5, c6⟩ l 0 := ⟨_, rfl⟩
  rw [← hz1]
  have HZ := Lib.hid hz1
  clear hz1
  simp only [Conf.cells] at HC0 hW0 HCK ⊢
  go_enter Tryd.func36, Tryd.ntmps36
  go_wp2_with fail
  rw [← hW0]
  clear hW0
  generalize w.heap.size = C at *
  go_loopg [11] n (fun g i wr => ∃ k : Nat, g + k = n ∧ i = .int .i64 k ∧ Hid (∀ j x, j < k → l[j]? = some x → chk ⟨c0, c1, c2, c3, c4, c5, c6⟩ x = 0) ∧ Hid (Keep none_ W0 wr))
  case atStart => exact ⟨0, by omega, rfl, fun j x hj => absurd hj (by omega), Keep.refl _ _⟩
  case round =>
    obtain ⟨k, hg, rfl, HN, HK⟩ := hrel
    by_cases hlt : k < n
    · have hk9 := HK0.out.trans HK.out
      obtain ⟨b, off, rfl, o, ho, g0, g1, g2, g3⟩ := opCells (HR.out.below hk9) k hlt
      have HO := Lib.hid ho
      have HKT := Lib.hid hk9
      obtain ⟨ok, oa, ob, oc⟩ := o
      simp only at g0 g1 g2 g3
      have hC := HK.out.blk HC0.out (fun f => f)
      have y0 := hC.cell 0 rfl; have y1 := hC.cell 1 rfl; have y2 := hC.cell 2 rfl; have y3 := hC.cell 3 rfl; have y4 := hC.cell 4 rfl; have y5 := hC.cell 5 rfl; have y6 := hC.cell 6 rfl
      have p0 : ∀ o, (wr.alloc o).cell? ⟨C, 0, none⟩ = _ := fun o => ((Keep.refl none_ wr).alloc o).still y0
      have p1 : ∀ o, (wr.alloc o).cell? ⟨C, 1, none⟩ = _ := fun o => ((Keep.refl none_ wr).alloc o).still y1
      have p2 : ∀ o, (wr.alloc o).cell? ⟨C, 2, none⟩ = _ := fun o => ((Keep.refl none_ wr).alloc o).still y2
      have p3 : ∀ o, (wr.alloc o).cell? ⟨C, 3, none⟩ = _ := fun o => ((Keep.refl none_ wr).alloc o).still y3
      have p4 : ∀ o, (wr.alloc o).cell? ⟨C, 4, none⟩ = _ := fun o => ((Keep.refl none_ wr).alloc o).still y4
      have p5 : ∀ o, (wr.alloc o).cell? ⟨C, 5, none⟩ = _ := fun o => ((Keep.refl none_ wr).alloc o).still y5
      have p6 : ∀ o, (wr.alloc o).cell? ⟨C, 6, none⟩ = _ := fun o => ((Keep.refl none_ wr).alloc o).still y6
      have hkI : (k : Int) < (n : Int) := by omega
      have hk0 : (0 : Int) ≤ (k : Int) := by omega
      have HCA := Lib.hid (HCK.out ⟨ok, oa, ob, oc⟩ (wr.alloc (.cells #[.int .i64 ok, .int .i64 oa, .int .i64 ob, .int .i64 oc] 35)) (hk9.alloc _))
      clear ho hk9 hC y0 y1 y2 y3 y4 y5 y6
      go_wp2_with fail
      refine HCA.out.mono ?_
      rintro e w2 ⟨rfl, hk2⟩
      have HK2 := Lib.hid ((HK.out.alloc (.cells #[.int .i64 ok, .int .i64 oa, .int .i64 ob, .int .i64 oc] 35)).trans hk2)
      clear hk2 HCA p0 p1 p2 p3 p4 p5 p6 g0 g1 g2 g3
      by_cases hx : chk ⟨c0, c1, c2, c3, c4, c5, c6⟩ ⟨ok, oa, ob, oc⟩ = 0
      · have HX := Lib.hid hx
        rw [hx]
        clear hx
        go_wp2_with fail
        go_roundg (gk - 1)
        case measure => omega
        case rel =>
          refine ⟨k + 1, by omega, by go_num, fun j x hj hx => ?_, HK2⟩
          rcases Nat.lt_or_ge j k with h1 | h1
          · exact HN.out j x h1 hx
          · obtain rfl : j = k := by omega
            rw [HO.out] at hx
            injection hx with hx
            rw [← hx]; exact HX.out
      · have HE : Hid (z1 = ((k : Int), chk ⟨c0, c1, c2, c3, c4, c5, c6⟩ ⟨ok, oa, ob, oc⟩)) := by
          have h9 := fb_at ⟨c0, c1, c2, c3, c4, c5, c6⟩ l 0 k ⟨ok, oa, ob, oc⟩ HO.out HN.out hx
          rw [Nat.zero_add] at h9
          exact HZ.out.trans h9
        generalize chk ⟨c0, c1, c2, c3, c4, c5, c6⟩ ⟨ok, oa, ob, oc⟩ = x at *
        have hx1 : (x == 0) = false := by simpa using hx
        go_wp2_with fail
        go_ret2
        exact ⟨by rw [HE.out]; rfl, HK0.out.trans HK2.out⟩
    · obtain rfl : n = k := by omega
      have HE : Hid (z1 = (0, 0)) := HZ.out.trans (fb_none _ _ _ (fun x hx => by obtain ⟨i, hi⟩ := List.mem_iff_getElem?.1 hx; exact HN.out i x (by have := (List.getElem?_eq_some_iff.1 hi).1; have := HL.out; omega) hi))
      go_wp2_with fail
      go_ret2
      exact ⟨by rw [HE.out]; rfl, HK0.out.trans HK.out⟩

theorem fb_drop (c : Conf) {l : List OpR} {i : Nat} {o : OpR} (h : l[i]? = some o) : fb c (l.drop i) i = if chk c o = 0 then fb c (l.drop (i + 1)) (i + 1) else ((i : Int), chk c o) := by
  have hi := (List.getElem?_eq_some_iff.1 h).1
  have he : l[i] = o := (List.getElem?_eq_some_iff.1 h).2
  rw [List.drop_eq_getElem_cons hi, he, fb]

set_option maxRecDepth 4000 in
set_option maxHeartbeats 4000000 in
theorem opChecks_any (z0 z1 : List Value) (a2 : Option Addr) (n2 c2 : Nat) (z2 : List (List Value)) (w : World) (h0 : FlatOk [.int .i64, .int .i64, .int .i64, .int .i64, .int .i64, .int .i64, .int .i64] z0) (h1 : FlatOk [.int .i64, .int .i64, .int .i64, .int .i64] z1)
    (h2 : Flats [.int .i64, .int .i64, .int .i64, .int .i64] w a2 n2 z2) (hm2 : n2 ≤ maxLen) (hL : laidMetH Tryd.prog Rows.opChecksRow.laid w) (hS : w.ShapedOpen Tryd.prog) :
    Calls Tryd.prog 11 #[.agg z0.toArray, .agg z1.toArray, .slice a2 n2 c2] w fun e w' => e = .returned (.bool true) ∧ Keep none_ w w' := by
  unfold maxLen at hm2
  have HT := Lib.hid (opT_of hL hS)
  clear hL hS
  obtain ⟨c, rfl, -⟩ := conf_of h0
  obtain ⟨o, rfl, -⟩ := op_of h1
  obtain ⟨l, rfl, -⟩ := list_of (f := OpR.cells) (P := fun _ => True) (fun r h => by obtain ⟨o, h1, _⟩ := op_of h; exact ⟨o, h1, trivial⟩) z2 h2.ok
  have HR := Lib.hid (RecAt.ofFlats h2)
  have HL : Hid (l.length = n2) := by have := h2.len; simpa [Hid] using this
  clear h0 h1 h2
  have HAW := Lib.hid (fun W (h : Keep none_ w W) => awake17_any W (HT.out.keep h))
  obtain ⟨W0, hW0⟩ : ∃ W', W' = (w.alloc (.cells c.cells.toArray 23)).alloc (.cells o.cells.toArray 35) := ⟨_, rfl⟩
  have HK0 : Hid (Keep none_ w W0) := by rw [hW0]; exact ((Keep.refl _ _).alloc _).alloc _
  have HC0 : Hid (Blk W0 w.heap.size c.cells 23) := by rw [hW0]; exact (Blk.new w _ _).alloc _
  have HO0 : Hid (Blk W0 (w.heap.size + 1) o.cells 35) := by rw [hW0]; have h := Blk.new (w.alloc (.cells c.cells.toArray 23)) o.cells 35; simp only [World.size_alloc] at h; exact h
  have HRI := Lib.hid (fun W (hk : Keep none_ w W) (hn : n2 ≤ 1000000) => opRight_any c a2 n2 c2 l W (HR.out.below hk) hn (HT.out.keep hk).tabs)
  have HCK := Lib.hid (fun W (hk : Keep none_ w W) => check_any c o W (HT.out.keep hk).tabs)
  have HRC := Lib.hid (fun o W => rCheck_any c o W)
  obtain ⟨zz, hzz⟩ : ∃ zz, zz = fb c l 0 := ⟨_, rfl⟩
  rw [← hzz] at HRI
  have HZZ := Lib.hid hzz
  obtain ⟨oo, hoo⟩ : ∃ oo, oo = o := ⟨_, rfl⟩
  have HRO := Lib.hid (fun W => rCheck_any c o W)
  obtain ⟨x, hx⟩ : ∃ x, x = chk c o := ⟨_, rfl⟩
  rw [← hx] at HCK HRO
  have HFB0 : Hid (fb c (l.drop n2) n2 = (0, 0)) := by rw [List.drop_of_length_le (by rw [HL.out]; exact Nat.le_refl _)]; rfl
  have HFD := Lib.hid (fun (i : Nat) (y : OpR) (h : l[i]? = some y) => fb_drop c h)
  have HF0 : Hid (fb c (l.drop 0) 0 = zz) := by rw [hzz]; rfl
  clear hzz hx hoo
  obtain ⟨g, hg⟩ : ∃ g, g = fb c := ⟨_, rfl⟩
  rw [← hg] at HFB0 HFD HF0
  obtain ⟨ck, hck⟩ : ∃ ck, ck = chk c := ⟨_, rfl⟩
  rw [← hck] at HFD
  have HRC2 : Hid (∀ (o : OpR) (W : World), Calls Tryd.prog 37 #[.agg c.cells.toArray, .agg o.cells.toArray] W fun e w' => e = .returned (.int .i64 (ck o)) ∧ Keep none_ W w') := by rw [hck]; exact HRC.out
  clear hg hck HRC HZZ oo
  obtain ⟨z1, z2⟩ := zz
  obtain ⟨c0, c1, c3, c4, c5, c6, c7⟩ := c
  obtain ⟨ok, oa, ob, oc⟩ := o
  simp only [Conf.cells, OpR.cells] at HC0 HO0 hW0 HRI HCK HRO HRC2 ⊢
  go_enter Tryd.func11, Tryd.ntmps11
  by_cases hbig : 50 < n2
  · go_wp2_with fail
    rw [← hW0]
    refine (HAW.out W0 HK0.out).mono ?_
    rintro e w1 ⟨rfl, hk1⟩
    clear hW0
    go_wp2_with fail
    go_ret
    exact ⟨rfl, HK0.out.trans hk1⟩
  have d50 : decide (50 < (n2 : Int)) = false := decide_eq_false (by omega)
  have y0 := HC0.out.cell 0 rfl; have y1 := HC0.out.cell 1 rfl; have y2 := HC0.out.cell 2 rfl; have y3 := HC0.out.cell 3 rfl; have y4 := HC0.out.cell 4 rfl; have y5 := HC0.out.cell 5 rfl; have y6 := HC0.out.cell 6 rfl
  go_wp2_with fail
  rw [← hW0]
  clear hW0
  refine (HRI.out W0 HK0.out (by omega)).mono ?_
  rintro e W1 ⟨rfl, hk1⟩
  have HK1 := Lib.hid (HK0.out.trans hk1)
  have HC1 := Lib.hid (hk1.blk HC0.out (fun f => f))
  have HO1 := Lib.hid (hk1.blk HO0.out (fun f => f))
  clear hk1 y0 y1 y2 y3 y4 y5 y6 HK0 HC0 HO0 HRI
  generalize w.heap.size = C at *
  go_wp2_with fail
  go_loopg [9, 10, 11] n2 (fun gn at_ cd i wr => ∃ k : Nat, gn = k ∧ k ≤ n2 ∧ i = .int .i64 ((k : Int) - 1) ∧ at_ = .int .i64 (g (l.drop k) k).1 ∧ cd = .int .i64 (g (l.drop k) k).2 ∧ Hid (Keep none_ W1 wr))
  case atStart => exact ⟨n2, rfl, Nat.le_refl _, rfl, by rw [HFB0.out], by rw [HFB0.out], Keep.refl _ _⟩
  case round =>
    obtain ⟨k, hgk, hkn, rfl, rfl, rfl, HK⟩ := hrel
    have hC := HK.out.blk HC1.out (fun f => f)
    have hO := HK.out.blk HO1.out (fun f => f)
    by_cases hlt : 0 < k
    · obtain ⟨p, rfl⟩ : ∃ p, k = p + 1 := ⟨k - 1, by omega⟩
      have HKW := Lib.hid (HK1.out.trans HK.out)
      obtain ⟨b, off, rfl, y, hy, g0, g1, g2, g3⟩ := opCells (HR.out.below HKW.out) p (by omega)
      have hstep := HFD.out p y hy
      generalize g (l.drop (p + 1)) (p + 1) = st at *
      have HRY := Lib.hid (HRC2.out y)
      obtain ⟨yk, ya, yb, yc⟩ := y
      simp only at g0 g1 g2 g3 HRY
      generalize ck ⟨yk, ya, yb, yc⟩ = q at *
      have HST := Lib.hid hstep
      have hpe : ((p + 1 : Nat) : Int) - 1 = (p : Int) := by omega
      have hpI : (p : Int) < (n2 : Int) := by omega
      have hp0 : (0 : Int) ≤ (p : Int) := by omega
      have y0 := hC.cell 0 rfl; have y1 := hC.cell 1 rfl; have y2 := hC.cell 2 rfl; have y3 := hC.cell 3 rfl; have y4 := hC.cell 4 rfl; have y5 := hC.cell 5 rfl; have y6 := hC.cell 6 rfl
      rw [hpe]
      clear hstep hy hC hO hpe
      go_wp2_with fail
      refine wp_region_still_mid 5 rfl (by kernel_rfl) (by kernel_rfl) (fun K hK => ?_)
      change wpStill _ _ (World.drew _) _ _ _
      simp only [List.take_succ_cons, List.take_zero, List.drop_succ_cons, List.drop_zero] at hK ⊢
      repeat still_step
      refine wpStill_nil ?_
      change ite _ (Oper.wp _ _ _ wr.drew _ _) _
      go_simp
      refine (HRY.out wr.drew).mono ?_
      rintro e w2 ⟨rfl, hk2⟩
      refine hK _ _ ?_
      clear hK K g0 g1 g2 g3 y0 y1 y2 y3 y4 y5 y6
      have HK2 := Lib.hid (HK.out.drew.trans hk2)
      clear hk2
      repeat still_step
      refine wpStill_nil ?_
      by_cases hq : q = 0
      · subst hq
        go_wp2_with fail
        go_roundg p
        case measure => omega
        case rel => exact ⟨p, rfl, by omega, by go_num, by rw [HST.out]; simp, by rw [HST.out]; simp, HK2⟩
      · have hq1 : (q == 0) = false := by simpa using hq
        have HQ := Lib.hid hq
        go_wp2_with fail
        go_roundg p
        case measure => omega
        case rel => exact ⟨p, rfl, by omega, by go_num, by rw [HST.out, if_neg HQ.out], by rw [HST.out, if_neg HQ.out], HK2⟩
    · obtain rfl : k = 0 := by omega
      rw [HF0.out]
      have HKW := Lib.hid (HK1.out.trans HK.out)
      have a0 := cell_regrown (hC.cell 0 rfl); have a1 := cell_regrown (hC.cell 1 rfl); have a2 := cell_regrown (hC.cell 2 rfl); have a3 := cell_regrown (hC.cell 3 rfl); have a4 := cell_regrown (hC.cell 4 rfl); have a5 := cell_regrown (hC.cell 5 rfl); have a6 := cell_regrown (hC.cell 6 rfl)
      have b0 := cell_regrown (hO.cell 0 rfl); have b1 := cell_regrown (hO.cell 1 rfl); have b2 := cell_regrown (hO.cell 2 rfl); have b3 := cell_regrown (hO.cell 3 rfl)
      clear hC hO
      go_wp2_with fail
      refine wp_region_quiet_below (by kernel_rfl) (by kernel_rfl) ?_
      quiet_step (fail)
      quiet_step (fail)
      refine wpQuiet_step (fun K hK => ?_)
      go_simp
      apply Exists.intro
      refine ⟨fun _ => ?_, hK _ ?_⟩
      · exact calls_regrown (HCK.out _ (HKW.out.trans (keep_regrown _ _ _)))
      clear hK K
      quiet_step (fail)
      quiet_step (fail)
      refine wpQuiet_step (fun K hK => ?_)
      go_simp
      apply Exists.intro
      refine ⟨fun _ => ?_, hK _ ?_⟩
      · exact calls_regrown (HRO.out _)
      clear hK K
      repeat (quiet_step (exact calls_regrown (HAW.out _ (HKW.out.trans (keep_regrown _ _ _)))))
      refine wpQuiet_nil ?_
      intro _ hw9
      obtain ⟨⟨dq, osq⟩, hw8⟩ := hw9
      subst hw8
      have hk3 := HKW.out.trans (keep_regrown wr dq osq)
      clear a0 a1 a2 a3 a4 a5 a6 b0 b1 b2 b3
      generalize grow (redrawn wr dq) osq = w3 at hk3 ⊢
      go_wp2_with fail
      go_ret
      exact ⟨rfl, hk3⟩
end Go.Proofs.YtdplakfmdkjfdaaDoor
