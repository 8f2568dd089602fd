/- OpUses: what an operation doesn't use counts nowhere; a bare one is bare. -/
import Derived.Test.YtdplakfmdkjfdaaDoorOpUses
import Derived.Test.YtdplakfmdkjfdaaDoorLawORegs
import Derived.Test.YtdplakfmdkjfdaaDoorArr
namespace Go.Proofs.YtdplakfmdkjfdaaDoor
open Go.RowKit Go.Sort

set_option maxRecDepth 4000 in
set_option maxHeartbeats 8000000 in
theorem opUses_any (z0 z1 z2 : List Value) (w : World) (h0 : FlatOk [.int .i64, .int .i64, .int .i64, .int .i64, .int .i64, .int .i64, .int .i64] z0) (h1 : FlatOk [.int .i64, .int .i64, .int .i64, .int .i64] z1)
    (h2 : FlatOk [.int .i64, .int .i64] z2) (hL : laidMetH Tryd.prog Rows.opUsesRow.laid w) (hS : w.ShapedOpen Tryd.prog) :
    Calls Tryd.prog 12 #[.agg z0.toArray, .agg z1.toArray, .agg z2.toArray] w fun e w' => e = .returned (.bool true) ∧ Keep none_ w w' := by
  have HT := Lib.hid (opT_of hL hS)
  clear hL hS
  obtain ⟨c, rfl, -⟩ := conf_of h0
  obtain ⟨o, rfl, hwf⟩ := op_of h1
  obtain ⟨n0, n1, rfl, hn0, hn1⟩ := h2.two
  have HWF := Lib.hid hwf
  have HN0 := Lib.hid hn0
  have HN1 := Lib.hid hn1
  clear h0 h1 h2 hwf hn0 hn1
  obtain ⟨W0, hW0⟩ : ∃ W', W' = ((w.alloc (.cells c.cells.toArray 23)).alloc (.cells o.cells.toArray 35)).alloc (.cells #[.int .i64 n0, .int .i64 n1] 46) := ⟨_, rfl⟩
  have HK0 : Hid (Keep none_ w W0) := by rw [hW0]; exact (((Keep.refl _ _).alloc _).alloc _).alloc _
  have HC0 : Hid (Blk W0 w.heap.size c.cells 23) := by rw [hW0]; exact ((Blk.new w _ _).alloc _).alloc _
  have HO0 : Hid (Blk W0 (w.heap.size + 1) o.cells 35) := by rw [hW0]; have h := Blk.new (w.alloc (.cells c.cells.toArray 23)) o.cells 35; simp only [World.size_alloc] at h; exact h.alloc _
  have HN : Hid (Blk W0 (w.heap.size + 1 + 1) [.int .i64 n0, .int .i64 n1] 46) := by rw [hW0]; have h := Blk.new ((w.alloc (.cells c.cells.toArray 23)).alloc (.cells o.cells.toArray 35)) [.int .i64 n0, .int .i64 n1] 46; simp only [World.size_alloc] at h; exact h
  have HBA := Lib.hid (fun x W (hk : Keep none_ w W) => bare_any x W (HT.out.keep hk).tabs)
  have HCK := Lib.hid (fun x W (hk : Keep none_ w W) => check_any c x W (HT.out.keep hk).tabs)
  have HLN := Lib.hid (fun x W (hx : OpR.wf x) (hk : Keep none_ w W) => line_any x W hx (HT.out.keep hk).tabs (HT.out.keep hk).tab)
  have HUN := Lib.hid (fun W (hk : Keep none_ w W) => (usesN_any o.k W (HT.out.keep hk).tabs).mono (fun _ _ h => And.intro h.1 h.2.symm))
  have HAW := Lib.hid (fun W (hk : Keep none_ w W) => awake17_any W (HT.out.keep hk))
  have HC : Hid (∀ x : OpR, x = bareP o → bareP x = bareP o ∧ chk c x = chk c o) := fun x hx => by subst hx; exact ⟨bareP_bareP o, chk_bareP c o⟩
  have HA : Hid (∀ x : OpR, AgU o x → bareP x = bareP o ∧ chk c x = chk c o ∧ lineL x = lineL o ∧ x.k = o.k) := fun x hx => ⟨bareP_ag hx, chk_ag c hx, lineL_ag hx, hx.k⟩
  have HQ := HC.out (bareP o) rfl
  have HBO := Lib.hid (HBA.out o)
  have HBB := Lib.hid (HBA.out (bareP o))
  have HKB := Lib.hid (HCK.out (bareP o))
  have HKO := Lib.hid (HCK.out o)
  rw [HQ.1] at HBB
  rw [HQ.2] at HKB
  have HLO := Lib.hid (HLN.out o)
  obtain ⟨ln, hln⟩ : ∃ ln, ln = (if isKind o.k then lineL o else []) := ⟨_, rfl⟩
  obtain ⟨er, her⟩ : ∃ er : Int, er = (if isKind o.k then 0 else 1) := ⟨_, rfl⟩
  rw [← hln, ← her] at HLO
  obtain ⟨un, hun⟩ : ∃ un, un = (useL o.k).length := ⟨_, rfl⟩
  rw [← hun] at HUN
  have HUE := Lib.hid hun
  have HX : Hid (∀ x : OpR, AgU o x → x.wf → (∀ W, Keep none_ w W → Calls Tryd.prog 38 #[.agg x.cells.toArray] W fun e w' => e = .returned (.agg (bareP o).cells.toArray) ∧ Keep none_ W w')
      ∧ (∀ W, Keep none_ w W → Calls Tryd.prog 35 #[.agg c.cells.toArray, .agg x.cells.toArray] W fun e w' => e = .returned (.int .i64 (chk c o)) ∧ Keep none_ W w')
      ∧ (∀ W, Keep none_ w W → Calls Tryd.prog 40 #[.agg x.cells.toArray] W fun e w' => e = .returned (.tuple #[.string ⟨ln.toArray⟩, .int .i64 er]) ∧ Keep none_ W w')) := fun x hx hw => by
    obtain ⟨e1, e2, e3, e4⟩ := HA.out x hx
    refine ⟨fun W hk => ?_, fun W hk => ?_, fun W hk => ?_⟩
    · have := HBA.out x W hk; rw [e1] at this; exact this
    · have := HCK.out x W hk; rw [e2] at this; exact this
    · have := HLN.out x W hw hk; rw [e3, e4, ← hln, ← her] at this; exact this
  have HAG : Hid (∀ x : OpR, x.k = o.k → (0 < un → x.a = o.a) → (1 < un → x.b = o.b) → (2 < un → x.c = o.c) → AgU o x) := fun x h1 h2 h3 h4 => ⟨h1, fun j hj => by
    have := useL_len o.k
    rw [← hun] at hj this
    rcases (by omega : j = 0 ∨ j = 1 ∨ j = 2) with rfl | rfl | rfl
    · exact h2 hj
    · exact h3 hj
    · exact h4 hj⟩
  clear HBA HCK HLN HC HA HQ hln her hun
  generalize bareP o = q at *
  generalize chk c o = ck at *
  have HC' := HC0
  obtain ⟨c0, c1, c2, c3, c4, c5, c6⟩ := c
  obtain ⟨ok, oa, ob, oc⟩ := o
  obtain ⟨qk, qa, qb, qc⟩ := q
  simp only [Conf.cells, OpR.cells] at HC0 HO0 hW0 HBO HBB HKB HKO HLO HX HAG ⊢
  have y0 := HO0.out.cell 0 rfl; have y1 := HO0.out.cell 1 rfl; have y2 := HO0.out.cell 2 rfl; have y3 := HO0.out.cell 3 rfl
  go_enter Tryd.func12, Tryd.ntmps12
  go_wp2_with fail
  rw [← hW0]
  clear hW0
  refine (HBO.out W0 HK0.out).mono ?_
  rintro e w1 ⟨rfl, hk1⟩
  obtain ⟨W1, hW1⟩ : ∃ W', W' = w1.alloc (.cells #[.int .i64 qk, .int .i64 qa, .int .i64 qb, .int .i64 qc] 35) := ⟨_, rfl⟩
  have hk2 : Keep none_ w1 W1 := by rw [hW1]; exact (Keep.refl _ _).alloc _
  have HB1 : Hid (Blk W1 w1.heap.size [.int .i64 qk, .int .i64 qa, .int .i64 qb, .int .i64 qc] 35) := by rw [hW1]; exact Blk.new w1 _ _
  have HC1 := Lib.hid ((hk1.trans hk2).blk HC0.out (fun f => f))
  have HO1 := Lib.hid ((hk1.trans hk2).blk HO0.out (fun f => f))
  have HN1 := Lib.hid ((hk1.trans hk2).blk HN.out (fun f => f))
  have HK1 := Lib.hid (HK0.out.trans (hk1.trans hk2))
  have hsz1 : w.heap.size + 1 + 1 < w1.heap.size := Nat.lt_of_lt_of_le HN.out.lt hk1.size
  have HSZ1 := Lib.hid hsz1
  clear hk1 hk2 y0 y1 y2 y3 HC0 HO0 HN HC' hsz1
  go_wp2_with fail
  rw [← hW1]
  clear hW1
  generalize hB : w1.heap.size = B at *
  generalize w.heap.size = C at *
  clear hB
  have a0 := cell_regrown (HC1.out.cell 0 rfl); have a1 := cell_regrown (HC1.out.cell 1 rfl); have a2 := cell_regrown (HC1.out.cell 2 rfl); have a3 := cell_regrown (HC1.out.cell 3 rfl); have a4 := cell_regrown (HC1.out.cell 4 rfl); have a5 := cell_regrown (HC1.out.cell 5 rfl); have a6 := cell_regrown (HC1.out.cell 6 rfl)
  have b0 := cell_regrown (HO1.out.cell 0 rfl); have b1 := cell_regrown (HO1.out.cell 1 rfl); have b2 := cell_regrown (HO1.out.cell 2 rfl); have b3 := cell_regrown (HO1.out.cell 3 rfl)
  have d0 := cell_regrown (HB1.out.cell 0 rfl); have d1 := cell_regrown (HB1.out.cell 1 rfl); have d2 := cell_regrown (HB1.out.cell 2 rfl); have d3 := cell_regrown (HB1.out.cell 3 rfl)
  refine wp_region_quiet_below (by kernel_rfl) (by kernel_rfl) ?_
  quiet_step (fail)
  refine wpQuiet_step (fun K hK => ?_)
  go_simp
  apply Exists.intro
  refine ⟨fun _ => ?_, hK _ ?_⟩
  · exact calls_regrown (HBB.out _ (HK1.out.trans (keep_regrown _ _ _)))
  clear hK K
  quiet_step (fail)
  quiet_step (fail)
  quiet_step (fail)
  quiet_step (fail)
  quiet_step (fail)
  refine wpQuiet_step (fun K hK => ?_)
  go_simp
  apply Exists.intro
  refine ⟨fun _ => ?_, hK _ ?_⟩
  · exact calls_regrown (HKB.out _ (HK1.out.trans (keep_regrown _ _ _)))
  clear hK K
  quiet_step (fail)
  quiet_step (fail)
  refine wpQuiet_step (fun K hK => ?_)
  go_simp
  apply Exists.intro
  refine ⟨fun _ => ?_, hK _ ?_⟩
  · exact calls_regrown (HKO.out _ (HK1.out.trans (keep_regrown _ _ _)))
  clear hK K
  repeat (quiet_step (fail))
  refine wpQuiet_nil ?_
  intro _ hw9
  obtain ⟨⟨dq, osq⟩, hw8⟩ := hw9
  subst hw8
  have hk3 := keep_regrown W1 dq osq
  generalize grow (redrawn W1 dq) osq = w3 at hk3 ⊢
  have HK3 := Lib.hid (HK1.out.trans hk3)
  have HC3 := Lib.hid (hk3.blk HC1.out (fun f => f))
  have HO3 := Lib.hid (hk3.blk HO1.out (fun f => f))
  have HN3 := Lib.hid (hk3.blk HN1.out (fun f => f))
  have HB3 := Lib.hid (hk3.blk HB1.out (fun f => f))
  clear a0 a1 a2 a3 a4 a5 a6 b0 b1 b2 b3 d0 d1 d2 d3 hk3 HK1 HC1 HO1 HN1 HB1
  have v0 := HO3.out.cell 0 rfl; have v1 := HO3.out.cell 1 rfl; have v2 := HO3.out.cell 2 rfl; have v3 := HO3.out.cell 3 rfl
  obtain ⟨W4, hW4⟩ : ∃ W', W' = w3.alloc (.cells #[.int .i64 ok, .int .i64 oa, .int .i64 ob, .int .i64 oc] 35) := ⟨_, rfl⟩
  have hk4 : Keep none_ w3 W4 := by rw [hW4]; exact (Keep.refl _ _).alloc _
  have hX4 : Blk W4 w3.heap.size [.int .i64 ok, .int .i64 oa, .int .i64 ob, .int .i64 oc] 35 := by rw [hW4]; exact Blk.new w3 _ _
  have v4 : (w3.alloc (.cells #[.int .i64 ok, .int .i64 oa, .int .i64 ob, .int .i64 oc] 35)).cell? ⟨C + 1, 0, none⟩ = some (.int .i64 ok) := by rw [← hW4]; exact (hk4.blk HO3.out (fun f => f)).cell 0 rfl
  have HK4 := Lib.hid (HK3.out.trans hk4)
  have HC4 := Lib.hid (hk4.blk HC3.out (fun f => f))
  have HO4 := Lib.hid (hk4.blk HO3.out (fun f => f))
  have HN4 := Lib.hid (hk4.blk HN3.out (fun f => f))
  have HB4 := Lib.hid (hk4.blk HB3.out (fun f => f))
  have HX4 := Lib.hid hX4
  have hXs := HK3.out.size
  have hxc := HC3.out.lt
  have hxo := HO3.out.lt
  have hxn := HN3.out.lt
  have hxb := HB3.out.lt
  clear hk4 hX4 HK3 HC3 HO3 HN3 HB3
  go_wp2_with fail
  rw [← hW4]
  clear hW4 v0 v1 v2 v3 v4
  generalize w3.heap.size = X at *
  have HXS := Lib.hid hXs
  have HXC : Hid (X ≠ C) := Nat.ne_of_gt hxc
  have HXO : Hid (X ≠ C + 1) := Nat.ne_of_gt hxo
  have HXN : Hid (X ≠ C + 1 + 1) := Nat.ne_of_gt hxn
  have HXB : Hid (X ≠ B) := Nat.ne_of_gt hxb
  clear hXs hxc hxo hxn hxb
  have v0 := HO4.out.cell 0 rfl; have v1 := HO4.out.cell 1 rfl; have v2 := HO4.out.cell 2 rfl; have v3 := HO4.out.cell 3 rfl
  have g0 := HN4.out.cell 0 rfl
  have g1 := HN4.out.cell 1 rfl
  have f2 := HX4.out.free 2; have f3 := HX4.out.free 3; have x2 := HX4.out.cell 2 rfl; have x3 := HX4.out.cell 3 rfl
  have hO5 : Blk (W4.setCell ⟨X, 3, none⟩ (.int .i64 n0)) (C + 1) [.int .i64 ok, .int .i64 oa, .int .i64 ob, .int .i64 oc] 35 := HO4.out.other (a := ⟨X, 3, none⟩) HXO.out.symm _
  have hN5 : Blk (W4.setCell ⟨X, 3, none⟩ (.int .i64 n0)) (C + 1 + 1) [.int .i64 n0, .int .i64 n1] 46 := HN4.out.other (a := ⟨X, 3, none⟩) HXN.out.symm _
  have hX5 : Blk (W4.setCell ⟨X, 3, none⟩ (.int .i64 n0)) X [.int .i64 ok, .int .i64 oa, .int .i64 ob, .int .i64 n0] 35 := HX4.out.set 3 _
  have HO5 := Lib.hid hO5
  have HN5 := Lib.hid hN5
  have HX5 := Lib.hid hX5
  have HK5 : Hid (Keep none_ w (W4.setCell ⟨X, 3, none⟩ (.int .i64 n0))) := HK4.out.putNew HXS.out _ _
  have HC5 : Hid (Blk (W4.setCell ⟨X, 3, none⟩ (.int .i64 n0)) C _ _) := HC4.out.other (a := ⟨X, 3, none⟩) HXC.out.symm _
  have HB5 : Hid (Blk (W4.setCell ⟨X, 3, none⟩ (.int .i64 n0)) B _ _) := HB4.out.other (a := ⟨X, 3, none⟩) HXB.out.symm _
  have u0 := hO5.cell 0 rfl; have u1 := hO5.cell 1 rfl; have u2 := hO5.cell 2 rfl; have u3 := hO5.cell 3 rfl
  have s1 := hN5.cell 1 rfl
  have q2 := hX5.free 2; have q3 := hX5.cell 2 rfl
  clear hO5 hN5 hX5
  have hO6 : Blk ((W4.setCell ⟨X, 3, none⟩ (.int .i64 n0)).setCell ⟨X, 2, none⟩ (.int .i64 n1)) (C + 1) [.int .i64 ok, .int .i64 oa, .int .i64 ob, .int .i64 oc] 35 := HO5.out.other (a := ⟨X, 2, none⟩) HXO.out.symm _
  have HO6 := Lib.hid hO6
  have HX6 : Hid (Blk ((W4.setCell ⟨X, 3, none⟩ (.int .i64 n0)).setCell ⟨X, 2, none⟩ (.int .i64 n1)) X [.int .i64 ok, .int .i64 oa, .int .i64 n1, .int .i64 n0] 35) := HX5.out.set 2 _
  have HK6 : Hid (Keep none_ w ((W4.setCell ⟨X, 3, none⟩ (.int .i64 n0)).setCell ⟨X, 2, none⟩ (.int .i64 n1))) := HK5.out.putNew HXS.out _ _
  have HC6 : Hid (Blk ((W4.setCell ⟨X, 3, none⟩ (.int .i64 n0)).setCell ⟨X, 2, none⟩ (.int .i64 n1)) C _ _) := HC5.out.other (a := ⟨X, 2, none⟩) HXC.out.symm _
  have HB6 : Hid (Blk ((W4.setCell ⟨X, 3, none⟩ (.int .i64 n0)).setCell ⟨X, 2, none⟩ (.int .i64 n1)) B _ _) := HB5.out.other (a := ⟨X, 2, none⟩) HXB.out.symm _
  have r0 := hO6.cell 0 rfl; have r1 := hO6.cell 1 rfl; have r2 := hO6.cell 2 rfl; have r3 := hO6.cell 3 rfl
  clear hO6
  have HUN4 := Lib.hid (HUN.out _ HK4.out)
  have HUN5 := Lib.hid (HUN.out _ HK5.out)
  have HWF0 := HWF.out
  have hcase : 3 ≤ un ∨ un = 2 ∨ un < 2 := by omega
  rcases hcase with hu | hu | hu
  · have t3 : decide ((un : Int) < 3) = false := decide_eq_false (by omega)
    have t2 : decide ((un : Int) < 2) = false := decide_eq_false (by omega)
    have HXX := Lib.hid (HX.out ⟨ok, oa, ob, oc⟩ (HAG.out ⟨ok, oa, ob, oc⟩ rfl (fun _ => rfl) (fun _ => rfl) (fun _ => rfl)) HWF0)
    simp only at HXX
    have HKV := HK4
    have HCV := HC4
    have HOV := HO4
    have HBV := HB4
    have HXV := HX4
    refine HUN4.out.mono ?_
    rintro e w' ⟨rfl, rfl⟩
    go_wp2_with (go_at_call 39; refine HUN4.out.mono ?_; rintro e w' ⟨rfl, rfl⟩)
    generalize W4 = V at HKV HCV HOV HBV HXV ⊢
    clear HK4 HC4 HO4 HB4 HX4 HK5 HC5 HO5 HB5 HX5 HN4 HN5 HK6 HC6 HO6 HB6 HX6 HUN4 HUN5 v0 v1 v2 v3 g0 g1 f2 f3 x2 x3 u0 u1 u2 u3 s1 q2 q3 r0 r1 r2 r3 hu t2 t3 HX HAG HUN
    refine (HLO.out V HWF.out HKV.out).mono ?_
    rintro e V1 ⟨rfl, hk1⟩
    have HKV1 := Lib.hid (HKV.out.trans hk1)
    have HCV1 := Lib.hid (hk1.blk HCV.out (fun f => f))
    have HOV1 := Lib.hid (hk1.blk HOV.out (fun f => f))
    have HBV1 := Lib.hid (hk1.blk HBV.out (fun f => f))
    have HXV1 := Lib.hid (hk1.blk HXV.out (fun f => f))
    have e0 := HXV1.out.cell 0 rfl; have e1 := HXV1.out.cell 1 rfl; have e2 := HXV1.out.cell 2 rfl; have e3 := HXV1.out.cell 3 rfl
    clear hk1 HKV HCV HOV HBV HXV
    go_wp2_with fail
    refine (HXX.out.2.2 V1 HKV1.out).mono ?_
    rintro e V2 ⟨rfl, hk2⟩
    have HKV2 := Lib.hid (HKV1.out.trans hk2)
    have HCV2 := Lib.hid (hk2.blk HCV1.out (fun f => f))
    have HOV2 := Lib.hid (hk2.blk HOV1.out (fun f => f))
    have HBV2 := Lib.hid (hk2.blk HBV1.out (fun f => f))
    have HXV2 := Lib.hid (hk2.blk HXV1.out (fun f => f))
    clear hk2 HKV1 HCV1 HOV1 HBV1 HXV1 e0 e1 e2 e3
    go_wp2_with fail
    have a0 := cell_regrown (HCV2.out.cell 0 rfl); have a1 := cell_regrown (HCV2.out.cell 1 rfl); have a2 := cell_regrown (HCV2.out.cell 2 rfl); have a3 := cell_regrown (HCV2.out.cell 3 rfl); have a4 := cell_regrown (HCV2.out.cell 4 rfl); have a5 := cell_regrown (HCV2.out.cell 5 rfl); have a6 := cell_regrown (HCV2.out.cell 6 rfl)
    have b0 := cell_regrown (HOV2.out.cell 0 rfl); have b1 := cell_regrown (HOV2.out.cell 1 rfl); have b2 := cell_regrown (HOV2.out.cell 2 rfl); have b3 := cell_regrown (HOV2.out.cell 3 rfl)
    have d0 := cell_regrown (HBV2.out.cell 0 rfl); have d1 := cell_regrown (HBV2.out.cell 1 rfl); have d2 := cell_regrown (HBV2.out.cell 2 rfl); have d3 := cell_regrown (HBV2.out.cell 3 rfl)
    have e0 := cell_regrown (HXV2.out.cell 0 rfl); have e1 := cell_regrown (HXV2.out.cell 1 rfl); have e2 := cell_regrown (HXV2.out.cell 2 rfl); have e3 := cell_regrown (HXV2.out.cell 3 rfl)
    refine wp_region_quiet_below (by kernel_rfl) (by kernel_rfl) ?_
    quiet_step (fail)
    refine wpQuiet_step (fun K hK => ?_)
    go_simp
    apply Exists.intro
    refine ⟨fun _ => ?_, hK _ ?_⟩
    · exact calls_regrown (HXX.out.1 _ (HKV2.out.trans (keep_regrown _ _ _)))
    clear hK K
    quiet_step (fail)
    quiet_step (fail)
    quiet_step (fail)
    quiet_step (fail)
    quiet_step (fail)
    refine wpQuiet_step (fun K hK => ?_)
    go_simp
    apply Exists.intro
    refine ⟨fun _ => ?_, hK _ ?_⟩
    · exact calls_regrown (HXX.out.2.1 _ (HKV2.out.trans (keep_regrown _ _ _)))
    clear hK K
    quiet_step (fail)
    quiet_step (fail)
    refine wpQuiet_step (fun K hK => ?_)
    go_simp
    apply Exists.intro
    refine ⟨fun _ => ?_, hK _ ?_⟩
    · exact calls_regrown (HKO.out _ (HKV2.out.trans (keep_regrown _ _ _)))
    clear hK K
    repeat (quiet_step (exact calls_regrown (HAW.out _ (HKV2.out.trans (keep_regrown _ _ _)))))
    refine wpQuiet_nil ?_
    intro _ hw9
    obtain ⟨⟨dq, osq⟩, hw8⟩ := hw9
    subst hw8
    have hk3 := HKV2.out.trans (keep_regrown V2 dq osq)
    clear a0 a1 a2 a3 a4 a5 a6 b0 b1 b2 b3 d0 d1 d2 d3 e0 e1 e2 e3
    generalize grow (redrawn V2 dq) osq = w3 at hk3 ⊢
    go_wp2_with fail
    go_ret
    exact ⟨rfl, hk3⟩
  · have t3 : decide ((un : Int) < 3) = true := decide_eq_true (by omega)
    have t2 : decide ((un : Int) < 2) = false := decide_eq_false (by omega)
    have HXX := Lib.hid (HX.out ⟨ok, oa, ob, n0⟩ (HAG.out ⟨ok, oa, ob, n0⟩ rfl (fun _ => rfl) (fun _ => rfl) (fun h => absurd h (by omega))) ⟨HWF0.1, HWF0.2.1, HWF0.2.2.1, HN0.out⟩)
    simp only at HXX
    have HKV := HK5
    have HCV := HC5
    have HOV := HO5
    have HBV := HB5
    have HXV := HX5
    refine HUN4.out.mono ?_
    rintro e w' ⟨rfl, rfl⟩
    go_wp2_with (go_at_call 39; refine HUN5.out.mono ?_; rintro e w' ⟨rfl, rfl⟩)
    generalize (W4.setCell ⟨X, 3, none⟩ (.int .i64 n0)) = V at HKV HCV HOV HBV HXV ⊢
    clear HK4 HC4 HO4 HB4 HX4 HK5 HC5 HO5 HB5 HX5 HN4 HN5 HK6 HC6 HO6 HB6 HX6 HUN4 HUN5 v0 v1 v2 v3 g0 g1 f2 f3 x2 x3 u0 u1 u2 u3 s1 q2 q3 r0 r1 r2 r3 hu t2 t3 HX HAG HUN
    refine (HLO.out V HWF.out HKV.out).mono ?_
    rintro e V1 ⟨rfl, hk1⟩
    have HKV1 := Lib.hid (HKV.out.trans hk1)
    have HCV1 := Lib.hid (hk1.blk HCV.out (fun f => f))
    have HOV1 := Lib.hid (hk1.blk HOV.out (fun f => f))
    have HBV1 := Lib.hid (hk1.blk HBV.out (fun f => f))
    have HXV1 := Lib.hid (hk1.blk HXV.out (fun f => f))
    have e0 := HXV1.out.cell 0 rfl; have e1 := HXV1.out.cell 1 rfl; have e2 := HXV1.out.cell 2 rfl; have e3 := HXV1.out.cell 3 rfl
    clear hk1 HKV HCV HOV HBV HXV
    go_wp2_with fail
    refine (HXX.out.2.2 V1 HKV1.out).mono ?_
    rintro e V2 ⟨rfl, hk2⟩
    have HKV2 := Lib.hid (HKV1.out.trans hk2)
    have HCV2 := Lib.hid (hk2.blk HCV1.out (fun f => f))
    have HOV2 := Lib.hid (hk2.blk HOV1.out (fun f => f))
    have HBV2 := Lib.hid (hk2.blk HBV1.out (fun f => f))
    have HXV2 := Lib.hid (hk2.blk HXV1.out (fun f => f))
    clear hk2 HKV1 HCV1 HOV1 HBV1 HXV1 e0 e1 e2 e3
    go_wp2_with fail
    have a0 := cell_regrown (HCV2.out.cell 0 rfl); have a1 := cell_regrown (HCV2.out.cell 1 rfl); have a2 := cell_regrown (HCV2.out.cell 2 rfl); have a3 := cell_regrown (HCV2.out.cell 3 rfl); have a4 := cell_regrown (HCV2.out.cell 4 rfl); have a5 := cell_regrown (HCV2.out.cell 5 rfl); have a6 := cell_regrown (HCV2.out.cell 6 rfl)
    have b0 := cell_regrown (HOV2.out.cell 0 rfl); have b1 := cell_regrown (HOV2.out.cell 1 rfl); have b2 := cell_regrown (HOV2.out.cell 2 rfl); have b3 := cell_regrown (HOV2.out.cell 3 rfl)
    have d0 := cell_regrown (HBV2.out.cell 0 rfl); have d1 := cell_regrown (HBV2.out.cell 1 rfl); have d2 := cell_regrown (HBV2.out.cell 2 rfl); have d3 := cell_regrown (HBV2.out.cell 3 rfl)
    have e0 := cell_regrown (HXV2.out.cell 0 rfl); have e1 := cell_regrown (HXV2.out.cell 1 rfl); have e2 := cell_regrown (HXV2.out.cell 2 rfl); have e3 := cell_regrown (HXV2.out.cell 3 rfl)
    refine wp_region_quiet_below (by kernel_rfl) (by kernel_rfl) ?_
    quiet_step (fail)
    refine wpQuiet_step (fun K hK => ?_)
    go_simp
    apply Exists.intro
    refine ⟨fun _ => ?_, hK _ ?_⟩
    · exact calls_regrown (HXX.out.1 _ (HKV2.out.trans (keep_regrown _ _ _)))
    clear hK K
    quiet_step (fail)
    quiet_step (fail)
    quiet_step (fail)
    quiet_step (fail)
    quiet_step (fail)
    refine wpQuiet_step (fun K hK => ?_)
    go_simp
    apply Exists.intro
    refine ⟨fun _ => ?_, hK _ ?_⟩
    · exact calls_regrown (HXX.out.2.1 _ (HKV2.out.trans (keep_regrown _ _ _)))
    clear hK K
    quiet_step (fail)
    quiet_step (fail)
    refine wpQuiet_step (fun K hK => ?_)
    go_simp
    apply Exists.intro
    refine ⟨fun _ => ?_, hK _ ?_⟩
    · exact calls_regrown (HKO.out _ (HKV2.out.trans (keep_regrown _ _ _)))
    clear hK K
    repeat (quiet_step (exact calls_regrown (HAW.out _ (HKV2.out.trans (keep_regrown _ _ _)))))
    refine wpQuiet_nil ?_
    intro _ hw9
    obtain ⟨⟨dq, osq⟩, hw8⟩ := hw9
    subst hw8
    have hk3 := HKV2.out.trans (keep_regrown V2 dq osq)
    clear a0 a1 a2 a3 a4 a5 a6 b0 b1 b2 b3 d0 d1 d2 d3 e0 e1 e2 e3
    generalize grow (redrawn V2 dq) osq = w3 at hk3 ⊢
    go_wp2_with fail
    go_ret
    exact ⟨rfl, hk3⟩
  · have t3 : decide ((un : Int) < 3) = true := decide_eq_true (by omega)
    have t2 : decide ((un : Int) < 2) = true := decide_eq_true (by omega)
    have HXX := Lib.hid (HX.out ⟨ok, oa, n1, n0⟩ (HAG.out ⟨ok, oa, n1, n0⟩ rfl (fun _ => rfl) (fun h => absurd h (by omega)) (fun h => absurd h (by omega))) ⟨HWF0.1, HWF0.2.1, HN1.out, HN0.out⟩)
    simp only at HXX
    have HKV := HK6
    have HCV := HC6
    have HOV := HO6
    have HBV := HB6
    have HXV := HX6
    refine HUN4.out.mono ?_
    rintro e w' ⟨rfl, rfl⟩
    go_wp2_with (go_at_call 39; refine HUN5.out.mono ?_; rintro e w' ⟨rfl, rfl⟩)
    generalize ((W4.setCell ⟨X, 3, none⟩ (.int .i64 n0)).setCell ⟨X, 2, none⟩ (.int .i64 n1)) = V at HKV HCV HOV HBV HXV ⊢
    clear HK4 HC4 HO4 HB4 HX4 HK5 HC5 HO5 HB5 HX5 HN4 HN5 HK6 HC6 HO6 HB6 HX6 HUN4 HUN5 v0 v1 v2 v3 g0 g1 f2 f3 x2 x3 u0 u1 u2 u3 s1 q2 q3 r0 r1 r2 r3 hu t2 t3 HX HAG HUN
    refine (HLO.out V HWF.out HKV.out).mono ?_
    rintro e V1 ⟨rfl, hk1⟩
    have HKV1 := Lib.hid (HKV.out.trans hk1)
    have HCV1 := Lib.hid (hk1.blk HCV.out (fun f => f))
    have HOV1 := Lib.hid (hk1.blk HOV.out (fun f => f))
    have HBV1 := Lib.hid (hk1.blk HBV.out (fun f => f))
    have HXV1 := Lib.hid (hk1.blk HXV.out (fun f => f))
    have e0 := HXV1.out.cell 0 rfl; have e1 := HXV1.out.cell 1 rfl; have e2 := HXV1.out.cell 2 rfl; have e3 := HXV1.out.cell 3 rfl
    clear hk1 HKV HCV HOV HBV HXV
    go_wp2_with fail
    refine (HXX.out.2.2 V1 HKV1.out).mono ?_
    rintro e V2 ⟨rfl, hk2⟩
    have HKV2 := Lib.hid (HKV1.out.trans hk2)
    have HCV2 := Lib.hid (hk2.blk HCV1.out (fun f => f))
    have HOV2 := Lib.hid (hk2.blk HOV1.out (fun f => f))
    have HBV2 := Lib.hid (hk2.blk HBV1.out (fun f => f))
    have HXV2 := Lib.hid (hk2.blk HXV1.out (fun f => f))
    clear hk2 HKV1 HCV1 HOV1 HBV1 HXV1 e0 e1 e2 e3
    go_wp2_with fail
    have a0 := cell_regrown (HCV2.out.cell 0 rfl); have a1 := cell_regrown (HCV2.out.cell 1 rfl); have a2 := cell_regrown (HCV2.out.cell 2 rfl); have a3 := cell_regrown (HCV2.out.cell 3 rfl); have a4 := cell_regrown (HCV2.out.cell 4 rfl); have a5 := cell_regrown (HCV2.out.cell 5 rfl); have a6 := cell_regrown (HCV2.out.cell 6 rfl)
    have b0 := cell_regrown (HOV2.out.cell 0 rfl); have b1 := cell_regrown (HOV2.out.cell 1 rfl); have b2 := cell_regrown (HOV2.out.cell 2 rfl); have b3 := cell_regrown (HOV2.out.cell 3 rfl)
    have d0 := cell_regrown (HBV2.out.cell 0 rfl); have d1 := cell_regrown (HBV2.out.cell 1 rfl); have d2 := cell_regrown (HBV2.out.cell 2 rfl); have d3 := cell_regrown (HBV2.out.cell 3 rfl)
    have e0 := cell_regrown (HXV2.out.cell 0 rfl); have e1 := cell_regrown (HXV2.out.cell 1 rfl); have e2 := cell_regrown (HXV2.out.cell 2 rfl); have e3 := cell_regrown (HXV2.out.cell 3 rfl)
    refine wp_region_quiet_below (by kernel_rfl) (by kernel_rfl) ?_
    quiet_step (fail)
    refine wpQuiet_step (fun K hK => ?_)
    go_simp
    apply Exists.intro
    refine ⟨fun _ => ?_, hK _ ?_⟩
    · exact calls_regrown (HXX.out.1 _ (HKV2.out.trans (keep_regrown _ _ _)))
    clear hK K
    quiet_step (fail)
    quiet_step (fail)
    quiet_step (fail)
    quiet_step (fail)
    quiet_step (fail)
    refine wpQuiet_step (fun K hK => ?_)
    go_simp
    apply Exists.intro
    refine ⟨fun _ => ?_, hK _ ?_⟩
    · exact calls_regrown (HXX.out.2.1 _ (HKV2.out.trans (keep_regrown _ _ _)))
    clear hK K
    quiet_step (fail)
    quiet_step (fail)
    refine wpQuiet_step (fun K hK => ?_)
    go_simp
    apply Exists.intro
    refine ⟨fun _ => ?_, hK _ ?_⟩
    · exact calls_regrown (HKO.out _ (HKV2.out.trans (keep_regrown _ _ _)))
    clear hK K
    repeat (quiet_step (exact calls_regrown (HAW.out _ (HKV2.out.trans (keep_regrown _ _ _)))))
    refine wpQuiet_nil ?_
    intro _ hw9
    obtain ⟨⟨dq, osq⟩, hw8⟩ := hw9
    subst hw8
    have hk3 := HKV2.out.trans (keep_regrown V2 dq osq)
    clear a0 a1 a2 a3 a4 a5 a6 b0 b1 b2 b3 d0 d1 d2 d3 e0 e1 e2 e3
    generalize grow (redrawn V2 dq) osq = w3 at hk3 ⊢
    go_wp2_with fail
    go_ret
    exact ⟨rfl, hk3⟩
end Go.Proofs.YtdplakfmdkjfdaaDoor
