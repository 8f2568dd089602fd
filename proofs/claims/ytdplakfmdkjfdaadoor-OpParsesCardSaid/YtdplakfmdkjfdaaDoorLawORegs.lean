/- The walk of OpRegs. -/
import Derived.Test.YtdplakfmdkjfdaaDoorOpLaid
import Derived.Test.YtdplakfmdkjfdaaDoorGPlain
import Derived.Deep.QuietTactic
import Derived.BigQuiet
import Derived.Deep.RegionWith
namespace Go.Proofs.YtdplakfmdkjfdaaDoor
open Go.RowKit Go.Sort

theorem wrong_ok {n below e : Int} (h1 : 0 ≤ n) (h2 : n < below) : wrongStep 0 n below e = 0 := by
  unfold wrongStep
  rw [if_neg (by omega)]
theorem letter_zero {c : Conf} {cur : Int} {l : UInt8} {n : Int} (h : letterStep c cur l n = 0) : cur = 0 := by
  unfold letterStep at h
  split at h
  · exact (wrong_zero (by decide) h).1
  · split at h
    · exact (wrong_zero (by decide) h).1
    · split at h
      · exact (wrong_zero (by decide) h).1
      · exact h
theorem letter_mono {c d : Conf} (hr : c.r ≤ d.r) (hc : c.c ≤ d.c) {l : UInt8} {n : Int} (h : letterStep c 0 l n = 0) : letterStep d 0 l n = 0 := by
  unfold letterStep at *
  split at h
  · rename_i h1
    rw [if_pos h1]
    have := (wrong_zero (by decide) h).2
    exact wrong_ok this.1 (by omega)
  · rename_i h1
    rw [if_neg h1]
    split at h
    · rename_i h2
      rw [if_pos h2]
      have := (wrong_zero (by decide) h).2
      exact wrong_ok this.1 (by omega)
    · rename_i h2
      rw [if_neg h2]
      exact h
theorem chkN_mono {c d : Conf} (hr : c.r ≤ d.r) (hc : c.c ≤ d.c) (o : OpR) : ∀ j, chkN c o j = 0 → chkN d o j = 0
  | 0, _ => rfl
  | j + 1, h => by
    rw [chkN] at h ⊢
    have h1 := letter_zero h
    rw [h1] at h
    rw [chkN_mono hr hc o j h1]
    exact letter_mono hr hc h
theorem chk_mono {c d : Conf} (hr : c.r ≤ d.r) (hc : c.c ≤ d.c) (hd : d.ok = true) (o : OpR) (h : chk c o = 0) : chk d o = 0 := by
  obtain ⟨h1, h2⟩ := chk_kind h
  unfold chk
  rw [hd, h1]
  exact chkN_mono hr hc o _ h2
theorem chkN_small {d : Conf} (hr : d.r = 64) (hc : d.c = 64) {o : OpR} (ha : 0 ≤ o.a ∧ o.a < 64) (hb : 0 ≤ o.b ∧ o.b < 64) (hcc : 0 ≤ o.c ∧ o.c < 64) : ∀ j, chkN d o j = 0 ∨ chkN d o j = 8
  | 0 => .inl rfl
  | j + 1 => by
    have ih := chkN_small hr hc ha hb hcc j
    have hn : 0 ≤ numOf o j ∧ numOf o j < 64 := by
      unfold numOf
      split
      · exact ha
      · split
        · exact hb
        · exact hcc
    rw [chkN]
    generalize chkN d o j = cur at *
    generalize numOf o j = n at *
    unfold letterStep wrongStep
    rw [hr, hc]
    split
    · rw [if_neg (by omega)]; exact ih
    · split
      · rw [if_neg (by omega)]; exact ih
      · split
        · split
          · exact .inr rfl
          · exact ih
        · exact ih
theorem chk_small {d : Conf} (hr : d.r = 64) (hc : d.c = 64) {o : OpR} (ha : 0 ≤ o.a ∧ o.a < 64) (hb : 0 ≤ o.b ∧ o.b < 64) (hcc : 0 ≤ o.c ∧ o.c < 64) : chk d o ≠ 5 ∧ chk d o ≠ 9 := by
  unfold chk
  split
  · rcases chkN_small hr hc ha hb hcc (useL o.k).length with h | h <;> rw [h] <;> decide
  · decide

theorem op_of {cs : List Value} (h : FlatOk [.int .i64, .int .i64, .int .i64, .int .i64] cs) : ∃ o : OpR, cs = o.cells ∧ o.wf := by
  obtain ⟨v0, h0, x0, rfl, y0⟩ := h.at_ 0 _ rfl
  obtain ⟨v1, h1, x1, rfl, y1⟩ := h.at_ 1 _ rfl
  obtain ⟨v2, h2, x2, rfl, y2⟩ := h.at_ 2 _ rfl
  obtain ⟨v3, h3, x3, rfl, y3⟩ := h.at_ 3 _ rfl
  have hl := h.len
  match cs, hl with
  | [a0, a1, a2, a3], _ =>
    simp at h0 h1 h2 h3
    exact ⟨⟨x0, x1, x2, x3⟩, by simp [OpR.cells, h0, h1, h2, h3], y0, y1, y2, y3⟩

set_option maxRecDepth 4000 in
set_option maxHeartbeats 4000000 in
theorem opRegs_any (z0 z1 : List Value) (w : World) (h0 : FlatOk [.int .i64, .int .i64, .int .i64, .int .i64, .int .i64, .int .i64, .int .i64] z0) (h1 : FlatOk [.int .i64, .int .i64, .int .i64, .int .i64] z1) (hL : laidMetH Tryd.prog Rows.opRegsRow.laid w) (hS : w.ShapedOpen Tryd.prog) :
    Calls Tryd.prog 10 #[.agg z0.toArray, .agg z1.toArray] w fun e w' => e = .returned (.bool true) ∧ Keep none_ w w' := by
  have HT := Lib.hid (opT_of hL hS)
  clear hL hS
  obtain ⟨c, rfl, -⟩ := conf_of h0
  obtain ⟨o, rfl, hwf⟩ := op_of h1
  have HWF := Lib.hid hwf
  clear h0 h1 hwf
  obtain ⟨c0, c1, c2, c3, c4, c5, c6⟩ := c
  obtain ⟨ok, oa, ob, oc⟩ := o
  simp only [Conf.cells, OpR.cells] at *
  go_enter Tryd.func10, Tryd.ntmps10
  go_wp2_with fail
  obtain ⟨r, hr⟩ : ∃ r : Int, r = max 1 (min 40 c3) := ⟨_, rfl⟩
  obtain ⟨q, hq⟩ : ∃ q : Int, q = max 0 (min 40 c4) := ⟨_, rfl⟩
  have r1 : 1 ≤ r := by omega
  have r2 : r ≤ 40 := by omega
  have q1 : 0 ≤ q := by omega
  have q2 : q ≤ 40 := by omega
  rw [← hr, ← hq]
  clear hr hq
  go_region
  obtain ⟨W1, hW1⟩ : ∃ W', W' = ((w.alloc (.cells #[.int .i64 1, .int .i64 16, .int .i64 1, .int .i64 r, .int .i64 q, .int .i64 1, .int .i64 1] 23)).alloc (.cells #[.int .i64 ok, .int .i64 oa, .int .i64 ob, .int .i64 oc] 35)).alloc (.cells #[.int .i64 1, .int .i64 16, .int .i64 1, .int .i64 (r + 7), .int .i64 (q + 7), .int .i64 1, .int .i64 1] 23) := ⟨_, rfl⟩
  have hk1 : Keep none_ w W1.drew := by rw [hW1]; exact ((((Keep.refl _ _).alloc _).alloc _).alloc _).drew
  have hC1 : Blk W1.drew w.heap.size [.int .i64 1, .int .i64 16, .int .i64 1, .int .i64 r, .int .i64 q, .int .i64 1, .int .i64 1] 23 := by rw [hW1]; exact ((Blk.new w _ _).alloc _).alloc _
  have hO1 : Blk W1.drew (w.heap.size + 1) [.int .i64 ok, .int .i64 oa, .int .i64 ob, .int .i64 oc] 35 := by
    rw [hW1]
    have h := Blk.new (w.alloc (.cells #[.int .i64 1, .int .i64 16, .int .i64 1, .int .i64 r, .int .i64 q, .int .i64 1, .int .i64 1] 23)) [.int .i64 ok, .int .i64 oa, .int .i64 ob, .int .i64 oc] 35
    simp only [World.size_alloc] at h
    exact h.alloc _
  have hD1 : Blk W1.drew (w.heap.size + 1 + 1) [.int .i64 1, .int .i64 16, .int .i64 1, .int .i64 (r + 7), .int .i64 (q + 7), .int .i64 1, .int .i64 1] 23 := by
    rw [hW1]
    have h := Blk.new ((w.alloc (.cells #[.int .i64 1, .int .i64 16, .int .i64 1, .int .i64 r, .int .i64 q, .int .i64 1, .int .i64 1] 23)).alloc (.cells #[.int .i64 ok, .int .i64 oa, .int .i64 ob, .int .i64 oc] 35)) [.int .i64 1, .int .i64 16, .int .i64 1, .int .i64 (r + 7), .int .i64 (q + 7), .int .i64 1, .int .i64 1] 23
    simp only [World.size_alloc] at h
    exact h
  rw [← hW1]
  clear hW1
  obtain ⟨V, hV⟩ : ∃ V, V = W1.drew := ⟨_, rfl⟩
  rw [← hV] at hk1 hC1 hO1 hD1 ⊢
  clear hV
  have H1 : Hid (∀ W, Keep none_ w W → Calls Tryd.prog 35 #[.agg #[.int .i64 1, .int .i64 16, .int .i64 1, .int .i64 r, .int .i64 q, .int .i64 1, .int .i64 1], .agg #[.int .i64 ok, .int .i64 oa, .int .i64 ob, .int .i64 oc]] W fun e w' => e = .returned (.int .i64 (chk ⟨1, 16, 1, r, q, 1, 1⟩ ⟨ok, oa, ob, oc⟩)) ∧ Keep none_ W w') := fun W h => check_any ⟨1, 16, 1, r, q, 1, 1⟩ ⟨ok, oa, ob, oc⟩ W (HT.out.keep h).tabs
  have H2 : Hid (∀ W, Keep none_ w W → Calls Tryd.prog 35 #[.agg #[.int .i64 1, .int .i64 16, .int .i64 1, .int .i64 (r + 7), .int .i64 (q + 7), .int .i64 1, .int .i64 1], .agg #[.int .i64 ok, .int .i64 oa, .int .i64 ob, .int .i64 oc]] W fun e w' => e = .returned (.int .i64 (chk ⟨1, 16, 1, r + 7, q + 7, 1, 1⟩ ⟨ok, oa, ob, oc⟩)) ∧ Keep none_ W w') := fun W h => check_any ⟨1, 16, 1, r + 7, q + 7, 1, 1⟩ ⟨ok, oa, ob, oc⟩ W (HT.out.keep h).tabs
  have H3 : Hid (∀ W, Keep none_ w W → Calls Tryd.prog 35 #[.agg #[.int .i64 1, .int .i64 16, .int .i64 1, .int .i64 64, .int .i64 64, .int .i64 1, .int .i64 1], .agg #[.int .i64 ok, .int .i64 oa, .int .i64 ob, .int .i64 oc]] W fun e w' => e = .returned (.int .i64 (chk ⟨1, 16, 1, 64, 64, 1, 1⟩ ⟨ok, oa, ob, oc⟩)) ∧ Keep none_ W w') := fun W h => check_any ⟨1, 16, 1, 64, 64, 1, 1⟩ ⟨ok, oa, ob, oc⟩ W (HT.out.keep h).tabs
  have HM : Hid (chk ⟨1, 16, 1, r, q, 1, 1⟩ ⟨ok, oa, ob, oc⟩ = 0 → chk ⟨1, 16, 1, r + 7, q + 7, 1, 1⟩ ⟨ok, oa, ob, oc⟩ = 0) := chk_mono (by simp only; omega) (by simp only; omega) (by
    have e2 : ∀ (x : Bool) (q : Prop) [Decidable q], x = true → q → (x && decide q) = true := fun x q _ hp hq => by rw [hp, decide_eq_true hq]; rfl
    have e : ∀ (p q : Prop) [Decidable p] [Decidable q], p → q → (decide p && decide q) = true := fun p q _ _ hp hq => by rw [decide_eq_true hp, decide_eq_true hq]; rfl
    unfold Conf.ok
    simp only
    exact e2 _ _ (e2 _ _ (e2 _ _ (e2 _ _ (e2 _ _ (e _ _ (by omega) (by omega)) (by omega)) (by omega)) (by omega)) (by omega)) (by omega)) _
  have HSM : Hid (0 ≤ oa ∧ oa < 64 → 0 ≤ ob ∧ ob < 64 → 0 ≤ oc ∧ oc < 64 → chk ⟨1, 16, 1, 64, 64, 1, 1⟩ ⟨ok, oa, ob, oc⟩ ≠ 5 ∧ chk ⟨1, 16, 1, 64, 64, 1, 1⟩ ⟨ok, oa, ob, oc⟩ ≠ 9) := fun h1 h2 h3 => chk_small rfl rfl h1 h2 h3
  generalize chk ⟨1, 16, 1, r, q, 1, 1⟩ ⟨ok, oa, ob, oc⟩ = e at *
  generalize chk ⟨1, 16, 1, r + 7, q + 7, 1, 1⟩ ⟨ok, oa, ob, oc⟩ = f at *
  generalize chk ⟨1, 16, 1, 64, 64, 1, 1⟩ ⟨ok, oa, ob, oc⟩ = g at *
  have HK1 := Lib.hid hk1
  have HC1 := Lib.hid hC1
  have HO1 := Lib.hid hO1
  have HD1 := Lib.hid hD1
  have a0 := cell_regrown (hC1.cell 0 rfl); have a1 := cell_regrown (hC1.cell 1 rfl); have a2 := cell_regrown (hC1.cell 2 rfl); have a3 := cell_regrown (hC1.cell 3 rfl); have a4 := cell_regrown (hC1.cell 4 rfl); have a5 := cell_regrown (hC1.cell 5 rfl); have a6 := cell_regrown (hC1.cell 6 rfl)
  have b0 := cell_regrown (hO1.cell 0 rfl); have b1 := cell_regrown (hO1.cell 1 rfl); have b2 := cell_regrown (hO1.cell 2 rfl); have b3 := cell_regrown (hO1.cell 3 rfl)
  have c0 := cell_regrown (hD1.cell 0 rfl); have c1 := cell_regrown (hD1.cell 1 rfl); have c2 := cell_regrown (hD1.cell 2 rfl); have c3 := cell_regrown (hD1.cell 3 rfl); have c4 := cell_regrown (hD1.cell 4 rfl); have c5 := cell_regrown (hD1.cell 5 rfl); have c6 := cell_regrown (hD1.cell 6 rfl)
  clear hk1 hC1 hO1 hD1
  go_wp2_with fail
  refine wp_region_quiet_below (by kernel_rfl) (by kernel_rfl) ?_
  quiet_step (fail)
  quiet_step (fail)
  refine wpQuiet_step (fun K hK => ?_)
  go_simp
  apply Exists.intro
  refine ⟨fun _ => ?_, hK _ ?_⟩
  · exact calls_regrown (H1.out _ (HK1.out.trans (keep_regrown _ _ _)))
  clear hK K
  quiet_step (fail)
  quiet_step (fail)
  refine wpQuiet_step (fun K hK => ?_)
  go_simp
  apply Exists.intro
  refine ⟨fun _ => ?_, hK _ ?_⟩
  · exact calls_regrown (H2.out _ (HK1.out.trans (keep_regrown _ _ _)))
  clear hK K
  repeat (quiet_step (fail))
  refine wpQuiet_nil ?_
  intro _ hw9
  obtain ⟨⟨dq, osq⟩, hw8⟩ := hw9
  subst hw8
  have hk3 := keep_regrown V dq osq
  generalize grow (redrawn V dq) osq = w3 at hk3 ⊢
  have HK3 := Lib.hid (HK1.out.trans hk3)
  have HO3 := Lib.hid (hk3.blk HO1.out (fun f => f))
  have HD3 := Lib.hid (hk3.blk HD1.out (fun f => f))
  clear a0 a1 a2 a3 a4 a5 a6 b0 b1 b2 b3 c0 c1 c2 c3 c4 c5 c6 HK1 HC1 HO1 HD1 H1 H2 hk3
  have z3 := HD3.out.free 3; have z4 := HD3.out.free 4; have y3 := HD3.out.cell 3 rfl; have y4 := HD3.out.cell 4 rfl
  have y0 := HD3.out.cell 0 rfl; have y1 := HD3.out.cell 1 rfl; have y2 := HD3.out.cell 2 rfl; have y5 := HD3.out.cell 5 rfl; have y6 := HD3.out.cell 6 rfl
  have v0 := HO3.out.cell 0 rfl; have v1 := HO3.out.cell 1 rfl; have v2 := HO3.out.cell 2 rfl; have v3 := HO3.out.cell 3 rfl
  obtain ⟨W4, hW4⟩ : ∃ W', W' = (w3.setCell ⟨w.heap.size + 1 + 1, 3, none⟩ (.int .i64 64)).setCell ⟨w.heap.size + 1 + 1, 4, none⟩ (.int .i64 64) := ⟨_, rfl⟩
  have hD4 : Blk W4 (w.heap.size + 1 + 1) [.int .i64 1, .int .i64 16, .int .i64 1, .int .i64 64, .int .i64 64, .int .i64 1, .int .i64 1] 23 := by rw [hW4]; exact (HD3.out.set 3 _).set 4 _
  have hO4 : Blk W4 (w.heap.size + 1) [.int .i64 ok, .int .i64 oa, .int .i64 ob, .int .i64 oc] 35 := by rw [hW4]; exact (HO3.out.other (a := ⟨w.heap.size + 1 + 1, 3, none⟩) (by simp) _).other (a := ⟨w.heap.size + 1 + 1, 4, none⟩) (by simp) _
  have hK4 : Keep none_ w W4 := by rw [hW4]; exact (HK3.out.putNew (B := w.heap.size + 1 + 1) (by omega) 3 _).putNew (B := w.heap.size + 1 + 1) (by omega) 4 _
  have a0 := hD4.cell 0 rfl; have a1 := hD4.cell 1 rfl; have a2 := hD4.cell 2 rfl; have a3 := hD4.cell 3 rfl; have a4 := hD4.cell 4 rfl; have a5 := hD4.cell 5 rfl; have a6 := hD4.cell 6 rfl
  have b0 := hO4.cell 0 rfl; have b1 := hO4.cell 1 rfl; have b2 := hO4.cell 2 rfl; have b3 := hO4.cell 3 rfl
  have HO4 := Lib.hid hO4
  have HK4 := Lib.hid hK4
  have HW4 := Lib.hid hW4
  have HC4 := Lib.hid (H3.out W4 hK4)
  clear hD4 hO4 hK4 hW4 H3 HK3 HO3
  have HAW := Lib.hid (fun W (h : Keep none_ w W) => awake17_any W (HT.out.keep h))
  have ht : (e == 0) = false ∨ ((e == 0) = true ∧ (f == 0) = true ∧ (f != 0) = false) := by
    by_cases h : e = 0
    · have := HM.out h; exact .inr ⟨by simp [h], by simp [this], by simp [this]⟩
    · exact .inl (by simpa using h)
  have hfin : Hid (∀ w5, Keep none_ W4 w5 → True) := fun _ _ => trivial
  clear hfin
  have hsmall : (¬ oa < 64) ∨ (oa < 64 ∧ ¬ ob < 64) ∨ (oa < 64 ∧ ob < 64 ∧ ¬ oc < 64) ∨ (oa < 64 ∧ ob < 64 ∧ oc < 64 ∧ ¬ 0 ≤ oa) ∨ (oa < 64 ∧ ob < 64 ∧ oc < 64 ∧ 0 ≤ oa ∧ ¬ 0 ≤ ob) ∨ (oa < 64 ∧ ob < 64 ∧ oc < 64 ∧ 0 ≤ oa ∧ 0 ≤ ob ∧ ¬ 0 ≤ oc) ∨ (oa < 64 ∧ ob < 64 ∧ oc < 64 ∧ 0 ≤ oa ∧ 0 ≤ ob ∧ 0 ≤ oc) := by omega
  have HSMALL := Lib.hid hsmall
  clear hsmall
  rcases ht with ht | ⟨ht, ht2, ht3⟩
  all_goals
    go_wp2_with fail
    rw [← HW4.out]
    refine HC4.out.mono ?_
    rintro x w5 ⟨rfl, hk5⟩
    have HK5 := Lib.hid (HK4.out.trans hk5)
    have HO5 := Lib.hid (hk5.blk HO4.out (fun f => f))
    clear hk5
    have b1' := HO5.out.cell 1 rfl; have b2' := HO5.out.cell 2 rfl; have b3' := HO5.out.cell 3 rfl
    rcases HSMALL.out with h1 | ⟨h1, h2⟩ | ⟨h1, h2, h3⟩ | ⟨h1, h2, h3, h4⟩ | ⟨h1, h2, h3, h4, h5⟩ | ⟨h1, h2, h3, h4, h5, h6⟩ | ⟨h1, h2, h3, h4, h5, h6⟩
    · have t1 : decide (oa < 64) = false := decide_eq_false (by omega)
      go_wp2_with (go_at_call 32; refine (HAW.out _ HK5.out).mono ?_; rintro x w6 ⟨rfl, hk6⟩)
      go_ret
      exact ⟨rfl, HK5.out.trans hk6⟩
    · have t1 : decide (ob < 64) = false := decide_eq_false (by omega)
      go_wp2_with (go_at_call 32; refine (HAW.out _ HK5.out).mono ?_; rintro x w6 ⟨rfl, hk6⟩)
      go_ret
      exact ⟨rfl, HK5.out.trans hk6⟩
    · have t1 : decide (oc < 64) = false := decide_eq_false (by omega)
      go_wp2_with (go_at_call 32; refine (HAW.out _ HK5.out).mono ?_; rintro x w6 ⟨rfl, hk6⟩)
      go_ret
      exact ⟨rfl, HK5.out.trans hk6⟩
    · have t1 : decide (0 ≤ oa) = false := decide_eq_false (by omega)
      go_wp2_with (go_at_call 32; refine (HAW.out _ HK5.out).mono ?_; rintro x w6 ⟨rfl, hk6⟩)
      go_ret
      exact ⟨rfl, HK5.out.trans hk6⟩
    · have t1 : decide (0 ≤ ob) = false := decide_eq_false (by omega)
      go_wp2_with (go_at_call 32; refine (HAW.out _ HK5.out).mono ?_; rintro x w6 ⟨rfl, hk6⟩)
      go_ret
      exact ⟨rfl, HK5.out.trans hk6⟩
    · have t1 : decide (0 ≤ oc) = false := decide_eq_false (by omega)
      go_wp2_with (go_at_call 32; refine (HAW.out _ HK5.out).mono ?_; rintro x w6 ⟨rfl, hk6⟩)
      go_ret
      exact ⟨rfl, HK5.out.trans hk6⟩
    · have hg := HSM.out ⟨h4, h1⟩ ⟨h5, h2⟩ ⟨h6, h3⟩
      have g1 : (g == 5) = false := by simpa using hg.1
      have g2 : (g == 9) = false := by simpa using hg.2
      have g3 : (g != 5) = true := by simpa using hg.1
      have g4 : (g != 9) = true := by simpa using hg.2
      clear hg
      go_wp2_with (go_at_call 32; refine (HAW.out _ HK5.out).mono ?_; rintro x w6 ⟨rfl, hk6⟩)
      go_ret
      exact ⟨rfl, HK5.out.trans hk6⟩
end Go.Proofs.YtdplakfmdkjfdaaDoor
