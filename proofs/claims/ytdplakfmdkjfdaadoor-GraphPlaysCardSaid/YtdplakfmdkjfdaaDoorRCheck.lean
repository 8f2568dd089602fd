/- Check of the reference 17. -/
import Derived.Test.YtdplakfmdkjfdaaDoorRRight
import Derived.Test.YtdplakfmdkjfdaaDoorGPlain
import Derived.Deep.QuietTactic
import Derived.BigQuiet
import Derived.Deep.DeepCutAuto
namespace Go.Proofs.YtdplakfmdkjfdaaDoor
open Go.RowKit Go.Sort

theorem kind_cases {k : Int} (h : isKind k = true) : k = 1 ∨ k = 2 ∨ k = 3 ∨ k = 4 ∨ k = 5 ∨ k = 6 ∨ k = 7 ∨ k = 8 := by
  simp [isKind] at h
  omega
theorem not_kind {k : Int} (h : isKind k = false) : (k == 1) = false ∧ (k == 2) = false ∧ (k == 3) = false ∧ (k == 4) = false ∧ (k == 5) = false ∧ (k == 6) = false ∧ (k == 7) = false ∧ (k == 8) = false := by
  simp [isKind] at h
  simp
  omega

set_option maxRecDepth 4000 in
set_option maxHeartbeats 1000000 in
theorem rWord_any (k : Int) (w : World) : Calls Tryd.prog 43 #[.int .i64 k] w fun e w' => e = .returned (.string ⟨(wordL k).toArray⟩) ∧ w = w' := by
  cases h : isKind k with
  | false =>
    have HE : Hid (wordL k = []) := by simp [Hid, wordL, h]
    obtain ⟨h1, h2, h3, h4, h5, h6, h7, h8⟩ := not_kind h
    rw [HE.out]
    clear h
    go_enter Tryd.func43, Tryd.ntmps43
    go_wp2_with fail
    go_ret
    exact ⟨rfl, rfl⟩
  | true =>
    rcases kind_cases h with rfl | rfl | rfl | rfl | rfl | rfl | rfl | rfl
    all_goals
      go_enter Tryd.func43, Tryd.ntmps43
      go_wp2_with fail
      go_ret
      exact ⟨rfl, rfl⟩

def bad (n below : Int) : Bool := decide (n < 0) || decide (below ≤ n)
theorem wrong_bad (cur n below e : Int) : wrongStep cur n below e = if cur = 0 ∧ bad n below = true then e else cur := by
  unfold wrongStep bad
  simp
theorem wrong_z (n below e : Int) : wrongStep 0 n below e = if bad n below = true then e else 0 := by
  rw [wrong_bad]
  simp
section
variable {c : Conf} (hok : c.ok = true) (a b t : Int)
include hok
theorem chk1 : chk c ⟨1, a, b, t⟩ = if bad a c.r = true then 5 else if bad b 16 = true then 8 else 0 := by
  have e : chk c ⟨1, a, b, t⟩ = wrongStep (wrongStep 0 a c.r 5) b 16 8 := by
    unfold chk
    rw [hok]
    rfl
  rw [e, wrong_z, wrong_bad]
  cases bad a c.r <;> simp
theorem chk2 (k : Int) (hk : k = 2 ∨ k = 7) : chk c ⟨k, a, b, t⟩ = if bad a c.r = true then 5 else if bad b c.r = true then 5 else 0 := by
  rcases hk with rfl | rfl
  · have e : chk c ⟨2, a, b, t⟩ = wrongStep (wrongStep 0 a c.r 5) b c.r 5 := by
      unfold chk
      rw [hok]
      rfl
    rw [e, wrong_z, wrong_bad]
    cases bad a c.r <;> simp
  · have e : chk c ⟨7, a, b, t⟩ = wrongStep (wrongStep 0 a c.r 5) b c.r 5 := by
      unfold chk
      rw [hok]
      rfl
    rw [e, wrong_z, wrong_bad]
    cases bad a c.r <;> simp
theorem chk3 : chk c ⟨3, a, b, t⟩ = if bad a c.r = true then 5 else if bad t c.r = true then 5 else 0 := by
  have e : chk c ⟨3, a, b, t⟩ = wrongStep (wrongStep 0 a c.r 5) t c.r 5 := by
    unfold chk
    rw [hok]
    rfl
  rw [e, wrong_z, wrong_bad]
  cases bad a c.r <;> simp
theorem chk4 : chk c ⟨4, a, b, t⟩ = if bad a c.r = true then 5 else if bad b c.c = true then 9 else 0 := by
  have e : chk c ⟨4, a, b, t⟩ = wrongStep (wrongStep 0 a c.r 5) b c.c 9 := by
    unfold chk
    rw [hok]
    rfl
  rw [e, wrong_z, wrong_bad]
  cases bad a c.r <;> simp
theorem chk5 : chk c ⟨5, a, b, t⟩ = if bad a c.c = true then 9 else if bad b c.r = true then 5 else 0 := by
  have e : chk c ⟨5, a, b, t⟩ = wrongStep (wrongStep 0 a c.c 9) b c.r 5 := by
    unfold chk
    rw [hok]
    rfl
  rw [e, wrong_z, wrong_bad]
  cases bad a c.c <;> simp
theorem chk6 : chk c ⟨6, a, b, t⟩ = if bad a c.r = true then 5 else 0 := by
  have e : chk c ⟨6, a, b, t⟩ = wrongStep 0 a c.r 5 := by
    unfold chk
    rw [hok]
    rfl
  rw [e, wrong_z]
theorem chk8 : chk c ⟨8, a, b, t⟩ = 0 := by
  unfold chk
  rw [hok]
  rfl
end

set_option maxRecDepth 4000 in
set_option maxHeartbeats 8000000 in
theorem rCheck_any (c : Conf) (o : OpR) (w : World) : Calls Tryd.prog 37 #[.agg c.cells.toArray, .agg o.cells.toArray] w fun e w' => e = .returned (.int .i64 (chk c o)) ∧ Keep none_ w w' := by
  have HR := Lib.hid (fun W => rRight_any c W)
  obtain ⟨W0, hW0⟩ : ∃ W', W' = (w.alloc (.cells c.cells.toArray 23)).alloc (.cells o.cells.toArray 35) := ⟨_, rfl⟩
  have HK0 : Hid (Keep none_ w W0) := by rw [hW0]; exact ((Keep.refl _ _).alloc _).alloc _
  have HC0 : Hid (Blk W0 w.heap.size c.cells 23) := by rw [hW0]; exact (Blk.new w _ _).alloc _
  have HO0 : Hid (Blk W0 (w.heap.size + 1) o.cells 35) := by rw [hW0]; have h := Blk.new (w.alloc (.cells c.cells.toArray 23)) o.cells 35; simp only [World.size_alloc] at h; exact h
  have HW := Lib.hid (fun W => rWord_any o.k W)
  obtain ⟨z, hz⟩ : ∃ z, z = chk c o := ⟨_, rfl⟩
  rw [← hz]
  have HZ := Lib.hid hz
  clear hz
  obtain ⟨c0, c1, c2, c3, c4, c5, c6⟩ := c
  obtain ⟨k, a, b, t⟩ := o
  simp only [Conf.cells, OpR.cells] at HC0 HO0 hW0 HR HW ⊢
  have y0 := HC0.out.cell 0 rfl; have y1 := HC0.out.cell 1 rfl; have y2 := HC0.out.cell 2 rfl; have y3 := HC0.out.cell 3 rfl; have y4 := HC0.out.cell 4 rfl; have y5 := HC0.out.cell 5 rfl; have y6 := HC0.out.cell 6 rfl
  go_enter Tryd.func37, Tryd.ntmps37
  go_wp2_with fail
  rw [← hW0]
  clear hW0
  refine (HR.out W0).mono ?_
  rintro e W1 ⟨rfl, hk1⟩
  have HK1 := Lib.hid (HK0.out.trans hk1)
  have HC1 := Lib.hid (hk1.blk HC0.out (fun f => f))
  have HO1 := Lib.hid (hk1.blk HO0.out (fun f => f))
  clear hk1 HK0 HC0 HO0 HR y0 y1 y2 y3 y4 y5 y6
  generalize w.heap.size = C at *
  cases hok : Conf.ok ⟨c0, c1, c2, c3, c4, c5, c6⟩ with
  | false =>
    have HE : Hid (z = 1) := by rw [Hid, HZ.out]; simp [chk, hok]
    clear hok
    go_wp2_with fail
    go_ret
    exact ⟨by rw [HE.out]; rfl, HK1.out⟩
  | true =>
    have x0 := HO1.out.cell 0 rfl
    cases hik : isKind k with
    | false =>
      have HE : Hid (z = 1) := by rw [Hid, HZ.out]; simp [chk, hik]
      have hwl : wordL k = [] := by simp [wordL, hik]
      have HWW := Lib.hid (HW.out W1)
      rw [hwl] at HWW
      clear hok hik hwl
      go_wp2_with (go_at_call 43; refine HWW.out.mono ?_; rintro e w2 ⟨rfl, rfl⟩)
      go_ret
      exact ⟨by rw [HE.out]; rfl, HK1.out⟩
    | true =>
      have HOK := Lib.hid hok
      have HIK := Lib.hid hik
      have HWW := Lib.hid (HW.out W1)
      have hwn : ((⟨(wordL k).toArray⟩ : ByteArray).toList).isEmpty = false := by
        rcases kind_cases hik with rfl | rfl | rfl | rfl | rfl | rfl | rfl | rfl <;> kernel_rfl
      clear hok hik
      generalize (⟨(wordL k).toArray⟩ : ByteArray) = wd at *
      go_wp2_with (go_at_call 43; refine HWW.out.mono ?_; rintro e w2 ⟨rfl, rfl⟩)
      clear HWW HW hwn x0
      go_cut [5, 6, 7] (fun s5 s6 s7 wx => s5 = .bool (bad a c3) ∧ s6 = .bool (bad b c3) ∧ s7 = .bool (bad t c3) ∧ Hid (Keep none_ W1 wx))
      case first =>
        have x1 := HO1.out.cell 1 rfl; have x2 := HO1.out.cell 2 rfl; have x3 := HO1.out.cell 3 rfl
        have y3 := HC1.out.cell 3 rfl
        have key : ∀ n : Int, (decide (n < 0) = true ∧ Hid (bad n c3 = true)) ∨ (decide (n < 0) = false ∧ Hid (bad n c3 = decide (c3 ≤ n))) := fun n => by
          by_cases h : n < 0
          · exact .inl ⟨decide_eq_true h, by simp [Hid, bad, h]⟩
          · exact .inr ⟨decide_eq_false h, by simp [Hid, bad, h]⟩
        have KA := Lib.hid (key a)
        have KB := Lib.hid (key b)
        have KT := Lib.hid (key t)
        clear key
        rcases KA.out with ⟨ha, HA⟩ | ⟨ha, HA⟩ <;> rcases KB.out with ⟨hb, HB⟩ | ⟨hb, HB⟩ <;> rcases KT.out with ⟨ht, HT⟩ | ⟨ht, HT⟩
        all_goals
          go_quiet (fail)
          go_wp2_with fail
          go_meet
          case rel => exact ⟨by rw [HA.out], by rw [HB.out], by rw [HT.out], (Keep.refl _ _).drewN _⟩
      case rest =>
        obtain ⟨rfl, rfl, rfl, HKc⟩ := hcut
        have HKW := Lib.hid (HK1.out.trans HKc.out)
        have HOc := Lib.hid (HKc.out.blk HO1.out (fun f => f))
        have HCc := Lib.hid (HKc.out.blk HC1.out (fun f => f))
        have hA1 : a < 0 ∨ ¬ a < 0 := by omega
        have hB1 : b < 0 ∨ ¬ b < 0 := by omega
        clear HK1 HO1 HC1
        rcases kind_cases HIK.out with rfl | rfl | rfl | rfl | rfl | rfl | rfl | rfl
        · have HE : Hid (z = _) := HZ.out.trans (chk1 HOK.out a b t)
          have x0 := HOc.out.cell 0 rfl; have x1 := HOc.out.cell 1 rfl; have x2 := HOc.out.cell 2 rfl; have y4 := HCc.out.cell 4 rfl
          clear HKc HOc HCc HIK
          generalize hnA : bad a c3 = A at *
          clear hnA
          generalize hnB : bad b c3 = B at *
          clear hnB
          generalize hnT : bad t c3 = T at *
          clear hnT
          cases A with
          | true =>
            go_wp2_with fail
            go_ret
            exact ⟨by rw [HE.out]; rfl, HKW.out⟩
          | false =>
            rcases hB1 with h | h
            · have hs : bad b 16 = true := by simp [bad, h]
              have d1 : decide (b < 0) = true := decide_eq_true h
              rw [hs] at HE
              go_wp2_with fail
              go_ret
              exact ⟨by rw [HE.out]; rfl, HKW.out⟩
            · have d1 : decide (b < 0) = false := decide_eq_false h
              by_cases h2 : 16 ≤ b
              · have hs : bad b 16 = true := by simp [bad, h2]
                have d2 : decide (15 < b) = true := decide_eq_true (by omega)
                rw [hs] at HE
                go_wp2_with fail
                go_ret
                exact ⟨by rw [HE.out]; rfl, HKW.out⟩
              · have hs : bad b 16 = false := by simp [bad]; omega
                have d2 : decide (15 < b) = false := decide_eq_false (by omega)
                rw [hs] at HE
                go_wp2_with fail
                go_ret
                exact ⟨by rw [HE.out]; rfl, HKW.out⟩
        · have HE : Hid (z = _) := HZ.out.trans (chk2 HOK.out a b t 2 (.inl rfl))
          have x0 := HOc.out.cell 0 rfl; have x1 := HOc.out.cell 1 rfl; have x2 := HOc.out.cell 2 rfl; have y4 := HCc.out.cell 4 rfl
          clear HKc HOc HCc HIK
          generalize hnA : bad a c3 = A at *
          clear hnA
          generalize hnB : bad b c3 = B at *
          clear hnB
          generalize hnT : bad t c3 = T at *
          clear hnT
          cases A with
          | true =>
            go_wp2_with fail
            go_ret
            exact ⟨by rw [HE.out]; rfl, HKW.out⟩
          | false =>
            cases B with
            | true =>
              go_wp2_with fail
              go_ret
              exact ⟨by rw [HE.out]; rfl, HKW.out⟩
            | false =>
              go_wp2_with fail
              go_ret
              exact ⟨by rw [HE.out]; rfl, HKW.out⟩
        · have HE : Hid (z = _) := HZ.out.trans (chk3 HOK.out a b t)
          have x0 := HOc.out.cell 0 rfl; have x1 := HOc.out.cell 1 rfl; have x2 := HOc.out.cell 2 rfl; have y4 := HCc.out.cell 4 rfl
          clear HKc HOc HCc HIK
          generalize hnA : bad a c3 = A at *
          clear hnA
          generalize hnB : bad b c3 = B at *
          clear hnB
          generalize hnT : bad t c3 = T at *
          clear hnT
          cases A with
          | true =>
            go_wp2_with fail
            go_ret
            exact ⟨by rw [HE.out]; rfl, HKW.out⟩
          | false =>
            cases T with
            | true =>
              go_wp2_with fail
              go_ret
              exact ⟨by rw [HE.out]; rfl, HKW.out⟩
            | false =>
              go_wp2_with fail
              go_ret
              exact ⟨by rw [HE.out]; rfl, HKW.out⟩
        · have HE : Hid (z = _) := HZ.out.trans (chk4 HOK.out a b t)
          have x0 := HOc.out.cell 0 rfl; have x1 := HOc.out.cell 1 rfl; have x2 := HOc.out.cell 2 rfl; have y4 := HCc.out.cell 4 rfl
          clear HKc HOc HCc HIK
          generalize hnA : bad a c3 = A at *
          clear hnA
          generalize hnB : bad b c3 = B at *
          clear hnB
          generalize hnT : bad t c3 = T at *
          clear hnT
          cases A with
          | true =>
            go_wp2_with fail
            go_ret
            exact ⟨by rw [HE.out]; rfl, HKW.out⟩
          | false =>
            rcases hB1 with h | h
            · have hs : bad b c4 = true := by simp [bad, h]
              have d1 : decide (b < 0) = true := decide_eq_true h
              rw [hs] at HE
              go_wp2_with fail
              go_ret
              exact ⟨by rw [HE.out]; rfl, HKW.out⟩
            · have d1 : decide (b < 0) = false := decide_eq_false h
              by_cases h2 : c4 ≤ b
              · have hs : bad b c4 = true := by simp [bad, h2]
                have d2 : decide (c4 ≤ b) = true := decide_eq_true (by omega)
                rw [hs] at HE
                go_wp2_with fail
                go_ret
                exact ⟨by rw [HE.out]; rfl, HKW.out⟩
              · have hs : bad b c4 = false := by simp [bad]; omega
                have d2 : decide (c4 ≤ b) = false := decide_eq_false (by omega)
                rw [hs] at HE
                go_wp2_with fail
                go_ret
                exact ⟨by rw [HE.out]; rfl, HKW.out⟩
        · have HE : Hid (z = _) := HZ.out.trans (chk5 HOK.out a b t)
          have x0 := HOc.out.cell 0 rfl; have x1 := HOc.out.cell 1 rfl; have x2 := HOc.out.cell 2 rfl; have y4 := HCc.out.cell 4 rfl
          clear HKc HOc HCc HIK
          generalize hnA : bad a c3 = A at *
          clear hnA
          generalize hnB : bad b c3 = B at *
          clear hnB
          generalize hnT : bad t c3 = T at *
          clear hnT
          cases B with
          | true =>
            rcases hA1 with h | h
            · have hs : bad a c4 = true := by simp [bad, h]
              have d1 : decide (a < 0) = true := decide_eq_true h
              rw [hs] at HE
              go_wp2_with fail
              go_ret
              exact ⟨by rw [HE.out]; rfl, HKW.out⟩
            · have d1 : decide (a < 0) = false := decide_eq_false h
              by_cases h2 : c4 ≤ a
              · have hs : bad a c4 = true := by simp [bad, h2]
                have d2 : decide (c4 ≤ a) = true := decide_eq_true (by omega)
                rw [hs] at HE
                go_wp2_with fail
                go_ret
                exact ⟨by rw [HE.out]; rfl, HKW.out⟩
              · have hs : bad a c4 = false := by simp [bad]; omega
                have d2 : decide (c4 ≤ a) = false := decide_eq_false (by omega)
                rw [hs] at HE
                go_wp2_with fail
                go_ret
                exact ⟨by rw [HE.out]; rfl, HKW.out⟩
          | false =>
            rcases hA1 with h | h
            · have hs : bad a c4 = true := by simp [bad, h]
              have d1 : decide (a < 0) = true := decide_eq_true h
              rw [hs] at HE
              go_wp2_with fail
              go_ret
              exact ⟨by rw [HE.out]; rfl, HKW.out⟩
            · have d1 : decide (a < 0) = false := decide_eq_false h
              by_cases h2 : c4 ≤ a
              · have hs : bad a c4 = true := by simp [bad, h2]
                have d2 : decide (c4 ≤ a) = true := decide_eq_true (by omega)
                rw [hs] at HE
                go_wp2_with fail
                go_ret
                exact ⟨by rw [HE.out]; rfl, HKW.out⟩
              · have hs : bad a c4 = false := by simp [bad]; omega
                have d2 : decide (c4 ≤ a) = false := decide_eq_false (by omega)
                rw [hs] at HE
                go_wp2_with fail
                go_ret
                exact ⟨by rw [HE.out]; rfl, HKW.out⟩
        · have HE : Hid (z = _) := HZ.out.trans (chk6 HOK.out a b t)
          have x0 := HOc.out.cell 0 rfl; have x1 := HOc.out.cell 1 rfl; have x2 := HOc.out.cell 2 rfl; have y4 := HCc.out.cell 4 rfl
          clear HKc HOc HCc HIK
          generalize hnA : bad a c3 = A at *
          clear hnA
          generalize hnB : bad b c3 = B at *
          clear hnB
          generalize hnT : bad t c3 = T at *
          clear hnT
          cases A with
          | true =>
            go_wp2_with fail
            go_ret
            exact ⟨by rw [HE.out]; rfl, HKW.out⟩
          | false =>
            go_wp2_with fail
            go_ret
            exact ⟨by rw [HE.out]; rfl, HKW.out⟩
        · have HE : Hid (z = _) := HZ.out.trans (chk2 HOK.out a b t 7 (.inr rfl))
          have x0 := HOc.out.cell 0 rfl; have x1 := HOc.out.cell 1 rfl; have x2 := HOc.out.cell 2 rfl; have y4 := HCc.out.cell 4 rfl
          clear HKc HOc HCc HIK
          generalize hnA : bad a c3 = A at *
          clear hnA
          generalize hnB : bad b c3 = B at *
          clear hnB
          generalize hnT : bad t c3 = T at *
          clear hnT
          cases A with
          | true =>
            go_wp2_with fail
            go_ret
            exact ⟨by rw [HE.out]; rfl, HKW.out⟩
          | false =>
            cases B with
            | true =>
              go_wp2_with fail
              go_ret
              exact ⟨by rw [HE.out]; rfl, HKW.out⟩
            | false =>
              go_wp2_with fail
              go_ret
              exact ⟨by rw [HE.out]; rfl, HKW.out⟩
        · have HE : Hid (z = _) := HZ.out.trans (chk8 HOK.out a b t)
          have x0 := HOc.out.cell 0 rfl; have x1 := HOc.out.cell 1 rfl; have x2 := HOc.out.cell 2 rfl; have y4 := HCc.out.cell 4 rfl
          clear HKc HOc HCc HIK
          generalize hnA : bad a c3 = A at *
          clear hnA
          generalize hnB : bad b c3 = B at *
          clear hnB
          generalize hnT : bad t c3 = T at *
          clear hnT
          go_wp2_with fail
          go_ret
          exact ⟨by rw [HE.out]; rfl, HKW.out⟩
end Go.Proofs.YtdplakfmdkjfdaaDoor
