/- Parts of a walk, put together by a small program of mine from texts of their own: Owner2 Geo. -/
import Derived.Test.YtjdnkhljgnjkcaaGreatDoorZze
import Derived.Test.YtjdnkhljgnjkcaaGreatDoorZzh
import Derived.Test.YtjdnkhljgnjkcaaGreatDoorZzc
import Derived.Test.YtjdnkhljgnjkcaaGreatDoorZzd
/- Find and Owner of whatever address. -/
namespace Go.Proofs.YtjdnkhljgnjkcaaGreatDoor
open Go.RowKit

section
variable {c : Conf} {b ww : Nat} (hok : c.ok = true) (hb : c.b = b) (hw : c.w = ww)
include hok hb hw
set_option maxRecDepth 4000 in
set_option maxHeartbeats 1000000 in
theorem adFind_out (k : Nat) (a : Int) (ha : a < 1 ∨ ((b * ww : Nat) : Int) < a) (w : World) (hT : Tabs w) : Calls Tryz.prog 190 #[.agg c.cells.toArray, .int .i64 (k : Int), .int .i64 a] w fun e w' => e = .returned (.tuple #[.agg #[.int .i64 0, .int .i64 0, .int .i64 0], .bool false]) ∧ Keep none_ w w' := by
  obtain ⟨W0, hW0⟩ : ∃ W', W' = (w.alloc (.cells c.cells.toArray 23)).alloc (.cells #[.int .i64 0, .int .i64 0, .int .i64 0] 218) := ⟨_, rfl⟩
  have HK : Hid (Keep none_ w W0) := by rw [hW0]; exact ((Keep.refl _ _).alloc _).alloc _
  have HC := Lib.hid (adBlock_out hok hb hw a ha W0 (hT.keep HK.out))
  have HO : Hid (Blk W0 (w.heap.size + 1) [.int .i64 0, .int .i64 0, .int .i64 0] 218) := by
    rw [hW0]
    have h := Blk.new (w.alloc (.cells c.cells.toArray 23)) [.int .i64 0, .int .i64 0, .int .i64 0] 218
    rw [World.size_alloc] at h
    exact h
  obtain ⟨c0, c1, c2, c3, c4, c5, c6⟩ := c
  simp only [Conf.cells] at *
  have hOg : w.heap.size ≤ w.heap.size + 1 := by omega
  clear hT hok hb hw ha
  go_enter Tryz.func190, Tryz.ntmps190
  go_wp2_with fail
  rw [← hW0]
  clear hW0
  refine HC.out.mono ?_
  rintro e w1 ⟨rfl, hk1⟩
  have HK1 := Lib.hid (HK.out.trans hk1)
  have ho1 := hk1.blk HO.out (fun f => f)
  clear hk1 HK HC HO
  generalize w.heap.size + 1 = O at *
  have o0 := ho1.cell 0 rfl; have o1 := ho1.cell 1 rfl; have o2 := ho1.cell 2 rfl
  have f0 := ho1.free 0; have f1 := ho1.free 1; have f2 := ho1.free 2
  have HO1 := Lib.hid ho1
  clear ho1
  go_wp2_with fail
  obtain ⟨W4, hW4⟩ : ∃ W', W' = (((w1.setCell ⟨O, 0, none⟩ (.int .i64 0)).setCell ⟨O, 1, none⟩ (.int .i64 0)).setCell ⟨O, 2, none⟩ (.int .i64 0)) := ⟨_, rfl⟩
  rw [← hW4]
  have hF : Blk W4 O [.int .i64 0, .int .i64 0, .int .i64 0] 218 := by rw [hW4]; exact ((HO1.out.set 0 _).set 1 _).set 2 _
  have k0 := hF.cell 0 rfl; have k1 := hF.cell 1 rfl; have k2 := hF.cell 2 rfl
  have hk4 : Keep none_ w W4 := by
    rw [hW4]
    exact HK1.out.trans' (((((Keep.refl (only O) w1).put 0 _).put 1 _).put 2 _)) (fun i hi e => absurd hi (by unfold only at e; omega))
  refine bodyPost_ret (v := .tuple #[.agg #[.int .i64 0, .int .i64 0, .int .i64 0], .bool false]) (by simp [results, Tryz.f190, go_sem, k0, k1, k2]) rfl ⟨rfl, hk4⟩
set_option maxRecDepth 4000 in
set_option maxHeartbeats 1000000 in
theorem adFind_past (k B0 L : Nat) (hk : k < 4) (hB : B0 < b) (hL : L < ww) (hs : ww / 2 ^ (k + 1) ≤ L / 2 ^ (k + 1)) (w : World) (hT : Tabs w) (hS : Sizes w) : Calls Tryz.prog 190 #[.agg c.cells.toArray, .int .i64 (k : Int), .int .i64 (((B0 * ww + L : Nat) : Int) + 1)] w fun e w' => e = .returned (.tuple #[.agg #[.int .i64 0, .int .i64 0, .int .i64 0], .bool false]) ∧ Keep none_ w w' := by
  obtain ⟨W0, hW0⟩ : ∃ W', W' = (w.alloc (.cells c.cells.toArray 23)).alloc (.cells #[.int .i64 0, .int .i64 0, .int .i64 0] 218) := ⟨_, rfl⟩
  have HK : Hid (Keep none_ w W0) := by rw [hW0]; exact ((Keep.refl _ _).alloc _).alloc _
  have hn := ok_nat hok hb hw
  have hz := pow_class hk
  have q2 : B0 * ww + L < b * ww := by
    have h3 : (B0 + 1) * ww ≤ b * ww := Nat.mul_le_mul_right ww (Nat.succ_le_of_lt hB)
    have h4 : (B0 + 1) * ww = B0 * ww + ww := by rw [Nat.add_mul, Nat.one_mul]
    omega
  have q3 : (B0 * ww + L) / ww = B0 := by
    rw [Nat.add_comm, Nat.add_mul_div_right _ _ (by omega), Nat.div_eq_of_lt hL, Nat.zero_add]
  have HC := Lib.hid (adBlock_in hok hb hw (B0 * ww + L) q2 W0 (hT.keep HK.out))
  rw [q3] at HC
  have HB := Lib.hid (show Blk W0 w.heap.size c.cells 23 by rw [hW0]; exact (Blk.new w _ _).alloc _)
  have HO : Hid (Blk W0 (w.heap.size + 1) [.int .i64 0, .int .i64 0, .int .i64 0] 218) := by
    rw [hW0]
    have h := Blk.new (w.alloc (.cells c.cells.toArray 23)) [.int .i64 0, .int .i64 0, .int .i64 0] 218
    rw [World.size_alloc] at h
    exact h
  have hI := fun W => clIs_any (k : Int) W
  have HZ : Hid (∀ W, Keep none_ w W → Calls Tryz.prog 145 #[.int .i64 (k : Int)] W fun e w' => e = .returned (.int .i64 ((2 ^ (k + 1) : Nat) : Int)) ∧ W = w') := fun W hW => by
    have h := clSize_any (k : Int) W (hS.keep hW)
    rw [szP_at hk] at h
    simpa using h
  have HP : Hid (∀ W, Keep none_ w W → Calls Tryz.prog 195 #[.int .i64 (ww : Int), .int .i64 (k : Int)] W fun e w' => e = .returned (.int .i64 ((ww / 2 ^ (k + 1) : Nat) : Int)) ∧ W = w') := fun W hW => clPer_any ww k ⟨hn.2.2.1, hn.2.2.2.1⟩ hk W (hS.keep hW)
  have hkd : decide (0 ≤ (k : Int) ∧ (k : Int) < 4) = true := decide_eq_true (by omega)
  simp only [hkd] at hI
  have HI := Lib.hid hI
  clear hI
  obtain ⟨c0, c1, c2, c3, c4, c5, c6⟩ := c
  simp only at hb hw
  subst hb hw
  have hmul : (B0 : Int) * (ww : Int) = ((B0 * ww : Nat) : Int) := by simp
  have hM : B0 * ww ≤ b * ww := Nat.mul_le_mul_right _ (by omega)
  have d1' : decide (((ww / 2 ^ (k + 1) : Nat) : Int) ≤ ((L / 2 ^ (k + 1) : Nat) : Int)) = true := decide_eq_true (by omega)
  obtain ⟨s, hsE⟩ : ∃ s, s = L / 2 ^ (k + 1) := ⟨_, rfl⟩
  obtain ⟨j, hjE⟩ : ∃ j, j = L % 2 ^ (k + 1) := ⟨_, rfl⟩
  rw [← hsE] at d1' hs
  generalize 2 ^ (k + 1) = z at *
  generalize ww / z = per at *
  generalize b * ww = N at *
  generalize B0 * ww = M at *
  obtain ⟨hleft, hq, hr, hr2, hq2, hm1, hs1, hmw, _, hz0, hz1, hz2, hzI⟩ := find_eqs (per := s + 1) hz hsE.symm hjE.symm hL hn.2.2.2.1 (Nat.le_trans hM hn.2.2.2.2) (Nat.lt_succ_self s)
  have HD := Lib.hid d1'
  obtain ⟨aa, haa⟩ : ∃ aa : Int, aa = ((M + L : Nat) : Int) + 1 := ⟨_, rfl⟩
  rw [← haa] at HC hleft ⊢
  simp only [Conf.cells] at *
  clear hT hS hok q2 q3 hn hkd hs hM haa hsE hjE d1'
  go_enter Tryz.func190, Tryz.ntmps190
  go_wp2_with fail
  rw [← hW0]
  clear hW0
  refine HC.out.mono ?_
  rintro e w1 ⟨rfl, hk1⟩
  have HK1 := Lib.hid (HK.out.trans hk1)
  have HO1 := Lib.hid (hk1.blk HO.out (fun f => f))
  have HB1 := Lib.hid (hk1.blk HB.out (fun f => f))
  have y1 := (hk1.blk HB.out (fun f => f)).cell 1 rfl
  clear hk1 HK HC HB HO
  go_wp2_with (go_at_call 152; refine (HI.out _).mono ?_; rintro e w2 ⟨rfl, rfl⟩)
  go_region_held3 (fun w' => Keep none_ w1 w')
    (first | exact Keep.refl _ _ | exact (Keep.refl _ _).drew | exact (Keep.refl _ _).drew.alloc _ | assumption | exact Keep.alloc (by assumption) _ | fail "SFAIL")
    ((go_at_call 145
      refine (HZ.out _ (HK1.out.trans (by first | assumption | exact Keep.alloc (by assumption) _ | exact (Keep.refl _ _).drew | exact (Keep.refl _ _).drew.alloc _ | fail "CFAIL"))).mono ?_
      rintro e w2 ⟨rfl, rfl⟩))
  all_goals
    obtain ⟨W2, hW2⟩ : ∃ W', W' = (w1.alloc (.cells #[.int .i64 (B0 : Int), .int .i64 (s : Int), .int .i64 (j : Int)] 218)).drew := ⟨_, rfl⟩
    rw [← hW2]
    have HK2 : Hid (Keep none_ w W2) := by rw [hW2]; exact (HK1.out.alloc _).drew
    have hp2 : Blk W2 w1.heap.size [.int .i64 (B0 : Int), .int .i64 (s : Int), .int .i64 (j : Int)] 218 := by rw [hW2]; exact (Blk.new w1 _ _).drew
    have ho2 : Blk W2 (w.heap.size + 1) [.int .i64 0, .int .i64 0, .int .i64 0] 218 := by rw [hW2]; exact (HO1.out.alloc _).drew
    have hb2 := show Blk W2 w.heap.size _ 23 by rw [hW2]; exact (HB1.out.alloc _).drew
    have hlt : w.heap.size + 1 < w1.heap.size := HO1.out.lt
    have hOg : w.heap.size ≤ w.heap.size + 1 := by omega
    clear hW2 y1 HB1 HO1 HK1 HZ hr hr2 hq hq2 hm1 hs1 hleft hmul hmw hz0 hz1 hz2 hzI
    generalize w1.heap.size = D at *
    generalize w.heap.size + 1 = O at *
    have y1 := hb2.cell 1 rfl
    have p1 := hp2.cell 1 rfl
    have HHO2 := Lib.hid ho2
    clear hp2 ho2 hb2
    go_wp2_with fail
    have d1 := HD.out
    go_quiet (first | (go_at_call 195; exact Calls.quiet_of_same (calls_flip (HP.out _ (HK2.out.drewN _)))))
    obtain ⟨W3, hW3⟩ : ∃ W', W' = W2.drewN nq := ⟨_, rfl⟩
    rw [← hW3]
    have HK3 : Hid (Keep none_ w W3) := by rw [hW3]; exact HK2.out.drewN _
    have h23 : Keep none_ W2 W3 := by rw [hW3]; exact (Keep.refl _ _).drewN _
    have ho3 := h23.blk HHO2.out (fun f => f)
    clear hW3 h23 y1 p1 HHO2 HK2
    have o0 := ho3.cell 0 rfl; have o1 := ho3.cell 1 rfl; have o2 := ho3.cell 2 rfl
    have f0 := ho3.free 0; have f1 := ho3.free 1; have f2 := ho3.free 2
    have HO3 := Lib.hid ho3
    clear ho3
    have d2 : per ≤ s := Int.ofNat_le.1 (of_decide_eq_true HD.out)
    go_wp2_with fail
    obtain ⟨W4, hW4⟩ : ∃ W', W' = (((W3.setCell ⟨O, 0, none⟩ (.int .i64 0)).setCell ⟨O, 1, none⟩ (.int .i64 0)).setCell ⟨O, 2, none⟩ (.int .i64 0)) := ⟨_, rfl⟩
    rw [← hW4]
    have hF : Blk W4 O [.int .i64 0, .int .i64 0, .int .i64 0] 218 := by rw [hW4]; exact ((HO3.out.set 0 _).set 1 _).set 2 _
    have k0 := hF.cell 0 rfl; have k1 := hF.cell 1 rfl; have k2 := hF.cell 2 rfl
    have hk4 : Keep none_ w W4 := by
      rw [hW4]
      exact HK3.out.trans' (((((Keep.refl (only O) W3).put 0 _).put 1 _).put 2 _)) (fun i hi e => absurd hi (by unfold only at e; omega))
    refine bodyPost_ret (v := .tuple #[.agg #[.int .i64 0, .int .i64 0, .int .i64 0], .bool false]) (by simp [results, Tryz.f190, go_sem, k0, k1, k2]) rfl ⟨rfl, hk4⟩
/-- Find, of any address of the arena. -/
theorem adFind_at (k p : Nat) (hk : k < 4) (hp : p < b * ww) (w : World) (hT : Tabs w) (hS : Sizes w) : ∃ (B0 s j : Nat) (ok : Bool), (ok = true → B0 = p / ww ∧ s = p % ww / 2 ^ (k + 1) ∧ j = p % ww % 2 ^ (k + 1)) ∧ (ok = true ↔ p % ww / 2 ^ (k + 1) < ww / 2 ^ (k + 1)) ∧
    Calls Tryz.prog 190 #[.agg c.cells.toArray, .int .i64 (k : Int), .int .i64 ((p : Int) + 1)] w fun e w' => e = .returned (.tuple #[.agg #[.int .i64 (B0 : Int), .int .i64 (s : Int), .int .i64 (j : Int)], .bool ok]) ∧ Keep none_ w w' := by
  have hn := ok_nat hok hb hw
  have hB : p / ww < b := by rw [Nat.div_lt_iff_lt_mul (by omega)]; exact hp
  have hL : p % ww < ww := Nat.mod_lt _ (by omega)
  have e1 : p / ww * ww + p % ww = p := by have := Nat.div_add_mod p ww; rw [Nat.mul_comm] at this; exact this
  by_cases hs : p % ww / 2 ^ (k + 1) < ww / 2 ^ (k + 1)
  · have h := adFind_in hok hb hw k (p / ww) (p % ww / 2 ^ (k + 1)) (p % ww % 2 ^ (k + 1)) hk hB hs (Nat.mod_lt _ (Nat.two_pow_pos _)) w hT hS
    rw [show p % ww / 2 ^ (k + 1) * 2 ^ (k + 1) + p % ww % 2 ^ (k + 1) = p % ww by rw [Nat.mul_comm]; exact Nat.div_add_mod _ _, e1] at h
    exact ⟨_, _, _, true, fun _ => ⟨rfl, rfl, rfl⟩, by simpa using hs, h⟩
  · have h := adFind_past hok hb hw k (p / ww) (p % ww) hk hB hL (by omega) w hT hS
    rw [e1] at h
    exact ⟨0, 0, 0, false, fun e => (nomatch e), by simpa using hs, h⟩
end

section
variable {w : World} {R X : Nat} {c : Conf} {K : List Nat}
set_option maxRecDepth 4000 in
set_option maxHeartbeats 1000000 in
theorem tClass_none (h : TableAt w R X c K) (B : Nat) (hB : B < K.length) (hk : K.getD B 0 = 0) : Calls Tryz.prog 121 #[.pointer (some ⟨R, 0, none⟩), .int .i64 (B : Int)] w fun e w' => e = .returned (.tuple #[.int .i64 0, .bool false]) ∧ w = w' := by
  have hb := h.blk
  obtain ⟨c0, c1, c2, c3, c4, c5, c6⟩ := c
  simp only [Conf.cells, List.cons_append, List.nil_append] at hb
  have y7 := hb.cell 7 rfl
  have z := h.cls.cell B (tabV_at hB)
  rw [hk] at z
  have hs := h.small
  have d1 : decide ((K.length : Int) ≤ (B : Int)) = false := decide_eq_false (by omega)
  have hBI : (B : Int) < (K.length : Int) := by omega
  have h0I : (0 : Int) ≤ (B : Int) := by omega
  generalize K.length = L at *
  clear h hb hk hs hB
  go_enter Tryz.func121, Tryz.ntmps121
  go_wp2_with fail
  go_ret2
  exact ⟨rfl, rfl⟩
set_option maxRecDepth 4000 in
set_option maxHeartbeats 1000000 in
theorem tClass_out (h : TableAt w R X c K) (B : Nat) (hB : K.length ≤ B) : Calls Tryz.prog 121 #[.pointer (some ⟨R, 0, none⟩), .int .i64 (B : Int)] w fun e w' => e = .returned (.tuple #[.int .i64 0, .bool false]) ∧ w = w' := by
  have hb := h.blk
  obtain ⟨c0, c1, c2, c3, c4, c5, c6⟩ := c
  simp only [Conf.cells, List.cons_append, List.nil_append] at hb
  have y7 := hb.cell 7 rfl
  have hs := h.small
  have d1 : decide ((K.length : Int) ≤ (B : Int)) = true := decide_eq_true (by omega)
  have hBI : (K.length : Int) ≤ (B : Int) := by omega
  have h0I : (0 : Int) ≤ (B : Int) := by omega
  generalize K.length = L at *
  clear h hb hs hB
  go_enter Tryz.func121, Tryz.ntmps121
  go_wp2_with fail
  go_ret2
  exact ⟨rfl, rfl⟩
/-- The class of any block. -/
theorem tClass_at (h : TableAt w R X c K) (B : Nat) : Calls Tryz.prog 121 #[.pointer (some ⟨R, 0, none⟩), .int .i64 (B : Int)] w fun e w' => e = .returned (.tuple #[.int .i64 ((K.getD B 0 - 1 : Nat) : Int), .bool (decide (K.getD B 0 ≠ 0))]) ∧ w = w' := by
  rcases Nat.lt_or_ge B K.length with hB | hB
  · by_cases h0 : K.getD B 0 = 0
    · have h1 := tClass_none h B hB h0
      rw [h0]; exact h1
    · have hle : K.getD B 0 ≤ 4 := by
        rw [List.getD_eq_getElem?_getD, List.getElem?_eq_getElem hB]
        exact h.le _ (List.getElem_mem hB)
      have h1 := tClass_in h B (K.getD B 0 - 1) hB (by omega) (by omega)
      rw [decide_eq_true h0]; exact h1
  · have h1 := tClass_out h B hB
    rw [List.getD_eq_getElem?_getD, List.getElem?_eq_none hB]; exact h1
set_option maxRecDepth 4000 in
set_option maxHeartbeats 2000000 in
/-- Owner, out of what Block, Class and Find tell. -/
theorem tOwner_of (h : TableAt w R X c K) (a : Int) (B k B1 s j : Nat) (okb okc okf : Bool)
    (hAB : ∀ W, Keep none_ w W → Calls Tryz.prog 189 #[.agg c.cells.toArray, .int .i64 a] W fun e w' => e = .returned (.tuple #[.int .i64 (B : Int), .bool okb]) ∧ Keep none_ W w')
    (hCL : ∀ W, Keep none_ w W → Calls Tryz.prog 121 #[.pointer (some ⟨R, 0, none⟩), .int .i64 (B : Int)] W fun e w' => e = .returned (.tuple #[.int .i64 (k : Int), .bool okc]) ∧ W = w')
    (hF : ∀ W, Keep none_ w W → Calls Tryz.prog 190 #[.agg c.cells.toArray, .int .i64 (k : Int), .int .i64 a] W fun e w' => e = .returned (.tuple #[.agg #[.int .i64 (B1 : Int), .int .i64 (s : Int), .int .i64 (j : Int)], .bool okf]) ∧ Keep none_ W w')
    (hno : (okf && okc && (j == 0)) = false) :
    Calls Tryz.prog 150 #[.pointer (some ⟨R, 0, none⟩), .int .i64 a] w fun e w' => e = .returned (.tuple #[.int .i64 0, .int .i64 0, .bool false]) ∧ Keep none_ w w' := by
  have HC : Hid (∀ W, Keep none_ w W → Calls Tryz.prog 92 #[.pointer (some ⟨R, 0, none⟩)] W fun e w' => e = .returned (.agg c.cells.toArray) ∧ Keep none_ W w') := fun W hW => tConfig_any (h.still hW)
  have HAB := Lib.hid hAB
  have HCL := Lib.hid hCL
  have HF := Lib.hid hF
  obtain ⟨c0, c1, c2, c3, c4, c5, c6⟩ := c
  simp only [Conf.cells] at *
  have HKK := Lib.hid (Keep.refl none_ w)
  clear h hAB hCL hF
  cases okf with
  | false =>
    clear hno
    go_enter Tryz.func150, Tryz.ntmps150
    go_wp2_with (first
      | (go_at_call 92; refine (HC.out _ HKK.out).mono ?_; rintro e w1 ⟨rfl, hk1⟩; have HKK := Lib.hid (HKK.out.trans hk1); clear hk1)
      | (go_at_call 189; refine (HAB.out _ HKK.out).mono ?_; rintro e w1 ⟨rfl, hk1⟩; have HKK := Lib.hid (HKK.out.trans hk1); clear hk1)
      | (go_at_call 190; refine (HF.out _ HKK.out).mono ?_; rintro e w1 ⟨rfl, hk1⟩; have HKK := Lib.hid (HKK.out.trans hk1); clear hk1)
      | (go_at_call 121; refine (HCL.out _ HKK.out).mono ?_; rintro e w1 ⟨rfl, rfl⟩))
    go_ret3
    exact ⟨rfl, HKK.out.alloc _⟩
  | true =>
    cases okc with
    | false =>
      clear hno
      go_enter Tryz.func150, Tryz.ntmps150
      go_wp2_with (first
        | (go_at_call 92; refine (HC.out _ HKK.out).mono ?_; rintro e w1 ⟨rfl, hk1⟩; have HKK := Lib.hid (HKK.out.trans hk1); clear hk1)
        | (go_at_call 189; refine (HAB.out _ HKK.out).mono ?_; rintro e w1 ⟨rfl, hk1⟩; have HKK := Lib.hid (HKK.out.trans hk1); clear hk1)
        | (go_at_call 190; refine (HF.out _ HKK.out).mono ?_; rintro e w1 ⟨rfl, hk1⟩; have HKK := Lib.hid (HKK.out.trans hk1); clear hk1)
        | (go_at_call 121; refine (HCL.out _ HKK.out).mono ?_; rintro e w1 ⟨rfl, rfl⟩))
      go_ret3
      exact ⟨rfl, HKK.out.alloc _⟩
    | true =>
      have hj : j ≠ 0 := by intro e; subst e; simp at hno
      have d1 : ((j : Int) == 0) = false := by simp; omega
      have d2 : ((j : Int) != 0) = true := by simp only [bne, d1]; rfl
      clear hno hj
      go_enter Tryz.func150, Tryz.ntmps150
      go_wp2_with (first
        | (go_at_call 92; refine (HC.out _ HKK.out).mono ?_; rintro e w1 ⟨rfl, hk1⟩; have HKK := Lib.hid (HKK.out.trans hk1); clear hk1)
        | (go_at_call 189; refine (HAB.out _ HKK.out).mono ?_; rintro e w1 ⟨rfl, hk1⟩; have HKK := Lib.hid (HKK.out.trans hk1); clear hk1)
        | (go_at_call 190; refine (HF.out _ HKK.out).mono ?_; rintro e w1 ⟨rfl, hk1⟩; have HKK := Lib.hid (HKK.out.trans hk1); clear hk1)
        | (go_at_call 121; refine (HCL.out _ HKK.out).mono ?_; rintro e w1 ⟨rfl, rfl⟩))
      go_ret3
      exact ⟨rfl, HKK.out.alloc _⟩
/-- An address that is no slot's. -/
theorem tOwner_no (h : TableAt w R X c K) (ww a : Nat) (hw : c.w = ww) (ho : ownerF K.length ww K a = none) (hT : Tabs w) (hS : Sizes w) : Calls Tryz.prog 150 #[.pointer (some ⟨R, 0, none⟩), .int .i64 (a : Int)] w fun e w' => e = .returned (.tuple #[.int .i64 0, .int .i64 0, .bool false]) ∧ Keep none_ w w' := by
  have hn := ok_nat h.ok h.len hw
  have hk4 : ∀ B, K.getD B 0 ≤ 4 := fun B => by
    rcases Nat.lt_or_ge B K.length with h1 | h1
    · rw [List.getD_eq_getElem?_getD, List.getElem?_eq_getElem h1]
      exact h.le _ (List.getElem_mem h1)
    · rw [List.getD_eq_getElem?_getD, List.getElem?_eq_none h1]; exact Nat.zero_le _
  by_cases hin : 1 ≤ a ∧ a ≤ K.length * ww
  · obtain ⟨p, rfl⟩ : ∃ p, a = p + 1 := ⟨a - 1, by omega⟩
    have hp : p < K.length * ww := by omega
    have e : (((p + 1 : Nat) : Nat) : Int) = (p : Int) + 1 := by omega
    rw [e]
    have hB : p / ww < K.length := by rw [Nat.div_lt_iff_lt_mul (by omega)]; exact hp
    obtain ⟨k, hk, hkK⟩ : ∃ k, k < 4 ∧ k = K.getD (p / ww) 0 - 1 := ⟨_, by have := hk4 (p / ww); omega, rfl⟩
    have key : ∃ (B0 s j : Nat) (ok : Bool), (ok = true → B0 = p / ww ∧ s = p % ww / 2 ^ (k + 1) ∧ j = p % ww % 2 ^ (k + 1)) ∧ (ok = true ↔ p % ww / 2 ^ (k + 1) < ww / 2 ^ (k + 1)) ∧
        ∀ W, Keep none_ w W → Calls Tryz.prog 190 #[.agg c.cells.toArray, .int .i64 (k : Int), .int .i64 ((p : Int) + 1)] W fun e w' => e = .returned (.tuple #[.agg #[.int .i64 (B0 : Int), .int .i64 (s : Int), .int .i64 (j : Int)], .bool ok]) ∧ Keep none_ W w' := by
      by_cases hs : p % ww / 2 ^ (k + 1) < ww / 2 ^ (k + 1)
      · refine ⟨p / ww, _, _, true, fun _ => ⟨rfl, rfl, rfl⟩, by simpa using hs, fun W hW => ?_⟩
        obtain ⟨B0, s, j, ok, h1, h2, h3⟩ := adFind_at h.ok h.len hw k p hk hp W (hT.keep hW) (hS.keep hW)
        have hok := h2.2 hs
        obtain ⟨rfl, rfl, rfl⟩ := h1 hok
        rw [hok] at h3; exact h3
      · refine ⟨0, 0, 0, false, fun e => (nomatch e), by simpa using hs, fun W hW => ?_⟩
        have hL : p % ww < ww := Nat.mod_lt _ (by omega)
        have e1 : p / ww * ww + p % ww = p := by have := Nat.div_add_mod p ww; rw [Nat.mul_comm] at this; exact this
        have h9 := adFind_past h.ok h.len hw k (p / ww) (p % ww) hk hB hL (by omega) W (hT.keep hW) (hS.keep hW)
        rw [e1] at h9; exact h9
    obtain ⟨B0, s, j, ok, h1, h2, h3⟩ := key
    refine tOwner_of h _ (p / ww) k B0 s j true (decide (K.getD (p / ww) 0 ≠ 0)) ok (fun W hW => adBlock_in h.ok h.len hw p hp W (hT.keep hW)) (fun W hW => by rw [hkK]; exact tClass_at (h.still hW) (p / ww)) h3 ?_
    rw [Bool.eq_false_iff]
    intro hc
    simp only [Bool.and_eq_true, decide_eq_true_eq, beq_iff_eq] at hc
    obtain ⟨⟨g1, g2⟩, g3⟩ := hc
    obtain ⟨_, _, g4⟩ := h1 g1
    have hkk : K.getD (p / ww) 0 = k + 1 := by omega
    have := owner_mk (b := K.length) (ww := ww) (K := K) (a := p + 1) (B := p / ww) (k := k) (by omega) (by omega) (by simp) hkk (by simpa using g4.symm.trans g3) (by simpa using h2.1 g1)
    rw [ho] at this; cases this
  · have hout : (a : Int) < 1 ∨ ((K.length * ww : Nat) : Int) < (a : Int) := by omega
    have hb1 : 0 < K.length := by have := h.small; omega
    refine tOwner_of h (a : Int) 0 (K.getD 0 0 - 1) 0 0 0 false (decide (K.getD 0 0 ≠ 0)) false (fun W hW => ?_) (fun W hW => tClass_at (h.still hW) 0) (fun W hW => ?_) rfl
    · exact adBlock_out h.ok h.len hw (a : Int) hout W (hT.keep hW)
    · exact adFind_out h.ok h.len hw _ (a : Int) hout W (hT.keep hW)
theorem tOwner_yes (h : TableAt w R X c K) (ww a B k : Nat) (hw : c.w = ww) (ho : ownerF K.length ww K a = some (B, k)) (hT : Tabs w) (hS : Sizes w) : Calls Tryz.prog 150 #[.pointer (some ⟨R, 0, none⟩), .int .i64 (a : Int)] w fun e w' => e = .returned (.tuple #[.int .i64 (B : Int), .int .i64 (k : Int), .bool true]) ∧ Keep none_ w w' := by
  have hn := ok_nat h.ok h.len hw
  obtain ⟨h1, h2, h3, h4, h5, h6⟩ := owner_some ho
  have hB : B < K.length := by
    rcases Nat.lt_or_ge B K.length with g | g
    · exact g
    · rw [List.getD_eq_getElem?_getD, List.getElem?_eq_none g] at h4
      simp at h4
  have hk : k < 4 := by
    have : K.getD B 0 ≤ 4 := by
      rw [List.getD_eq_getElem?_getD, List.getElem?_eq_getElem hB]
      exact h.le _ (List.getElem_mem hB)
    omega
  have h9 := tOwner_in h ww B k ((a - 1) % ww / 2 ^ (k + 1)) hw hB h4 hk h6 hT hS
  have e1 : B * ww + (a - 1) % ww / 2 ^ (k + 1) * 2 ^ (k + 1) = a - 1 := by
    have g1 := Nat.div_add_mod (a - 1) ww
    have g2 := Nat.div_add_mod ((a - 1) % ww) (2 ^ (k + 1))
    rw [h5, Nat.add_zero, Nat.mul_comm] at g2
    rw [g2, h3, Nat.mul_comm]; exact g1
  rw [e1, show (((a - 1 : Nat) : Nat) : Int) + 1 = (a : Int) by omega] at h9
  exact h9
end
end Go.Proofs.YtjdnkhljgnjkcaaGreatDoor

/- Whose each block of memory is; rows that nobody writes again. Of no program. -/
namespace Go.Proofs.YtjdnkhljgnjkcaaGreatDoor
open Go.RowKit

/-- Whose a block is; 0: nobody's, it is never written again. -/
def Ow : Type := Nat → Nat
/-- Blocks of some owners. -/
def In (o : Ow) (I : List Nat) : Nat → Prop := fun b => o b ∈ I
/-- What comes is nobody's. -/
def Fut (o : Ow) (w : World) : Prop := ∀ b, w.heap.size ≤ b → o b = 0
/-- The same owners, of what is there. -/
def OExt (w : World) (o o' : Ow) : Prop := ∀ b, b < w.heap.size → o' b = o b
theorem OExt.refl (w : World) (o : Ow) : OExt w o o := fun _ _ => rfl
theorem OExt.trans {w w' : World} {o o' o'' : Ow} (h : OExt w o o') (hs : w.heap.size ≤ w'.heap.size) (h' : OExt w' o' o'') : OExt w o o'' := fun b hb => (h' b (Nat.lt_of_lt_of_le hb hs)).trans (h b hb)
theorem Fut.later {o : Ow} {w w' : World} (h : Fut o w) (hs : w.heap.size ≤ w'.heap.size) : Fut o w' := fun b hb => h b (Nat.le_trans hs hb)
theorem Fut.keep {S : Nat → Prop} {o : Ow} {w w' : World} (h : Fut o w) (k : Keep S w w') : Fut o w' := h.later k.size
theorem not_in {o : Ow} {I : List Nat} {b i : Nat} (h : o b = i) (hi : i ∉ I) : ¬ In o I b := fun e => by unfold In at e; rw [h] at e; exact hi e
theorem not_in' {o : Ow} {I : List Nat} {b i : Nat} (h : o b = i) (hi : I.contains i = false) : ¬ In o I b := not_in h (by simpa using hi)
theorem Keep.toO {S : Nat → Prop} {o : Ow} {I : List Nat} {w w' : World} (k : Keep S w w') (h : ∀ b, b < w.heap.size → S b → o b ∈ I) : Keep (In o I) w w' := k.mono h
theorem Keep.noneO {o : Ow} {I : List Nat} {w w' : World} (k : Keep none_ w w') : Keep (In o I) w w' := k.mono (fun _ _ f => f.elim)
theorem Keep.onlyO {o : Ow} {I : List Nat} {w w' : World} {B i : Nat} (k : Keep (only B) w w') (h : o B = i) (hi : I.contains i = true) : Keep (In o I) w w' := k.mono (fun b _ e => by unfold only at e; subst e; unfold In; rw [h]; simpa using hi)
theorem Keep.moreO {o : Ow} {I J : List Nat} {w w' : World} (k : Keep (In o I) w w') (h : I.all (fun i => J.contains i) = true) : Keep (In o J) w w' := k.mono (fun b _ e => by
  unfold In at *
  have := List.all_eq_true.1 h _ e
  simpa using this)
/-- Other owners of what is new. -/
theorem Keep.extO {o o' : Ow} {I : List Nat} {w w' : World} (k : Keep (In o I) w w') (h : OExt w o o') : Keep (In o' I) w w' := k.mono (fun b hb e => by unfold In at *; rw [h b hb]; exact e)
theorem Keep.transO {o o' : Ow} {I : List Nat} {a b c : World} (h : Keep (In o I) a b) (k : Keep (In o' I) b c) (e : OExt a o o') : Keep (In o I) a c := h.trans' k (fun i hi hin => by unfold In at *; rw [← e i hi]; exact hin)
/-- One more owner of what is new. -/
def Ow.put (o : Ow) (g i : Nat) : Ow := fun b => if b = g then i else o b
theorem Ow.put_ext {o : Ow} {w : World} {g i : Nat} (h : w.heap.size ≤ g ∨ o g = i) : OExt w o (o.put g i) := fun b hb => by
  unfold Ow.put
  split
  · rename_i e; subst e
    rcases h with h | h
    · omega
    · exact h.symm
  · rfl
theorem Ow.put_fut {o : Ow} {w w' : World} {g i : Nat} (h : Fut o w) (hs : w.heap.size ≤ w'.heap.size) (hg : g < w'.heap.size) : Fut (o.put g i) w' := fun b hb => by
  unfold Ow.put
  rw [if_neg (by omega)]
  exact h b (by omega)
theorem Ow.put_same (o : Ow) (g i : Nat) : (o.put g i) g = i := by unfold Ow.put; rw [if_pos rfl]

/-- v is a slice whose elements are xs; where there are any they lie in a block that nobody writes. -/
def RowO (o : Ow) (w : World) (T : TypeId) (v : Value) (xs : List Value) : Prop :=
  ∃ a c, v = .slice a xs.length c ∧ xs.length ≤ c ∧ xs.length ≤ 4000000000000 ∧ (0 < xs.length → ∃ b off cs, a = some ⟨b, off, none⟩ ∧ o b = 0 ∧ Blk w b cs T ∧ ∀ j, j < xs.length → cs[off + j]? = xs[j]?)
section
variable {o o' : Ow} {w w' : World} {T : TypeId} {v : Value} {xs : List Value}
theorem RowO.nil (o : Ow) (w : World) (T : TypeId) : RowO o w T (.slice none 0 0) [] := ⟨none, 0, rfl, Nat.le_refl _, by simp, fun h => absurd h (Nat.lt_irrefl 0)⟩
theorem RowO.keep {S : Nat → Prop} (h : RowO o w T v xs) (k : Keep S w w') (hs : ∀ b, o b = 0 → ¬ S b) : RowO o w' T v xs := by
  obtain ⟨a, c, rfl, hl, hm, hc⟩ := h
  refine ⟨a, c, rfl, hl, hm, fun h0 => ?_⟩
  obtain ⟨b, off, cs, e, h0, hb, hj⟩ := hc h0
  exact ⟨b, off, cs, e, h0, k.blk hb (hs b h0), hj⟩
theorem RowO.keepO {I : List Nat} (h : RowO o w T v xs) (k : Keep (In o I) w w') (hI : I.contains 0 = false) : RowO o w' T v xs := h.keep k (fun _ hb => not_in' hb hI)
theorem RowO.still (h : RowO o w T v xs) (k : Keep none_ w w') : RowO o w' T v xs := h.keep k (fun _ _ f => f)
theorem RowO.ext (h : RowO o w T v xs) (e : OExt w o o') : RowO o' w T v xs := by
  obtain ⟨a, c, rfl, hl, hm, hc⟩ := h
  refine ⟨a, c, rfl, hl, hm, fun h0 => ?_⟩
  obtain ⟨b, off, cs, e1, h0, hb, hj⟩ := hc h0
  exact ⟨b, off, cs, e1, (e b hb.lt).trans h0, hb, hj⟩
theorem RowO.toV (h : RowO o w T v xs) : RowV w T v xs := by
  obtain ⟨a, c, rfl, hl, hm, hc⟩ := h
  refine ⟨a, c, rfl, hl, hm, fun h0 => ?_⟩
  obtain ⟨b, off, cs, e1, _, hb, hj⟩ := hc h0
  exact ⟨b, off, cs, e1, hb, hj⟩
/-- A row that a call made. -/
theorem RowO.ofOwn {base n : Nat} (h : w.ownsRow base T 1 v n xs) (hm : n ≤ 4000000000000) (hf : ∀ b, base ≤ b → o b = 0) : RowO o w T v xs := by
  obtain ⟨hl, hf2⟩ := h
  rcases hf2 with ⟨rfl, rfl⟩ | ⟨g, cap, cur, rfl, hg0, hg, hn, _, hs, hc⟩
  · have : xs = [] := List.eq_nil_of_length_eq_zero (by simpa using hl)
    subst this
    exact RowO.nil _ _ _
  · have hnl : n = xs.length := by simpa using hl.symm
    subst hnl
    refine ⟨_, cap, rfl, hn, hm, fun _ => ⟨g, 0, cur.toList, rfl, hf g hg0, by unfold Blk; simpa using hg, fun j hj => ?_⟩⟩
    rw [← hc]
    simp [hj]
theorem RowO.ofBlk {B : Nat} (h : Blk w B xs T) (hB : o B = 0) {n : Nat} (hn : n = xs.length) (hm : n ≤ 4000000000000) : RowO o w T (.slice (some ⟨B, 0, none⟩) n n) xs := by
  subst hn
  exact ⟨_, _, rfl, Nat.le_refl _, hm, fun _ => ⟨B, 0, xs, rfl, hB, h, fun j _ => by rw [Nat.zero_add]⟩⟩
theorem RowO.cut {a : Option Addr} {n c : Nat} (h : RowO o w T (.slice a n c) xs) (k : Nat) (hk : k ≤ n) : RowO o w T (.slice (cutA a c k) (n - k) (c - k)) (xs.drop k) := by
  obtain ⟨a', c', e, hl, hm, hc⟩ := h
  simp at e
  obtain ⟨rfl, rfl, rfl⟩ := e
  refine ⟨cutA a c k, c - k, by simp, by simp; omega, by simp; omega, fun h0 => ?_⟩
  have h0' : k < xs.length := by simp at h0; omega
  obtain ⟨b, off, cs, rfl, h0, hb, hj⟩ := hc (by omega)
  refine ⟨b, off + k, cs, ?_, h0, hb, fun j hjl => ?_⟩
  · unfold cutA
    rw [if_neg (by omega)]
    cases k with
    | zero => simp [Addr.add]
    | succ k => simp [Addr.add]
  · simp only [List.length_drop] at hjl
    rw [List.getElem?_drop, Nat.add_assoc, hj (k + j) (by omega)]
theorem RowO.take {a : Option Addr} {n c : Nat} (h : RowO o w T (.slice a n c) xs) (k : Nat) (hk : k ≤ n) : RowO o w T (.slice a k c) (xs.take k) := by
  obtain ⟨a', c', e, hl, hm, hc⟩ := h
  simp at e
  obtain ⟨rfl, rfl, rfl⟩ := e
  have e1 : (xs.take k).length = k := by simp; omega
  refine ⟨a, c, by rw [e1], by rw [e1]; omega, by rw [e1]; omega, fun h0 => ?_⟩
  rw [e1] at h0
  obtain ⟨b, off, cs, rfl, h0, hb, hj⟩ := hc (by omega)
  refine ⟨b, off, cs, rfl, h0, hb, fun j hjl => ?_⟩
  rw [e1] at hjl
  rw [List.getElem?_take_of_lt hjl, hj j (by omega)]
/-- What a row's first cell, any cell, holds. -/
theorem RowO.form (h : RowO o w T v xs) : ∃ a c, v = .slice a xs.length c ∧ xs.length ≤ c ∧ xs.length ≤ 4000000000000 ∧ ∀ j u, xs[j]? = some u → ∃ b off, a = some ⟨b, off, none⟩ ∧ w.cell? ⟨b, off + j, none⟩ = some u := by
  obtain ⟨a, c, rfl, hl, hm, hc⟩ := h
  refine ⟨a, c, rfl, hl, hm, fun j u hj => ?_⟩
  have hlt := (List.getElem?_eq_some_iff.1 hj).1
  obtain ⟨b, off, cs, e1, _, hb, hj2⟩ := hc (by omega)
  exact ⟨b, off, e1, hb.cell _ ((hj2 j hlt).trans hj)⟩
end
theorem Blk.keepO {o : Ow} {I : List Nat} {w w' : World} {B i : Nat} {cs : List Value} {T : TypeId} (h : Blk w B cs T) (k : Keep (In o I) w w') (hB : o B = i) (hI : I.contains i = false) : Blk w' B cs T := k.blk h (not_in' hB hI)
end Go.Proofs.YtjdnkhljgnjkcaaGreatDoor
