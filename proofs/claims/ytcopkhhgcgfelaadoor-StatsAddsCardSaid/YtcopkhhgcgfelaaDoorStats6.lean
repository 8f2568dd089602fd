/- What stats.Total does. -/
import Derived.Test.YtcopkhhgcgfelaaDoorStats6a
import Derived.Deep.RegionLaw
namespace Go.Proofs.YtcopkhhgcgfelaaDoor
open Go.RowKit

set_option maxRecDepth 100000 in
set_option maxHeartbeats 2000000 in
theorem sTotal_any (pa : Option Addr) (pn pc : Nat) (pp : List (List Int)) (a : Option Addr) (n cc : Nat) (l : List Ev) (w : World) (hp : Progs w pa pn pp) (h : RecAt w a n 6 (l.map Ev.cells)) (hn : n ≤ 1000) (hpn : pn ≤ 1000) (hwf : ∀ e ∈ l, e.wf) :
    Calls Tryd.prog 15 #[.slice pa pn pc, .slice a n cc] w fun e w' => e = .returned (.agg #[.int .i64 (tot pp l).ops, .int .i64 (tot pp l).errs, .int .i64 (tot pp l).allocs, .int .i64 (tot pp l).freed, .int .i64 (tot pp l).cycles, .int .i64 (tot pp l).full]) ∧ Keep none_ w w' := by
  have hl := h.len
  simp at hl
  have HL := Lib.hid hl
  have H := Lib.hid h
  have HP := Lib.hid hp
  have HW := Lib.hid hwf
  clear h hl hp hwf
  have HB0 : Hid (Blk ((w.alloc (.cells #[.int .i64 0, .int .i64 0, .int .i64 0, .int .i64 0, .int .i64 0, .int .i64 0] 40)).alloc (.cells #[.int .i64 0, .int .i64 0, .int .i64 0, .int .i64 0, .int .i64 0, .int .i64 0] 40)) (w.heap.size + 1) [.int .i64 0, .int .i64 0, .int .i64 0, .int .i64 0, .int .i64 0, .int .i64 0] 40) := by
    have := Blk.new (w.alloc (.cells #[.int .i64 0, .int .i64 0, .int .i64 0, .int .i64 0, .int .i64 0, .int .i64 0] 40)) [.int .i64 0, .int .i64 0, .int .i64 0, .int .i64 0, .int .i64 0, .int .i64 0] 40
    unfold Hid; simpa using this
  have HZ0 : Hid (Blk ((w.alloc (.cells #[.int .i64 0, .int .i64 0, .int .i64 0, .int .i64 0, .int .i64 0, .int .i64 0] 40)).alloc (.cells #[.int .i64 0, .int .i64 0, .int .i64 0, .int .i64 0, .int .i64 0, .int .i64 0] 40)) w.heap.size [.int .i64 0, .int .i64 0, .int .i64 0, .int .i64 0, .int .i64 0, .int .i64 0] 40) := (Blk.new w _ _).alloc _
  go_enter Tryd.func15, Tryd.ntmps15
  go_wp2_with fail
  go_loopg [10] n (fun g i wr => ∃ k : Nat, g + k = n ∧ i = .int .i64 k ∧ Hid (Blk wr (w.heap.size + 1) [.int .i64 (tot pp (l.take k)).ops, .int .i64 (tot pp (l.take k)).errs, .int .i64 (tot pp (l.take k)).allocs, .int .i64 (tot pp (l.take k)).freed, .int .i64 (tot pp (l.take k)).cycles, .int .i64 (tot pp (l.take k)).full] 40) ∧ Hid (Blk wr w.heap.size [.int .i64 0, .int .i64 0, .int .i64 0, .int .i64 0, .int .i64 0, .int .i64 0] 40) ∧ Hid (Keep none_ w wr))
  case atStart => exact ⟨0, rfl, rfl, HB0.out, HZ0.out, (Keep.refl _ _).alloc _ |>.alloc _⟩
  case round =>
    clear HB0 HZ0
    obtain ⟨k, hg, rfl, HB, HZ, HK⟩ := hrel
    by_cases hlt : k < n
    · obtain ⟨b, off, rfl, ev, hc, g0, g1, g2, g3, g4, g5⟩ := evCells (H.out.below HK.out) k hlt
      have hkl : k < l.length := by rw [HL.out]; exact hlt
      have hs := tot_snoc pp l k hkl
      have hu := tot_upto pp l k (by omega)
      have hck : l[k] = ev := by
        rw [List.getElem?_eq_getElem hkl] at hc; simpa using hc
      rw [hck] at hs
      have HS := Lib.hid hs
      have HWF0 := HW.out ev (hck ▸ List.getElem_mem _)
      clear hs hc hck
      generalize tot pp (l.take k) = s at *
      obtain ⟨ep, ew, ek, eo, ec, ex⟩ := ev
      simp only at g0 g1 g2 g3 g4 g5
      obtain ⟨u1, u2, u3, u4, u5, u6, u7, u8, u9, u10, u11, u12⟩ := hu
      have HWF : Hid ((Lit.int .i64 eo).wf = true) := HWF0.2.2.2.1
      clear HWF0
      obtain ⟨so, se, sa, sf, sc, su⟩ := s
      simp only at u1 u2 u3 u4 u5 u6 u7 u8 u9 u10 u11 u12
      have HB : Hid (Blk wr (w.heap.size + 1) [.int .i64 so, .int .i64 se, .int .i64 sa, .int .i64 sf, .int .i64 sc, .int .i64 su] 40) := HB
      go_wp2_with fail
      obtain ⟨W0, hW0⟩ : ∃ W0, W0 = wr.alloc (.cells #[.int .i64 ep, .int .i64 ew, .int .i64 ek, .int .i64 eo, .int .i64 ec, .int .i64 ex] 44) := ⟨_, rfl⟩
      have HE0 : Hid (Blk W0 wr.heap.size [.int .i64 ep, .int .i64 ew, .int .i64 ek, .int .i64 eo, .int .i64 ec, .int .i64 ex] 44) := by rw [hW0]; exact Blk.new _ _ _
      have HB0' : Hid (Blk W0 (w.heap.size + 1) [.int .i64 so, .int .i64 se, .int .i64 sa, .int .i64 sf, .int .i64 sc, .int .i64 su] 40) := by rw [hW0]; exact HB.out.alloc _
      have HK0 : Hid (Keep none_ w W0) := by rw [hW0]; exact HK.out.alloc _
      have HNE : Hid (wr.heap.size ≠ w.heap.size + 1) := by have := HB.out.lt; unfold Hid; omega
      have HZ0 : Hid (Blk W0 w.heap.size [.int .i64 0, .int .i64 0, .int .i64 0, .int .i64 0, .int .i64 0, .int .i64 0] 40) := by rw [hW0]; exact HZ.out.alloc _
      rw [← hW0]
      clear hW0 HB g0 g1 g2 g3 g4 g5
      have HB0 := HB0'
      clear HB0'
      generalize wr.heap.size = E at *
      have d0 := HB0.out.cell 0 rfl; have d1 := HB0.out.cell 1 rfl; have d2 := HB0.out.cell 2 rfl; have d3 := HB0.out.cell 3 rfl; have d4 := HB0.out.cell 4 rfl; have d5 := HB0.out.cell 5 rfl
      have z0 := HB0.out.free 0; have z1 := HB0.out.free 1; have z2 := HB0.out.free 2; have z3 := HB0.out.free 3; have z4 := HB0.out.free 4; have z5 := HB0.out.free 5
      have e0 := HE0.out.cell 0 rfl; have e1 := HE0.out.cell 1 rfl; have e2 := HE0.out.cell 2 rfl; have e3 := HE0.out.cell 3 rfl; have e4 := HE0.out.cell 4 rfl; have e5 := HE0.out.cell 5 rfl
      refine wp_region_still_tail 8 (by kernel_rfl) (by kernel_rfl) ?_
      change wpStill _ _ (World.drew _) _ _ _
      simp only [List.take_succ_cons, List.take_zero, List.drop_succ_cons, List.drop_zero]
      still_step
      still_step
      still_step
      still_step
      still_step
      have hb1 := b1_bd (ek == 5)
      still_call (one_is _ _)
      still_step
      still_step
      refine wpStill_nil ?_
      change wpList _ _ _ _ _ W0.drew
      go_wp2_with fail
      obtain ⟨W1, hW1⟩ : ∃ W', W' = (W0.setCell ⟨w.heap.size + 1, 3, none⟩ (.int .i64 (sf + b1 (ek == 5)))).drew := ⟨_, rfl⟩
      have HE1 : Hid (Blk W1 E [.int .i64 ep, .int .i64 ew, .int .i64 ek, .int .i64 eo, .int .i64 ec, .int .i64 ex] 44) := by rw [hW1]; exact (HE0.out.other (a := ⟨w.heap.size + 1, 3, none⟩) HNE.out _).drew
      have HB1 : Hid (Blk W1 (w.heap.size + 1) [.int .i64 so, .int .i64 se, .int .i64 sa, .int .i64 (sf + b1 (ek == 5)), .int .i64 sc, .int .i64 su] 40) := by rw [hW1]; exact (HB0.out.set 3 (.int .i64 (sf + b1 (ek == 5)))).drew
      have HZ1 : Hid (Blk W1 w.heap.size [.int .i64 0, .int .i64 0, .int .i64 0, .int .i64 0, .int .i64 0, .int .i64 0] 40) := by rw [hW1]; exact (HZ0.out.other (a := ⟨w.heap.size + 1, 3, none⟩) (by simp) _).drew
      have HK1 : Hid (Keep none_ w W1) := by rw [hW1]; exact (HK0.out.putNew (Nat.le_succ _) _ _).drew
      rw [← hW1]
      clear hW1 d0 z0 e0 d1 z1 e1 d2 z2 e2 d3 z3 e3 d4 z4 e4 d5 z5 e5 HE0 HB0 HK0 HZ0
      have d0 := HB1.out.cell 0 rfl; have d1 := HB1.out.cell 1 rfl; have d2 := HB1.out.cell 2 rfl; have d3 := HB1.out.cell 3 rfl; have d4 := HB1.out.cell 4 rfl; have d5 := HB1.out.cell 5 rfl
      have z0 := HB1.out.free 0; have z1 := HB1.out.free 1; have z2 := HB1.out.free 2; have z3 := HB1.out.free 3; have z4 := HB1.out.free 4; have z5 := HB1.out.free 5
      have e0 := HE1.out.cell 0 rfl; have e1 := HE1.out.cell 1 rfl; have e2 := HE1.out.cell 2 rfl; have e3 := HE1.out.cell 3 rfl; have e4 := HE1.out.cell 4 rfl; have e5 := HE1.out.cell 5 rfl
      refine wp_region_still_tail 8 (by kernel_rfl) (by kernel_rfl) ?_
      change wpStill _ _ (World.drew _) _ _ _
      simp only [List.take_succ_cons, List.take_zero, List.drop_succ_cons, List.drop_zero]
      still_step
      still_step
      still_step
      still_step
      still_step
      have hb1 := b1_bd (ek == 2)
      still_call (one_is _ _)
      still_step
      still_step
      refine wpStill_nil ?_
      change wpList _ _ _ _ _ W1.drew
      by_cases h1 : ek = 1
      · have hk1 : (ek == 1) = true := beq_iff_eq.2 h1
        clear h1
        go_wp2_with fail
        obtain ⟨W2, hW2⟩ : ∃ W', W' = ((W1.setCell ⟨w.heap.size + 1, 4, none⟩ (.int .i64 (sc + b1 (ek == 2)))).setCell ⟨w.heap.size + 1, 0, none⟩ (.int .i64 (so + 1))).drew := ⟨_, rfl⟩
        have HE2 : Hid (Blk W2 E [.int .i64 ep, .int .i64 ew, .int .i64 ek, .int .i64 eo, .int .i64 ec, .int .i64 ex] 44) := by rw [hW2]; exact ((HE1.out.other (a := ⟨w.heap.size + 1, 4, none⟩) HNE.out _).other (a := ⟨w.heap.size + 1, 0, none⟩) HNE.out _).drew
        have HB2 : Hid (Blk W2 (w.heap.size + 1) [.int .i64 (so + 1), .int .i64 se, .int .i64 sa, .int .i64 (sf + b1 (ek == 5)), .int .i64 (sc + b1 (ek == 2)), .int .i64 su] 40) := by rw [hW2]; exact ((HB1.out.set 4 (.int .i64 (sc + b1 (ek == 2)))).set 0 (.int .i64 (so + 1))).drew
        have HZ2 : Hid (Blk W2 w.heap.size [.int .i64 0, .int .i64 0, .int .i64 0, .int .i64 0, .int .i64 0, .int .i64 0] 40) := by rw [hW2]; exact ((HZ1.out.other (a := ⟨w.heap.size + 1, 4, none⟩) (by simp) _).other (a := ⟨w.heap.size + 1, 0, none⟩) (by simp) _).drew
        have HK2 : Hid (Keep none_ w W2) := by rw [hW2]; exact ((HK1.out.putNew (Nat.le_succ _) _ _).putNew (Nat.le_succ _) _ _).drew
        rw [← hW2]
        clear hW2 d0 z0 e0 d1 z1 e1 d2 z2 e2 d3 z3 e3 d4 z4 e4 d5 z5 e5 HE1 HB1 HK1 HZ1
        have d0 := HB2.out.cell 0 rfl; have d1 := HB2.out.cell 1 rfl; have d2 := HB2.out.cell 2 rfl; have d3 := HB2.out.cell 3 rfl; have d4 := HB2.out.cell 4 rfl; have d5 := HB2.out.cell 5 rfl
        have z0 := HB2.out.free 0; have z1 := HB2.out.free 1; have z2 := HB2.out.free 2; have z3 := HB2.out.free 3; have z4 := HB2.out.free 4; have z5 := HB2.out.free 5
        have e0 := HE2.out.cell 0 rfl; have e1 := HE2.out.cell 1 rfl; have e2 := HE2.out.cell 2 rfl; have e3 := HE2.out.cell 3 rfl; have e4 := HE2.out.cell 4 rfl; have e5 := HE2.out.cell 5 rfl
        refine wp_region_still_tail 8 (by kernel_rfl) (by kernel_rfl) ?_
        change wpStill _ _ (World.drew _) _ _ _
        simp only [List.take_succ_cons, List.take_zero, List.drop_succ_cons, List.drop_zero]
        still_step
        still_step
        still_step
        still_step
        still_step
        have hb1 := b1_bd (ec != 0)
        still_call (one_is _ _)
        still_step
        still_step
        refine wpStill_nil ?_
        change wpList _ _ _ _ _ W2.drew
        go_wp2_with fail
        obtain ⟨W3, hW3⟩ : ∃ W', W' = (W2.setCell ⟨w.heap.size + 1, 1, none⟩ (.int .i64 (se + b1 (ec != 0)))).drew := ⟨_, rfl⟩
        have HE3 : Hid (Blk W3 E [.int .i64 ep, .int .i64 ew, .int .i64 ek, .int .i64 eo, .int .i64 ec, .int .i64 ex] 44) := by rw [hW3]; exact (HE2.out.other (a := ⟨w.heap.size + 1, 1, none⟩) HNE.out _).drew
        have HB3 : Hid (Blk W3 (w.heap.size + 1) [.int .i64 (so + 1), .int .i64 (se + b1 (ec != 0)), .int .i64 sa, .int .i64 (sf + b1 (ek == 5)), .int .i64 (sc + b1 (ek == 2)), .int .i64 su] 40) := by rw [hW3]; exact (HB2.out.set 1 (.int .i64 (se + b1 (ec != 0)))).drew
        have HZ3 : Hid (Blk W3 w.heap.size [.int .i64 0, .int .i64 0, .int .i64 0, .int .i64 0, .int .i64 0, .int .i64 0] 40) := by rw [hW3]; exact (HZ2.out.other (a := ⟨w.heap.size + 1, 1, none⟩) (by simp) _).drew
        have HK3 : Hid (Keep none_ w W3) := by rw [hW3]; exact (HK2.out.putNew (Nat.le_succ _) _ _).drew
        rw [← hW3]
        clear hW3 d0 z0 e0 d1 z1 e1 d2 z2 e2 d3 z3 e3 d4 z4 e4 d5 z5 e5 HE2 HB2 HK2 HZ2
        have d0 := HB3.out.cell 0 rfl; have d1 := HB3.out.cell 1 rfl; have d2 := HB3.out.cell 2 rfl; have d3 := HB3.out.cell 3 rfl; have d4 := HB3.out.cell 4 rfl; have d5 := HB3.out.cell 5 rfl
        have z0 := HB3.out.free 0; have z1 := HB3.out.free 1; have z2 := HB3.out.free 2; have z3 := HB3.out.free 3; have z4 := HB3.out.free 4; have z5 := HB3.out.free 5
        have e0 := HE3.out.cell 0 rfl; have e1 := HE3.out.cell 1 rfl; have e2 := HE3.out.cell 2 rfl; have e3 := HE3.out.cell 3 rfl; have e4 := HE3.out.cell 4 rfl; have e5 := HE3.out.cell 5 rfl
        refine wp_region_still_tail 8 (by kernel_rfl) (by kernel_rfl) ?_
        change wpStill _ _ (World.drew _) _ _ _
        simp only [List.take_succ_cons, List.take_zero, List.drop_succ_cons, List.drop_zero]
        still_step
        still_step
        still_step
        still_step
        still_step
        have hb1 := b1_bd (ec == 10)
        still_call (one_is _ _)
        still_step
        still_step
        refine wpStill_nil ?_
        change wpList _ _ _ _ _ W3.drew
        go_wp2_with fail
        obtain ⟨W4, hW4⟩ : ∃ W', W' = (W3.setCell ⟨w.heap.size + 1, 5, none⟩ (.int .i64 (su + b1 (ec == 10)))).drew := ⟨_, rfl⟩
        have HE4 : Hid (Blk W4 E [.int .i64 ep, .int .i64 ew, .int .i64 ek, .int .i64 eo, .int .i64 ec, .int .i64 ex] 44) := by rw [hW4]; exact (HE3.out.other (a := ⟨w.heap.size + 1, 5, none⟩) HNE.out _).drew
        have HB4 : Hid (Blk W4 (w.heap.size + 1) [.int .i64 (so + 1), .int .i64 (se + b1 (ec != 0)), .int .i64 sa, .int .i64 (sf + b1 (ek == 5)), .int .i64 (sc + b1 (ek == 2)), .int .i64 (su + b1 (ec == 10))] 40) := by rw [hW4]; exact (HB3.out.set 5 (.int .i64 (su + b1 (ec == 10)))).drew
        have HZ4 : Hid (Blk W4 w.heap.size [.int .i64 0, .int .i64 0, .int .i64 0, .int .i64 0, .int .i64 0, .int .i64 0] 40) := by rw [hW4]; exact (HZ3.out.other (a := ⟨w.heap.size + 1, 5, none⟩) (by simp) _).drew
        have HK4 : Hid (Keep none_ w W4) := by rw [hW4]; exact (HK3.out.putNew (Nat.le_succ _) _ _).drew
        rw [← hW4]
        clear hW4 d0 z0 e0 d1 z1 e1 d2 z2 e2 d3 z3 e3 d4 z4 e4 d5 z5 e5 HE3 HB3 HK3 HZ3
        have d0 := HB4.out.cell 0 rfl; have d1 := HB4.out.cell 1 rfl; have d2 := HB4.out.cell 2 rfl; have d3 := HB4.out.cell 3 rfl; have d4 := HB4.out.cell 4 rfl; have d5 := HB4.out.cell 5 rfl
        have z0 := HB4.out.free 0; have z1 := HB4.out.free 1; have z2 := HB4.out.free 2; have z3 := HB4.out.free 3; have z4 := HB4.out.free 4; have z5 := HB4.out.free 5
        have e0 := HE4.out.cell 0 rfl; have e1 := HE4.out.cell 1 rfl; have e2 := HE4.out.cell 2 rfl; have e3 := HE4.out.cell 3 rfl; have e4 := HE4.out.cell 4 rfl; have e5 := HE4.out.cell 5 rfl
        by_cases h0 : ec = 0
        · have hk0 : (ec == 0) = true := beq_iff_eq.2 h0
          clear h0
          have HAL := fun W (h : Keep none_ w W) => Lib.hid (sAlloc_any pa pn pc pp ⟨ep, ew, ek, eo, ec, ex⟩ W (HP.out.below h) hpn HWF.out)
          generalize hal : isAl pp ⟨ep, ew, ek, eo, ec, ex⟩ = al at *
          have HALE := Lib.hid hal
          clear hal
          have hb1 := b1_bd al
          have HALH := Lib.hid HAL
          clear HAL
          have HE9 : Hid (Sm.step pp ⟨so, se, sa, sf, sc, su⟩ ⟨ep, ew, ek, eo, ec, ex⟩ = ⟨so + 1, se + b1 (ec != 0), sa + b1 al, sf + b1 (ek == 5), sc + b1 (ek == 2), su + b1 (ec == 10)⟩) := by have := HALE.out; simp [Hid, Sm.step, hk1, hk0, this, b1]
          go_region_law? (first | (go_simp; go_at_call 20; refine (one_is _ _).mono ?_; rintro e w' ⟨rfl, rfl⟩) | (go_simp; go_at_call 21; refine ((HALH.out _ (by exact HK4.out.drew)).out).mono ?_; rintro e w' ⟨rfl, hk9⟩; have HB9 := Lib.hid (hk9.blk HB4.out.drew (fun f => f)); have HZ9 := Lib.hid (hk9.blk HZ4.out.drew (fun f => f)); have HK9 := Lib.hid (HK4.out.drew.trans hk9); have d2 := HB9.out.cell 2 rfl; have z2 := HB9.out.free 2; clear hk9))
          all_goals
            go_wp2_with fail
            go_roundg (gk - 1)
            case measure => omega
            case rel => exact ⟨k + 1, by omega, by go_num, by rw [HS.out, HE9.out]; exact HB9.out.set 2 _, HZ9.out.other (a := ⟨w.heap.size + 1, 2, none⟩) (by simp) _, HK9.out.putNew (Nat.le_succ _) _ _⟩
        · have hk0 : (ec == 0) = false := beq_eq_false_iff_ne.2 h0
          clear h0
          refine wp_region_still_tail 13 (by kernel_rfl) (by kernel_rfl) ?_
          change wpStill _ _ (World.drew _) _ _ _
          simp only [List.take_succ_cons, List.take_zero, List.drop_succ_cons, List.drop_zero]
          still_step
          still_step
          still_step
          still_step
          still_step
          still_step
          still_step
          still_step
          still_step
          still_step
          have HE9 : Hid (Sm.step pp ⟨so, se, sa, sf, sc, su⟩ ⟨ep, ew, ek, eo, ec, ex⟩ = ⟨so + 1, se + b1 (ec != 0), sa, sf + b1 (ek == 5), sc + b1 (ek == 2), su + b1 (ec == 10)⟩) := by simp [Hid, Sm.step, hk1, hk0, b1]
          still_call (one_is _ _)
          still_step
          still_step
          refine wpStill_nil ?_
          change wpList _ _ _ _ _ W4.drew
          have hbf : b1 false = 0 := rfl
          go_wp2_with fail
          go_roundg (gk - 1)
          case measure => omega
          case rel => exact ⟨k + 1, by omega, by go_num, by rw [HS.out, HE9.out]; exact (HB4.out.set 2 (.int .i64 sa)).drew, (HZ4.out.other (a := ⟨w.heap.size + 1, 2, none⟩) (by simp) _).drew, (HK4.out.putNew (Nat.le_succ _) _ _).drew⟩
      · have hk1 : (ek == 1) = false := beq_eq_false_iff_ne.2 h1
        clear h1
        have HE9 : Hid (Sm.step pp ⟨so, se, sa, sf, sc, su⟩ ⟨ep, ew, ek, eo, ec, ex⟩ = ⟨so, se, sa, sf + b1 (ek == 5), sc + b1 (ek == 2), su⟩) := by simp [Hid, Sm.step, hk1, b1]
        go_wp2_with fail
        go_roundg (gk - 1)
        case measure => omega
        case rel => exact ⟨k + 1, by omega, by go_num, by rw [HS.out, HE9.out]; exact (HB1.out.set 4 _).drew, (HZ1.out.other (a := ⟨w.heap.size + 1, 4, none⟩) (by simp) _).drew, (HK1.out.putNew (Nat.le_succ _) _ _).drew⟩
    · obtain rfl : k = n := by omega
      have hl := HL.out
      rw [List.take_of_length_le (by omega)] at HB
      have d0 := HB.out.cell 0 rfl; have q0 := HZ.out.cell 0 rfl; have z0 := HZ.out.free 0; have d1 := HB.out.cell 1 rfl; have q1 := HZ.out.cell 1 rfl; have z1 := HZ.out.free 1; have d2 := HB.out.cell 2 rfl; have q2 := HZ.out.cell 2 rfl; have z2 := HZ.out.free 2; have d3 := HB.out.cell 3 rfl; have q3 := HZ.out.cell 3 rfl; have z3 := HZ.out.free 3; have d4 := HB.out.cell 4 rfl; have q4 := HZ.out.cell 4 rfl; have z4 := HZ.out.free 4; have d5 := HB.out.cell 5 rfl; have q5 := HZ.out.cell 5 rfl; have z5 := HZ.out.free 5
      have hne : ¬ (w.heap.size = w.heap.size + 1) := by omega
      generalize hs9 : tot pp l = s at *
      obtain ⟨so, se, sa, sf, sc, su⟩ := s
      have HS9 := Lib.hid hs9
      clear hs9
      simp only at d0 d1 d2 d3 d4 d5
      clear hl hg
      go_wp2_with fail
      obtain ⟨Wf, hWf⟩ : ∃ W', W' = ((((((wr.setCell ⟨w.heap.size, 0, none⟩ (.int .i64 so)).setCell ⟨w.heap.size, 1, none⟩ (.int .i64 se)).setCell ⟨w.heap.size, 2, none⟩ (.int .i64 sa)).setCell ⟨w.heap.size, 3, none⟩ (.int .i64 sf)).setCell ⟨w.heap.size, 4, none⟩ (.int .i64 sc)).setCell ⟨w.heap.size, 5, none⟩ (.int .i64 su)) := ⟨_, rfl⟩
      have hb : Blk Wf w.heap.size [.int .i64 so, .int .i64 se, .int .i64 sa, .int .i64 sf, .int .i64 sc, .int .i64 su] 40 := by rw [hWf]; exact ((((((HZ.out.set 0 (.int .i64 so)).set 1 (.int .i64 se)).set 2 (.int .i64 sa)).set 3 (.int .i64 sf)).set 4 (.int .i64 sc)).set 5 (.int .i64 su))
      have hk : Keep none_ w Wf := by rw [hWf]; exact ((((((HK.out.putNew (B := w.heap.size) (Nat.le_refl _) 0 (.int .i64 so)).putNew (B := w.heap.size) (Nat.le_refl _) 1 (.int .i64 se)).putNew (B := w.heap.size) (Nat.le_refl _) 2 (.int .i64 sa)).putNew (B := w.heap.size) (Nat.le_refl _) 3 (.int .i64 sf)).putNew (B := w.heap.size) (Nat.le_refl _) 4 (.int .i64 sc)).putNew (B := w.heap.size) (Nat.le_refl _) 5 (.int .i64 su))
      rw [← hWf]
      clear hWf
      have f0 := hb.cell 0 rfl; have f1 := hb.cell 1 rfl; have f2 := hb.cell 2 rfl; have f3 := hb.cell 3 rfl; have f4 := hb.cell 4 rfl; have f5 := hb.cell 5 rfl
      exact bodyPost_ret (v := .agg #[.int .i64 so, .int .i64 se, .int .i64 sa, .int .i64 sf, .int .i64 sc, .int .i64 su]) (by simp [results, Tryd.results15, go_sem, f0, f1, f2, f3, f4, f5]) rfl ⟨by rw [HS9.out], hk⟩
end Go.Proofs.YtcopkhhgcgfelaaDoor
