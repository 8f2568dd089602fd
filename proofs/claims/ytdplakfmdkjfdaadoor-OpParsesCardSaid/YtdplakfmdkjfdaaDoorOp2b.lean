/- each, of a closure that makes rows of its own. -/
import Derived.Test.YtdplakfmdkjfdaaDoorOp2
namespace Go.Proofs.YtdplakfmdkjfdaaDoor
open Go.RowKit Go.Sort

set_option maxRecDepth 4000 in
set_option maxHeartbeats 4000000 in
theorem each_new (f : FuncId) (caps : Array Value) (S : Nat → Prop) (I : Nat → Nat → World → Prop) (B : Nat) (k : Int) (w : World) (hT : Tabs w) (hB : w.cell? ⟨B, 0, none⟩ = some (.int .i64 k)) (h0 : ∀ base, w.heap.size ≤ base → I base 0 w)
    (hcf : ∀ (args : Array Value) (w : World), (callFunc f args).run Tryd.prog w = .ok (.enter f args) w)
    (hI : ∀ base j W W', I base j W → Keep none_ W W' → I base j W') (hS : ∀ i, S i → i < w.heap.size)
    (hstep : ∀ base j l W, w.heap.size ≤ base → base ≤ W.heap.size → (useL k)[j]? = some l → I base j W → Calls Tryd.prog f (#[.int .u8 l.toNat, .pointer (some ⟨B, j + 1, none⟩)] ++ caps) W fun x W' => x = .returned (.tuple #[]) ∧ I base (j + 1) W' ∧ Keep (fun i => S i ∨ base ≤ i) W W') :
    Calls Tryd.prog 55 #[.pointer (some ⟨B, 0, none⟩), .func (.func f) #[] caps] w fun x w' => x = .returned (.tuple #[]) ∧ (∃ base, w.heap.size ≤ base ∧ I base (useL k).length w') ∧ Keep S w w' := by
  obtain ⟨W0, hW0⟩ : ∃ W', W' = (w.alloc (.cells #[.pointer (some ⟨B, 1, none⟩), .pointer (some ⟨B, 2, none⟩), .pointer (some ⟨B, 3, none⟩)] 112)).drew := ⟨_, rfl⟩
  have hk0 : Keep none_ w W0 := by rw [hW0]; exact ((Keep.refl _ _).alloc _).drew
  have hb0 : Blk W0 w.heap.size [.pointer (some ⟨B, 1, none⟩), .pointer (some ⟨B, 2, none⟩), .pointer (some ⟨B, 3, none⟩)] 112 := by rw [hW0]; exact (Blk.new w _ _).drew
  obtain ⟨s, hs⟩ : ∃ s, s = useL k := ⟨_, rfl⟩
  have HL : Hid (s.length ≤ 3) := by rw [hs]; exact useL_len k
  have HU := Lib.hid (uses_any k W0 (hT.keep hk0))
  have hB0 := hk0.still hB
  rw [← hs] at HU hstep ⊢
  obtain ⟨N, cap, W1, hcv, HC, HK1, HN⟩ := bytes_conv s W0
  have HNS : Hid (w.heap.size ≤ N) := Nat.le_trans hk0.size HN.out
  have HI := Lib.hid hI
  have HS := Lib.hid hS
  have HSTEP := Lib.hid hstep
  have hszw : w.heap.size ≤ W1.heap.size := (hk0.trans HK1.out).size
  have H0 : Hid (I W1.heap.size 0 W1) := hI _ _ _ _ (hI _ _ _ _ (h0 _ hszw) hk0) HK1.out
  have HNL : Hid (0 < s.length → N < W1.heap.size) := fun h => by
    have h9 := HC.out 0 _ (List.getElem?_eq_getElem h)
    exact World.block_lt_of_cell? _ _ h9
  have HSW := Lib.hid hszw
  have HB1 := Lib.hid (HK1.out.blk hb0 (fun f => f))
  have HK01 := Lib.hid (hk0.trans HK1.out)
  clear hT hI hS hstep h0 hs HN hk0 hb0 hB hszw
  go_enter Tryd.func55, Tryd.ntmps55
  go_wp2_with fail
  go_region
  rw [← hW0]
  clear hW0
  go_wp2_with (go_at_call 64; refine HU.out.mono ?_; rintro e w1 ⟨rfl, rfl⟩)
  go_loopg [5, 6, 24] s.length (fun g i5 l6 i24 wr => ∃ j : Nat, g + j = s.length ∧ i24 = .int .i64 j ∧ Hid (I W1.heap.size j wr) ∧ Hid (Keep (fun i => S i ∨ W1.heap.size ≤ i) W1 wr))
  case atStart => exact ⟨0, rfl, rfl, H0, Keep.refl _ _⟩
  case round =>
    obtain ⟨j, hg, rfl, HJ, HKJ⟩ := hrel
    clear H0
    by_cases hlt : j < s.length
    · have hj3 : j < 3 := by have := HL.out; omega
      have hltz : (j : Int) < s.length := by omega
      have hj3z : (j : Int) < 3 := by omega
      have cl := HKJ.out.cellv (HC.out j _ (List.getElem?_eq_getElem hlt)) (fun h => by
        rcases h with h | h
        · exact absurd (HS.out _ h) (by have := HNS.out; simp; omega)
        · have := HNL.out (by omega); simp at h; omega)
      have cp : wr.cell? ⟨w.heap.size, j, none⟩ = some (.pointer (some ⟨B, j + 1, none⟩)) := by
        refine HKJ.out.cellv (HB1.out.cell j ?_) (fun h => by
          rcases h with h | h
          · exact absurd (HS.out _ h) (by simp)
          · have := HB1.out.lt; simp at h; omega)
        rcases (by omega : j = 0 ∨ j = 1 ∨ j = 2) with rfl | rfl | rfl <;> rfl
      have HCALL := Lib.hid (HSTEP.out W1.heap.size j _ wr HSW.out HKJ.out.size (List.getElem?_eq_getElem hlt) HJ.out)
      generalize s[j] = l at *
      clear hj3
      go_wp2_with (refine HCALL.out.mono ?_; rintro e w2 ⟨rfl, hj2, hk2⟩)
      have HJ2 := Lib.hid hj2
      have HK2 := Lib.hid (HKJ.out.trans hk2)
      clear hj2 hk2
      go_roundg (gk - 1)
      case measure => omega
      case rel => exact ⟨j + 1, by omega, by go_num, HJ2, HK2⟩
    · obtain rfl : j = s.length := by omega
      have hge : ¬ ((s.length : Int) < s.length) := by omega
      clear hg
      go_wp2_with fail
      go_end0
      refine ⟨rfl, ⟨_, HSW.out, HJ.out⟩, (Keep.mono (T := S) HK01.out (fun _ _ f => f.elim)).trans' HKJ.out (fun i hi h => ?_)⟩
      rcases h with h | h
      · exact h
      · have := HSW.out; omega
end Go.Proofs.YtdplakfmdkjfdaaDoor
