/- each: a closure is called with each number that an operation uses, and its letter. -/
import Derived.Test.YtkjplkkjdlanhaaGreatDoorOp1
import Derived.Laws.IdiomStrings
import Derived.BigRegion
namespace Go.Proofs.YtkjplkkjdlanhaaGreatDoor
open Go.RowKit Go.Sort

theorem bytes_cell {w : World} {s : List UInt8} {cap : Nat} {e : TypeId} {fr : Nat × Nat} {j : Nat} {l : UInt8} (h : s[j]? = some l) : (w.alloc (.cells (bytesRow ⟨s.toArray⟩ cap) e fr)).cell? ⟨w.heap.size, j, none⟩ = some (.int .u8 l.toNat) := by
  have hj := (List.getElem?_eq_some_iff.1 h).1
  have e1 : (w.alloc (.cells (bytesRow ⟨s.toArray⟩ cap) e fr)).heap[w.heap.size]? = some (.cells (bytesRow ⟨s.toArray⟩ cap) e fr) := by
    show (w.heap.push _)[w.heap.size]? = _
    simp
  have e2 : (bytesRow ⟨s.toArray⟩ cap)[j]? = some (.int .u8 l.toNat) := by
    unfold bytesRow
    rw [Array.getElem?_append_left (by simpa using hj)]
    simp [h]
  unfold World.cell?
  simp only [e1]
  exact e2

theorem useL_len (k : Int) : (useL k).length ≤ 3 := by
  unfold useL
  split
  · rename_i h
    simp [isKind] at h
    obtain ⟨n, rfl⟩ : ∃ n : Nat, k = n := ⟨k.toNat, by omega⟩
    have hn : n < 9 := by omega
    simp only [Int.toNat_natCast]
    have : ∀ n, n < 9 → (kindL.getD (2 * n + 1) []).length ≤ 3 := by decide
    exact this n hn
  · simp
theorem bytes_conv (s : List UInt8) (w : World) : ∃ N cap W1, (convert 9 136 (.string ⟨s.toArray⟩)).run Tryz.prog w = .ok (.slice (some ⟨N, 0, none⟩) s.length cap) W1 ∧ Hid (∀ j l, s[j]? = some l → W1.cell? ⟨N, j, none⟩ = some (.int .u8 l.toNat)) ∧ Hid (Keep none_ w W1) ∧ Hid (w.heap.size ≤ N) := by
  have h := run_bytes_of_string (P := Tryz.prog) w 9 136 5 ⟨s.toArray⟩ (by kernel_rfl) (by kernel_rfl) (by kernel_rfl)
  have e : (⟨s.toArray⟩ : ByteArray).size = s.length := by simp [ByteArray.size]
  rw [e] at h
  exact ⟨_, _, _, h, fun j l hj => bytes_cell (w := w.drew) hj, (Keep.refl _ _).drew.alloc _, Nat.le_refl _⟩

set_option maxRecDepth 4000 in
set_option maxHeartbeats 4000000 in
theorem each_any (f : FuncId) (caps : Array Value) (S : Nat → Prop) (I : Nat → World → Prop) (B : Nat) (k : Int) (w : World) (hT : Tabs w) (hB : w.cell? ⟨B, 0, none⟩ = some (.int .i64 k)) (h0 : I 0 w)
    (hcf : ∀ (args : Array Value) (w : World), (callFunc f args).run Tryz.prog w = .ok (.enter f args) w)
    (hI : ∀ j W W', I j W → Keep none_ W W' → I j W') (hS : ∀ i, S i → i < w.heap.size)
    (hstep : ∀ j l W, (useL k)[j]? = some l → I j W → Keep S w W → Calls Tryz.prog f (#[.int .u8 l.toNat, .pointer (some ⟨B, j + 1, none⟩)] ++ caps) W fun x W' => x = .returned (.tuple #[]) ∧ I (j + 1) W' ∧ Keep S W W') :
    Calls Tryz.prog 56 #[.pointer (some ⟨B, 0, none⟩), .func (.func f) #[] caps] w fun x w' => x = .returned (.tuple #[]) ∧ I (useL k).length w' ∧ Keep S w w' := by
  obtain ⟨W0, hW0⟩ : ∃ W', W' = (w.alloc (.cells #[.pointer (some ⟨B, 1, none⟩), .pointer (some ⟨B, 2, none⟩), .pointer (some ⟨B, 3, none⟩)] 135)).drew := ⟨_, rfl⟩
  have hk0 : Keep none_ w W0 := by rw [hW0]; exact ((Keep.refl _ _).alloc _).drew
  have hb0 : Blk W0 w.heap.size [.pointer (some ⟨B, 1, none⟩), .pointer (some ⟨B, 2, none⟩), .pointer (some ⟨B, 3, none⟩)] 135 := by rw [hW0]; exact (Blk.new w _ _).drew
  obtain ⟨s, hs⟩ : ∃ s, s = useL k := ⟨_, rfl⟩
  have HL : Hid (s.length ≤ 3) := by rw [hs]; exact useL_len k
  have HU := Lib.hid (uses_any k W0 (hT.keep hk0))
  have hB0 := hk0.still hB
  rw [← hs] at HU hstep ⊢
  obtain ⟨N, cap, W1, hcv, HC, HK1, HN⟩ := bytes_conv s W0
  have HNS : Hid (w.heap.size ≤ N) := Nat.le_trans hk0.size HN.out
  have HI := Lib.hid hI
  have HS := Lib.hid hS
  have HSTEP := Lib.hid hstep
  have H0 : Hid (I 0 W1) := hI _ _ _ (hI _ _ _ h0 hk0) HK1.out
  have HB1 := Lib.hid (HK1.out.blk hb0 (fun f => f))
  have HK01 := Lib.hid (hk0.trans HK1.out)
  clear hT hI hS hstep h0 hs HN hk0 hb0 hB
  go_enter Tryz.func56, Tryz.ntmps56
  go_wp2_with fail
  go_region
  rw [← hW0]
  clear hW0
  go_wp2_with (go_at_call 75; refine HU.out.mono ?_; rintro e w1 ⟨rfl, rfl⟩)
  go_loopg [5, 6, 24] s.length (fun g i5 l6 i24 wr => ∃ j : Nat, g + j = s.length ∧ i24 = .int .i64 j ∧ Hid (I j wr) ∧ Hid (Keep S W1 wr))
  case atStart => exact ⟨0, rfl, rfl, H0, Keep.refl _ _⟩
  case round =>
    obtain ⟨j, hg, rfl, HJ, HKJ⟩ := hrel
    clear H0
    by_cases hlt : j < s.length
    · have hj3 : j < 3 := by have := HL.out; omega
      have hltz : (j : Int) < s.length := by omega
      have hj3z : (j : Int) < 3 := by omega
      have cl := HKJ.out.cellv (HC.out j _ (List.getElem?_eq_getElem hlt)) (fun h => absurd (HS.out _ h) (by have := HNS.out; simp; omega))
      have cp : wr.cell? ⟨w.heap.size, j, none⟩ = some (.pointer (some ⟨B, j + 1, none⟩)) := by
        refine HKJ.out.cellv (HB1.out.cell j ?_) (fun h => absurd (HS.out _ h) (by simp))
        rcases (by omega : j = 0 ∨ j = 1 ∨ j = 2) with rfl | rfl | rfl <;> rfl
      have HCALL := Lib.hid (HSTEP.out j _ wr (List.getElem?_eq_getElem hlt) HJ.out ((HK01.out.mono (fun _ _ f => f.elim)).trans HKJ.out))
      generalize s[j] = l at *
      clear hj3
      go_wp2_with (refine HCALL.out.mono ?_; rintro e w2 ⟨rfl, hj2, hk2⟩)
      have HJ2 := Lib.hid hj2
      have HK2 := Lib.hid (HKJ.out.trans hk2)
      clear hj2 hk2
      go_roundg (gk - 1)
      case measure => omega
      case rel => exact ⟨j + 1, by omega, by go_num, HJ2, HK2⟩
    · obtain rfl : j = s.length := by omega
      have hge : ¬ ((s.length : Int) < s.length) := by omega
      clear hg
      go_wp2_with fail
      go_end0
      exact ⟨rfl, HJ.out, (HK01.out.mono (fun _ _ f => f.elim)).trans HKJ.out⟩
end Go.Proofs.YtkjplkkjdlanhaaGreatDoor
