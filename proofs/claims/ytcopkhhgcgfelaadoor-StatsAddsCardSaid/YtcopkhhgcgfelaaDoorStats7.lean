/- What stats.Codes does. -/
import Derived.Test.YtcopkhhgcgfelaaDoorStats2
namespace Go.Proofs.YtcopkhhgcgfelaaDoor
open Go.RowKit

/-- How often each code was met, as cells. -/
def cods (l : List Ev) : List Value := (List.range 15).map fun j => .int .i64 (cnt l j)
theorem cods_get (l : List Ev) (j : Nat) (h : j < 15) : (cods l)[j]? = some (.int .i64 (cnt l j)) := by simp [cods, h]
theorem cods_nil : cods [] = [.int .i64 0, .int .i64 0, .int .i64 0, .int .i64 0, .int .i64 0, .int .i64 0, .int .i64 0, .int .i64 0, .int .i64 0, .int .i64 0, .int .i64 0, .int .i64 0, .int .i64 0, .int .i64 0, .int .i64 0] := rfl
/-- One that counts. -/
theorem cods_yes (l : List Ev) (k : Nat) (hk : k < l.length) (c : Nat) (h1 : l[k].kind = 1) (h2 : l[k].code = (c : Int)) (hc : c < 15) : (cods (l.take k)).set c (.int .i64 (cnt (l.take k) c + 1)) = cods (l.take (k + 1)) := by
  apply List.ext_getElem?
  intro j
  rcases Nat.lt_or_ge j 15 with hj | hj
  · rw [cods_get _ _ hj, List.getElem?_set, cnt_snoc l k hk j]
    by_cases e : c = j
    · subst e
      simp [cods, hc, h1, h2]
    · rw [if_neg e, cods_get _ _ hj, if_neg (by rw [h2]; intro h; exact e (by omega))]
      simp
  · rw [List.getElem?_eq_none (by simp [cods]; omega), List.getElem?_eq_none (by simp [cods]; omega)]
/-- One that doesn't. -/
theorem cods_no (l : List Ev) (k : Nat) (hk : k < l.length) (h : l[k].kind ≠ 1 ∨ l[k].code < 0 ∨ 15 ≤ l[k].code) : cods (l.take (k + 1)) = cods (l.take k) := by
  apply List.ext_getElem?
  intro j
  rcases Nat.lt_or_ge j 15 with hj | hj
  · rw [cods_get _ _ hj, cods_get _ _ hj, cnt_snoc l k hk j, if_neg]
    · rfl
    · rintro ⟨h1, h2⟩; rcases h with h | h | h
      · exact h h1
      · omega
      · omega
  · rw [List.getElem?_eq_none (by simp [cods]; omega), List.getElem?_eq_none (by simp [cods]; omega)]

set_option maxRecDepth 100000 in
set_option maxHeartbeats 4000000 in
theorem sCodes_any (a : Option Addr) (n cc : Nat) (l : List Ev) (w : World) (h : RecAt w a n 6 (l.map Ev.cells)) (hn : n ≤ 1000) :
    Calls Tryd.prog 16 #[.slice a n cc] w fun e w' => e = .returned (.agg #[.int .i64 (cnt l 0), .int .i64 (cnt l 1), .int .i64 (cnt l 2), .int .i64 (cnt l 3), .int .i64 (cnt l 4), .int .i64 (cnt l 5), .int .i64 (cnt l 6), .int .i64 (cnt l 7), .int .i64 (cnt l 8), .int .i64 (cnt l 9), .int .i64 (cnt l 10), .int .i64 (cnt l 11), .int .i64 (cnt l 12), .int .i64 (cnt l 13), .int .i64 (cnt l 14)]) ∧ Keep none_ w w' := by
  have hl := h.len
  simp at hl
  have HL := Lib.hid hl
  have H := Lib.hid h
  clear h hl
  have HB0 : Hid (Blk ((w.alloc (.cells #[.int .i64 0, .int .i64 0, .int .i64 0, .int .i64 0, .int .i64 0, .int .i64 0, .int .i64 0, .int .i64 0, .int .i64 0, .int .i64 0, .int .i64 0, .int .i64 0, .int .i64 0, .int .i64 0, .int .i64 0] 41)).alloc (.cells #[.int .i64 0, .int .i64 0, .int .i64 0, .int .i64 0, .int .i64 0, .int .i64 0, .int .i64 0, .int .i64 0, .int .i64 0, .int .i64 0, .int .i64 0, .int .i64 0, .int .i64 0, .int .i64 0, .int .i64 0] 41)) (w.heap.size + 1) (cods []) 41) := by
    have := Blk.new (w.alloc (.cells #[.int .i64 0, .int .i64 0, .int .i64 0, .int .i64 0, .int .i64 0, .int .i64 0, .int .i64 0, .int .i64 0, .int .i64 0, .int .i64 0, .int .i64 0, .int .i64 0, .int .i64 0, .int .i64 0, .int .i64 0] 41)) [.int .i64 0, .int .i64 0, .int .i64 0, .int .i64 0, .int .i64 0, .int .i64 0, .int .i64 0, .int .i64 0, .int .i64 0, .int .i64 0, .int .i64 0, .int .i64 0, .int .i64 0, .int .i64 0, .int .i64 0] 41
    unfold Hid; rw [cods_nil]; simpa using this
  have HZ0 : Hid (Blk ((w.alloc (.cells #[.int .i64 0, .int .i64 0, .int .i64 0, .int .i64 0, .int .i64 0, .int .i64 0, .int .i64 0, .int .i64 0, .int .i64 0, .int .i64 0, .int .i64 0, .int .i64 0, .int .i64 0, .int .i64 0, .int .i64 0] 41)).alloc (.cells #[.int .i64 0, .int .i64 0, .int .i64 0, .int .i64 0, .int .i64 0, .int .i64 0, .int .i64 0, .int .i64 0, .int .i64 0, .int .i64 0, .int .i64 0, .int .i64 0, .int .i64 0, .int .i64 0, .int .i64 0] 41)) w.heap.size [.int .i64 0, .int .i64 0, .int .i64 0, .int .i64 0, .int .i64 0, .int .i64 0, .int .i64 0, .int .i64 0, .int .i64 0, .int .i64 0, .int .i64 0, .int .i64 0, .int .i64 0, .int .i64 0, .int .i64 0] 41) := (Blk.new w _ _).alloc _
  go_enter Tryd.func16, Tryd.ntmps16
  go_wp2_with fail
  go_loopg [8] n (fun g i wr => ∃ k : Nat, g + k = n ∧ i = .int .i64 k ∧ Hid (Blk wr (w.heap.size + 1) (cods (l.take k)) 41) ∧ Hid (Blk wr w.heap.size [.int .i64 0, .int .i64 0, .int .i64 0, .int .i64 0, .int .i64 0, .int .i64 0, .int .i64 0, .int .i64 0, .int .i64 0, .int .i64 0, .int .i64 0, .int .i64 0, .int .i64 0, .int .i64 0, .int .i64 0] 41) ∧ Hid (Keep none_ w wr))
  case atStart => exact ⟨0, rfl, rfl, HB0.out, HZ0.out, ((Keep.refl _ _).alloc _).alloc _⟩
  case round =>
    clear HB0 HZ0
    obtain ⟨k, hg, rfl, HB, HZ, HK⟩ := hrel
    by_cases hlt : k < n
    · obtain ⟨b, off, rfl, ev, hc, g0, g1, g2, g3, g4, g5⟩ := evCells (H.out.below HK.out) k hlt
      have hkl : k < l.length := by rw [HL.out]; exact hlt
      have hck : l[k] = ev := by
        rw [List.getElem?_eq_getElem hkl] at hc; simpa using hc
      have HCK := Lib.hid hck
      have HKL := Lib.hid hkl
      clear hc hck
      have HKA : ∀ o, Hid (Keep none_ w (wr.alloc o)) := fun o => HK.out.alloc o
      obtain ⟨ep, ew, ek, eo, ec, ex⟩ := ev
      simp only at g0 g1 g2 g3 g4 g5
      by_cases h1 : ek = 1
      · have hk1 : (ek == 1) = true := beq_iff_eq.2 h1
        by_cases h2 : 0 ≤ ec
        · by_cases h3 : ec < 15
          · obtain ⟨c, rfl⟩ : ∃ c : Nat, ec = c := ⟨ec.toNat, by omega⟩
            have hc15 : c < 15 := by omega
            have HE := Lib.hid (cods_yes l k hkl c (by rw [HCK.out]; exact h1) (by rw [HCK.out]) hc15)
            have d := fun o => (HB.out.alloc o).cell c (cods_get _ c hc15)
            have z := fun o => (HB.out.alloc o).free c
            have hcl : cnt (l.take k) c ≤ 1000 := by
              have := cnt_le (l.take k) c
              have := List.length_take_le k l
              omega
            have hcl2 : ((cnt (l.take k) c : Nat) : Int) ≤ 1000 := by omega
            generalize cnt (l.take k) c = q at *
            clear h1
            go_wp2_with fail
            go_roundg (gk - 1)
            case measure => omega
            case rel => exact ⟨k + 1, by omega, by go_num, by rw [← HE.out]; exact (HB.out.alloc _).set c _, (HZ.out.alloc _).other (a := ⟨w.heap.size + 1, c, none⟩) (by simp) _, (HK.out.alloc _).putNew (Nat.le_succ _) _ _⟩
          · have HE := Lib.hid (cods_no l k hkl (.inr (.inr (by rw [HCK.out]; simp; omega))))
            have h3' : decide (ec < 15) = false := decide_eq_false h3
            clear h1
            go_wp2_with fail
            go_roundg (gk - 1)
            case measure => omega
            case rel => exact ⟨k + 1, by omega, by go_num, by rw [HE.out]; exact HB.out.alloc _, HZ.out.alloc _, (HKA _).out⟩
        · have HE := Lib.hid (cods_no l k hkl (.inr (.inl (by rw [HCK.out]; simp; omega))))
          have h2' : decide (0 ≤ ec) = false := decide_eq_false h2
          clear h1
          go_wp2_with fail
          go_roundg (gk - 1)
          case measure => omega
          case rel => exact ⟨k + 1, by omega, by go_num, by rw [HE.out]; exact HB.out.alloc _, HZ.out.alloc _, (HKA _).out⟩
      · have hk1 : (ek == 1) = false := beq_eq_false_iff_ne.2 h1
        have HE := Lib.hid (cods_no l k hkl (.inl (by rw [HCK.out]; exact h1)))
        clear h1
        go_wp2_with fail
        go_roundg (gk - 1)
        case measure => omega
        case rel => exact ⟨k + 1, by omega, by go_num, by rw [HE.out]; exact HB.out.alloc _, HZ.out.alloc _, (HKA _).out⟩
    · obtain rfl : k = n := by omega
      have hl := HL.out
      rw [List.take_of_length_le (by omega)] at HB
      have d0 := HB.out.cell 0 (cods_get l 0 (by decide)); have q0 := HZ.out.cell 0 rfl; have z0 := HZ.out.free 0; have d1 := HB.out.cell 1 (cods_get l 1 (by decide)); have q1 := HZ.out.cell 1 rfl; have z1 := HZ.out.free 1; have d2 := HB.out.cell 2 (cods_get l 2 (by decide)); have q2 := HZ.out.cell 2 rfl; have z2 := HZ.out.free 2; have d3 := HB.out.cell 3 (cods_get l 3 (by decide)); have q3 := HZ.out.cell 3 rfl; have z3 := HZ.out.free 3; have d4 := HB.out.cell 4 (cods_get l 4 (by decide)); have q4 := HZ.out.cell 4 rfl; have z4 := HZ.out.free 4; have d5 := HB.out.cell 5 (cods_get l 5 (by decide)); have q5 := HZ.out.cell 5 rfl; have z5 := HZ.out.free 5; have d6 := HB.out.cell 6 (cods_get l 6 (by decide)); have q6 := HZ.out.cell 6 rfl; have z6 := HZ.out.free 6; have d7 := HB.out.cell 7 (cods_get l 7 (by decide)); have q7 := HZ.out.cell 7 rfl; have z7 := HZ.out.free 7; have d8 := HB.out.cell 8 (cods_get l 8 (by decide)); have q8 := HZ.out.cell 8 rfl; have z8 := HZ.out.free 8; have d9 := HB.out.cell 9 (cods_get l 9 (by decide)); have q9 := HZ.out.cell 9 rfl; have z9 := HZ.out.free 9; have d10 := HB.out.cell 10 (cods_get l 10 (by decide)); have q10 := HZ.out.cell 10 rfl; have z10 := HZ.out.free 10; have d11 := HB.out.cell 11 (cods_get l 11 (by decide)); have q11 := HZ.out.cell 11 rfl; have z11 := HZ.out.free 11; have d12 := HB.out.cell 12 (cods_get l 12 (by decide)); have q12 := HZ.out.cell 12 rfl; have z12 := HZ.out.free 12; have d13 := HB.out.cell 13 (cods_get l 13 (by decide)); have q13 := HZ.out.cell 13 rfl; have z13 := HZ.out.free 13; have d14 := HB.out.cell 14 (cods_get l 14 (by decide)); have q14 := HZ.out.cell 14 rfl; have z14 := HZ.out.free 14
      have hne : ¬ (w.heap.size = w.heap.size + 1) := by omega
      generalize hs0 : ((cnt l 0 : Nat) : Int) = c0 at *
      have HS0 := Lib.hid hs0
      clear hs0
      generalize hs1 : ((cnt l 1 : Nat) : Int) = c1 at *
      have HS1 := Lib.hid hs1
      clear hs1
      generalize hs2 : ((cnt l 2 : Nat) : Int) = c2 at *
      have HS2 := Lib.hid hs2
      clear hs2
      generalize hs3 : ((cnt l 3 : Nat) : Int) = c3 at *
      have HS3 := Lib.hid hs3
      clear hs3
      generalize hs4 : ((cnt l 4 : Nat) : Int) = c4 at *
      have HS4 := Lib.hid hs4
      clear hs4
      generalize hs5 : ((cnt l 5 : Nat) : Int) = c5 at *
      have HS5 := Lib.hid hs5
      clear hs5
      generalize hs6 : ((cnt l 6 : Nat) : Int) = c6 at *
      have HS6 := Lib.hid hs6
      clear hs6
      generalize hs7 : ((cnt l 7 : Nat) : Int) = c7 at *
      have HS7 := Lib.hid hs7
      clear hs7
      generalize hs8 : ((cnt l 8 : Nat) : Int) = c8 at *
      have HS8 := Lib.hid hs8
      clear hs8
      generalize hs9 : ((cnt l 9 : Nat) : Int) = c9 at *
      have HS9 := Lib.hid hs9
      clear hs9
      generalize hs10 : ((cnt l 10 : Nat) : Int) = c10 at *
      have HS10 := Lib.hid hs10
      clear hs10
      generalize hs11 : ((cnt l 11 : Nat) : Int) = c11 at *
      have HS11 := Lib.hid hs11
      clear hs11
      generalize hs12 : ((cnt l 12 : Nat) : Int) = c12 at *
      have HS12 := Lib.hid hs12
      clear hs12
      generalize hs13 : ((cnt l 13 : Nat) : Int) = c13 at *
      have HS13 := Lib.hid hs13
      clear hs13
      generalize hs14 : ((cnt l 14 : Nat) : Int) = c14 at *
      have HS14 := Lib.hid hs14
      clear hs14
      clear hl hg
      go_wp2_with fail
      obtain ⟨Wf, hWf⟩ : ∃ W', W' = (((((((((((((((wr.setCell ⟨w.heap.size, 0, none⟩ (.int .i64 c0)).setCell ⟨w.heap.size, 1, none⟩ (.int .i64 c1)).setCell ⟨w.heap.size, 2, none⟩ (.int .i64 c2)).setCell ⟨w.heap.size, 3, none⟩ (.int .i64 c3)).setCell ⟨w.heap.size, 4, none⟩ (.int .i64 c4)).setCell ⟨w.heap.size, 5, none⟩ (.int .i64 c5)).setCell ⟨w.heap.size, 6, none⟩ (.int .i64 c6)).setCell ⟨w.heap.size, 7, none⟩ (.int .i64 c7)).setCell ⟨w.heap.size, 8, none⟩ (.int .i64 c8)).setCell ⟨w.heap.size, 9, none⟩ (.int .i64 c9)).setCell ⟨w.heap.size, 10, none⟩ (.int .i64 c10)).setCell ⟨w.heap.size, 11, none⟩ (.int .i64 c11)).setCell ⟨w.heap.size, 12, none⟩ (.int .i64 c12)).setCell ⟨w.heap.size, 13, none⟩ (.int .i64 c13)).setCell ⟨w.heap.size, 14, none⟩ (.int .i64 c14)) := ⟨_, rfl⟩
      have hb : Blk Wf w.heap.size [.int .i64 c0, .int .i64 c1, .int .i64 c2, .int .i64 c3, .int .i64 c4, .int .i64 c5, .int .i64 c6, .int .i64 c7, .int .i64 c8, .int .i64 c9, .int .i64 c10, .int .i64 c11, .int .i64 c12, .int .i64 c13, .int .i64 c14] 41 := by rw [hWf]; exact (((((((((((((((HZ.out.set 0 (.int .i64 c0)).set 1 (.int .i64 c1)).set 2 (.int .i64 c2)).set 3 (.int .i64 c3)).set 4 (.int .i64 c4)).set 5 (.int .i64 c5)).set 6 (.int .i64 c6)).set 7 (.int .i64 c7)).set 8 (.int .i64 c8)).set 9 (.int .i64 c9)).set 10 (.int .i64 c10)).set 11 (.int .i64 c11)).set 12 (.int .i64 c12)).set 13 (.int .i64 c13)).set 14 (.int .i64 c14))
      have hk : Keep none_ w Wf := by rw [hWf]; exact (((((((((((((((HK.out.putNew (B := w.heap.size) (Nat.le_refl _) 0 (.int .i64 c0)).putNew (B := w.heap.size) (Nat.le_refl _) 1 (.int .i64 c1)).putNew (B := w.heap.size) (Nat.le_refl _) 2 (.int .i64 c2)).putNew (B := w.heap.size) (Nat.le_refl _) 3 (.int .i64 c3)).putNew (B := w.heap.size) (Nat.le_refl _) 4 (.int .i64 c4)).putNew (B := w.heap.size) (Nat.le_refl _) 5 (.int .i64 c5)).putNew (B := w.heap.size) (Nat.le_refl _) 6 (.int .i64 c6)).putNew (B := w.heap.size) (Nat.le_refl _) 7 (.int .i64 c7)).putNew (B := w.heap.size) (Nat.le_refl _) 8 (.int .i64 c8)).putNew (B := w.heap.size) (Nat.le_refl _) 9 (.int .i64 c9)).putNew (B := w.heap.size) (Nat.le_refl _) 10 (.int .i64 c10)).putNew (B := w.heap.size) (Nat.le_refl _) 11 (.int .i64 c11)).putNew (B := w.heap.size) (Nat.le_refl _) 12 (.int .i64 c12)).putNew (B := w.heap.size) (Nat.le_refl _) 13 (.int .i64 c13)).putNew (B := w.heap.size) (Nat.le_refl _) 14 (.int .i64 c14))
      rw [← hWf]
      clear hWf
      have f0 := hb.cell 0 rfl; have f1 := hb.cell 1 rfl; have f2 := hb.cell 2 rfl; have f3 := hb.cell 3 rfl; have f4 := hb.cell 4 rfl; have f5 := hb.cell 5 rfl; have f6 := hb.cell 6 rfl; have f7 := hb.cell 7 rfl; have f8 := hb.cell 8 rfl; have f9 := hb.cell 9 rfl; have f10 := hb.cell 10 rfl; have f11 := hb.cell 11 rfl; have f12 := hb.cell 12 rfl; have f13 := hb.cell 13 rfl; have f14 := hb.cell 14 rfl
      exact bodyPost_ret (v := .agg #[.int .i64 c0, .int .i64 c1, .int .i64 c2, .int .i64 c3, .int .i64 c4, .int .i64 c5, .int .i64 c6, .int .i64 c7, .int .i64 c8, .int .i64 c9, .int .i64 c10, .int .i64 c11, .int .i64 c12, .int .i64 c13, .int .i64 c14]) (by simp [results, Tryd.results16, go_sem, f0, f1, f2, f3, f4, f5, f6, f7, f8, f9, f10, f11, f12, f13, f14]) rfl ⟨by rw [HS0.out, HS1.out, HS2.out, HS3.out, HS4.out, HS5.out, HS6.out, HS7.out, HS8.out, HS9.out, HS10.out, HS11.out, HS12.out, HS13.out, HS14.out], hk⟩
end Go.Proofs.YtcopkhhgcgfelaaDoor
