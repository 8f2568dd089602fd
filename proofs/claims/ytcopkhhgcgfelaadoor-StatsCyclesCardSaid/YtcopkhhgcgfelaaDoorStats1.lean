/- What stats.Longest does. -/
import Derived.Test.YtcopkhhgcgfelaaDoorRows
import Derived.Test.YtcopkhhgcgfelaaDoorStatsPlain
import Derived.Test.YtcopkhhgcgfelaaDoorRecAt
import Derived.Test.YtcopkhhgcgfelaaDoorRowV
import Derived.WalkKit
import Derived.WalkSpells
import Derived.WalkLawsBesides
import Derived.Lib.Hide
import Derived.BigRegion
import Derived.Deep.LoopGhost
namespace Go.Proofs.YtcopkhhgcgfelaaDoor
open Go.RowKit

theorem cyCells {w : World} {a : Option Addr} {n : Nat} {l : List Cy} (h : RecAt w a n 5 (l.map Cy.cells)) (i : Nat) (hi : i < n) : ∃ b off, a = some ⟨b, off, none⟩ ∧ ∃ c, l[i]? = some c ∧ w.cell? ⟨b, off + i * 5, none⟩ = some (.int .i64 c.number) ∧ w.cell? ⟨b, off + i * 5 + 1, none⟩ = some (.int .i64 c.start) ∧ w.cell? ⟨b, off + i * 5 + 2, none⟩ = some (.int .i64 c.marked) ∧ w.cell? ⟨b, off + i * 5 + 3, none⟩ = some (.int .i64 c.rested) ∧ w.cell? ⟨b, off + i * 5 + 4, none⟩ = some (.int .i64 c.freed) := by
  obtain ⟨b, off, e, hc⟩ := h.at_ (by omega)
  have hl := h.len
  simp at hl
  have h1 : l[i]? = some (l[i]'(by omega)) := List.getElem?_eq_getElem _
  have h2 := hc i (l[i]'(by omega)).cells (by simp [h1])
  exact ⟨b, off, e, _, h1, h2 0 _ rfl, h2 1 _ rfl, h2 2 _ rfl, h2 3 _ rfl, h2 4 _ rfl⟩

set_option maxHeartbeats 1000000 in
theorem sLongest_any (a : Option Addr) (n cc : Nat) (l : List Cy) (w : World) (h : RecAt w a n 5 (l.map Cy.cells)) (hn : n ≤ 9223372036854775807) (hnear : ∀ c ∈ l, c.near) :
    Calls Tryd.prog 8 #[.slice a n cc] w fun e w' => e = .returned (.tuple #[.int .i64 (longest l).1, .bool (longest l).2]) ∧ Keep none_ w w' := by
  have hl := h.len
  simp at hl
  have HL := Lib.hid hl
  have H := Lib.hid h
  have HN := Lib.hid hnear
  clear h hl hnear
  go_enter Tryd.func8, Tryd.ntmps8
  go_wp2
  go_loopg [4, 5, 10] n (fun g m ok i wr => ∃ k : Nat, g + k = n ∧ i = .int .i64 k ∧ m = .int .i64 (longest (l.take k)).1 ∧ ok = .bool (longest (l.take k)).2 ∧ Hid (Keep none_ w wr))
  case atStart => exact ⟨0, rfl, rfl, rfl, rfl, Keep.refl _ _⟩
  case round =>
    obtain ⟨k, hg, rfl, rfl, rfl, HK⟩ := hrel
    by_cases hlt : k < n
    · obtain ⟨b, off, rfl, c, hc, g0, g1, g2, g3, g4⟩ := cyCells (H.out.below HK.out) k hlt
      have hkl : k < l.length := by rw [HL.out]; exact hlt
      have hs := lg_snoc l k hkl
      have hck : l[k] = c := by
        rw [List.getElem?_eq_getElem hkl] at hc; simpa using hc
      obtain ⟨b1, b2, b3⟩ := HN.out c (hck ▸ List.getElem_mem _)
      rw [hck] at hs
      have HS := Lib.hid hs
      clear hs hc hck
      generalize longest (l.take k) = s at *
      obtain ⟨m, ok⟩ := s
      have HK2 : ∀ o, Hid (Keep none_ w (wr.alloc o)) := fun o => HK.out.alloc o
      by_cases hr : 0 ≤ c.rested
      · cases ok with
        | false =>
          have HE : Hid (lgStep (m, false) c = (c.rested - c.start, true)) := by simp [Hid, lgStep, hr]
          go_wp2
          go_roundg (gk - 1)
          case measure => omega
          case rel => exact ⟨k + 1, by omega, by go_num, by rw [HS.out, HE.out], by rw [HS.out, HE.out], HK2 _⟩
        | true =>
          by_cases hm : m < c.rested - c.start
          · have HE : Hid (lgStep (m, true) c = (c.rested - c.start, true)) := by simp [Hid, lgStep, hr, hm]
            go_wp2
            go_roundg (gk - 1)
            case measure => omega
            case rel => exact ⟨k + 1, by omega, by go_num, by rw [HS.out, HE.out], by rw [HS.out, HE.out], HK2 _⟩
          · have HE : Hid (lgStep (m, true) c = (m, true)) := by simp [Hid, lgStep, hm]
            go_wp2
            go_roundg (gk - 1)
            case measure => omega
            case rel => exact ⟨k + 1, by omega, by go_num, by rw [HS.out, HE.out], by rw [HS.out, HE.out], HK2 _⟩
      · have HE : Hid (lgStep (m, ok) c = (m, ok)) := by simp [Hid, lgStep, hr]
        go_wp2
        go_roundg (gk - 1)
        case measure => omega
        case rel => exact ⟨k + 1, by omega, by go_num, by rw [HS.out, HE.out], by rw [HS.out, HE.out], HK2 _⟩
    · obtain rfl : k = n := by omega
      go_wp2
      go_ret2
      have hl := HL.out
      exact ⟨by rw [List.take_of_length_le (by omega)]; rfl, HK.out⟩
end Go.Proofs.YtcopkhhgcgfelaaDoor
