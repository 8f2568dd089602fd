/- The walk of StatsLongest. -/
import Derived.Test.YtcopkhhgcgfelaaDoorStats5
import Derived.Stop.LaidErr
namespace Go.Proofs.YtcopkhhgcgfelaaDoor
open Go.RowKit

/-- What the statements say of the library's tables gives the table of powers. -/
theorem tab_of {w : World} (h : laidMetH Tryd.prog Rows.statsLongestRow.laid w) : Tab w := by
  have h' : laidMetH Tryd.prog [("math/bits.deBruijn32tab", Rows.laid_math_bits_deBruijn32tab), ("math/bits.deBruijn64tab", Rows.laid_math_bits_deBruijn64tab), ("internal/strconv.uint64pow10", Rows.laid_internal_strconv_uint64pow10)] w := h
  rw [MakeChecks.laidMetH_plain _ _ _ (by kernel_rfl)] at h'
  have h2 := laidMet.tail (laidMet.tail h')
  exact Lib.tabIs_of_head (g := 0) (t := 68) (e := 62) (n := 20) (by kernel_rfl) (by kernel_rfl) Tryd.underlying68 Tryd.underlying62 (by kernel_rfl) (by kernel_rfl) h2

set_option maxRecDepth 100000 in
set_option maxHeartbeats 4000000 in
theorem statsLongest_any (a0 : Option Addr) (n0 c0 : Nat) (z0 : List (List Value)) (w : World) (hw0 : Flats [.int .i64, .int .i64, .int .i64, .int .i64, .int .i64] w a0 n0 z0) (hm0 : n0 ≤ maxLen) (hL : laidMetH Tryd.prog Rows.statsLongestRow.laid w) :
    Calls Tryd.prog 3 #[.slice a0 n0 c0] w fun e w' => e = .returned (.bool true) ∧ Keep none_ w w' := by
  unfold maxLen at hm0
  have HT := Lib.hid (tab_of hL)
  clear hL
  by_cases hbig : 100 < n0
  · clear hw0
    go_enter Tryd.func3, Tryd.ntmps3
    go_wp2_with (go_at_call 7; refine (awake26_any _ HT.out).mono ?_; rintro e w1 ⟨rfl, hk⟩)
    go_ret
    exact ⟨rfl, hk⟩
  obtain ⟨l, rfl, hwf⟩ := list_of (f := Cy.cells) (P := Cy.wf) (fun r h => cy_of h) z0 hw0.ok
  have HR := Lib.hid (RecAt.ofFlats hw0)
  have HW := Lib.hid hwf
  have HL : Hid (l.length = n0) := by have := hw0.len; simpa [Hid] using this
  clear hw0 hwf
  go_enter Tryd.func3, Tryd.ntmps3
  go_wp2_with fail
  go_loopg [3, 4, 5] n0 (fun g m ok i wr => ∃ k : Nat, g + k = n0 ∧ i = .int .i64 k ∧ m = .int .i64 (longest (l.take k)).1 ∧ ok = .bool (longest (l.take k)).2 ∧ Hid (∀ c ∈ l.take k, c.near) ∧ Hid (Keep none_ w wr))
  case atStart => exact ⟨0, by omega, rfl, rfl, rfl, fun _ h => by simp at h, Keep.refl _ _⟩
  case round =>
    obtain ⟨k, hg, rfl, rfl, rfl, HN, HK⟩ := hrel
    by_cases hlt : k < n0
    · obtain ⟨b, off, rfl, c, hc, g0, g1, g2, g3, g4⟩ := cyCells (HR.out.below HK.out) k hlt
      have hkl : k < l.length := by rw [HL.out]; exact hlt
      have hs := lg_snoc l k hkl
      have hck : l[k] = c := by
        rw [List.getElem?_eq_getElem hkl] at hc; simpa using hc
      rw [hck] at hs
      have HS := Lib.hid hs
      have HN2 : Hid (c.near → ∀ c ∈ l.take (k + 1), c.near) := fun hn x hx => by
        rw [List.take_succ_eq_append_getElem hkl, hck] at hx
        rcases List.mem_append.1 hx with hx | hx
        · exact HN.out x hx
        · simp at hx; subst hx; exact hn
      have HA := Lib.hid (fun w' (h : Keep none_ w w') => awake26_any w' (HT.out.keep h))
      clear hs hc hck
      generalize longest (l.take k) = s at *
      obtain ⟨m, ok⟩ := s
      obtain ⟨cn, cs, cm, cr, cf⟩ := c
      simp only at g0 g1 g2 g3 g4
      by_cases h1 : 1152921504606846976 < cr
      · go_wp2_with (go_at_call 7; refine (HA.out _ HK.out).mono ?_; rintro e w1 ⟨rfl, hk⟩)
        go_ret
        exact ⟨rfl, HK.out.trans hk⟩
      by_cases h2 : 1152921504606846976 < cs
      · go_wp2_with (go_at_call 7; refine (HA.out _ HK.out).mono ?_; rintro e w1 ⟨rfl, hk⟩)
        go_ret
        exact ⟨rfl, HK.out.trans hk⟩
      by_cases h3 : cs < -1152921504606846976
      · go_wp2_with (go_at_call 7; refine (HA.out _ HK.out).mono ?_; rintro e w1 ⟨rfl, hk⟩)
        go_ret
        exact ⟨rfl, HK.out.trans hk⟩
      have HNN : Hid (∀ c ∈ l.take (k + 1), c.near) := HN2.out ⟨by simp; omega, by simp; omega, by simp; omega⟩
      by_cases hr : 0 ≤ cr
      · cases ok with
        | false =>
          have HE : Hid (lgStep (m, false) ⟨cn, cs, cm, cr, cf⟩ = (cr - cs, true)) := by simp [Hid, lgStep, hr]
          go_wp2_with fail
          go_quiet (fail)
          go_wp2_with fail
          go_quiet (fail)
          go_wp2_with fail
          go_roundg (gk - 1)
          case measure => omega
          case rel => exact ⟨k + 1, by omega, by go_num, by rw [HS.out, HE.out], by rw [HS.out, HE.out], HNN, HK.out.drewN _⟩
        | true =>
          by_cases hm : m < cr - cs
          · have HE : Hid (lgStep (m, true) ⟨cn, cs, cm, cr, cf⟩ = (cr - cs, true)) := by simp [Hid, lgStep, hr, hm]
            go_wp2_with fail
            go_quiet (fail)
            go_wp2_with fail
            go_quiet (fail)
            go_wp2_with fail
            go_roundg (gk - 1)
            case measure => omega
            case rel => exact ⟨k + 1, by omega, by go_num, by rw [HS.out, HE.out], by rw [HS.out, HE.out], HNN, HK.out.drewN _⟩
          · have HE : Hid (lgStep (m, true) ⟨cn, cs, cm, cr, cf⟩ = (m, true)) := by simp [Hid, lgStep, hm]
            go_wp2_with fail
            go_quiet (fail)
            go_wp2_with fail
            go_roundg (gk - 1)
            case measure => omega
            case rel => exact ⟨k + 1, by omega, by go_num, by rw [HS.out, HE.out], by rw [HS.out, HE.out], HNN, HK.out.drewN _⟩
      · have HE : Hid (lgStep (m, ok) ⟨cn, cs, cm, cr, cf⟩ = (m, ok)) := by simp [Hid, lgStep, hr]
        have hr0 : decide (0 ≤ cr) = false := decide_eq_false hr
        go_wp2_with fail
        go_quiet (fail)
        go_wp2_with fail
        go_roundg (gk - 1)
        case measure => omega
        case rel => exact ⟨k + 1, by omega, by go_num, by rw [HS.out, HE.out], by rw [HS.out, HE.out], HNN, HK.out.drewN _⟩
    · obtain rfl : k = n0 := by omega
      have hl := HL.out
      have hnear := HN.out
      rw [List.take_of_length_le (by omega)] at hnear ⊢
      have HC := Lib.hid (sLongest_any a0 k c0 l wr (HR.out.below HK.out) (by omega) hnear)
      have HA := Lib.hid (fun w' (h : Keep none_ w w') => awake26_any w' (HT.out.keep h))
      clear hl hnear hg
      generalize longest l = s at *
      obtain ⟨m, ok⟩ := s
      go_wp2_with fail
      refine HC.out.mono ?_
      rintro e w1 ⟨rfl, hk1⟩
      have HK1 := Lib.hid (HK.out.trans hk1)
      clear hk1
      go_wp2_with (go_at_call 7; refine (HA.out _ HK1.out).mono ?_; rintro e w1 ⟨rfl, hk⟩)
      go_ret
      exact ⟨rfl, HK1.out.trans hk⟩
end Go.Proofs.YtcopkhhgcgfelaaDoor
