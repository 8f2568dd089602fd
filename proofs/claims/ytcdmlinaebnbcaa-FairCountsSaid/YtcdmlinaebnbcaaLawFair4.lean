/- The walk of FairCounts. -/
import Derived.Test.YtcdmlinaebnbcaaSpreadPlain
namespace Go.Proofs.Ytcdmlinaebnbcaa
open Go.RowKit

set_option maxRecDepth 100000 in
set_option maxHeartbeats 4000000 in
theorem fairCounts_any (a0 : Option Addr) (n0 c0 : Nat) (z0 : List Int) (who more : Int) (w : World) (hw0 : Ints .u16 w a0 n0 z0) (hm0 : n0 ≤ maxLen) (hq0 : n0 ≤ c0) (hu : (Lit.int .u8 who).wf = true) (hm : (Lit.int .u8 more).wf = true) :
    Calls Try.prog 14 #[.slice a0 n0 c0, .int .u8 who, .int .u8 more] w fun e w' => e = .returned (.bool true) ∧ Keep none_ w w' := by
  have bu := bounds_u8 hu
  have bm := bounds_u8 hm
  unfold maxLen at hm0
  clear hu hm
  by_cases hbig : 300 < n0
  · clear hw0
    go_enter Try.func14, Try.ntmps14
    go_wp2_with (go_at_call 16; refine (awake24_any _).mono ?_; rintro e w1 ⟨rfl, hk⟩)
    go_ret
    exact ⟨rfl, hk⟩
  have hz := hw0.cells
  have hbnd : ∀ j, j < n0 → 0 ≤ z0.getD j 0 ∧ z0.getD j 0 ≤ 65535 := fun j hj => bounds_u16 (hw0.bound j hj)
  have hl := hz.len
  clear hw0
  have hu0 : 0 ≤ who % 6 := Int.emod_nonneg _ (by omega)
  have hu6 : who % 6 < 6 := Int.emod_lt_of_pos _ (by omega)
  have hm0' : 0 ≤ more % 8 := Int.emod_nonneg _ (by omega)
  have hm8 : more % 8 < 8 := Int.emod_lt_of_pos _ (by omega)
  obtain ⟨u, hu⟩ : ∃ u : Nat, (u : Int) = 1 + who % 6 := ⟨(1 + who % 6).toNat, by omega⟩
  obtain ⟨B, hB⟩ : ∃ B : Nat, (B : Int) = 1 + who % 6 + more % 8 := ⟨(1 + who % 6 + more % 8).toNat, by omega⟩
  have hsp := spread_core a0 n0 c0 z0 u B w hz (by omega) hq0 hbnd (by omega) (by omega) (by omega) (by omega)
  obtain ⟨q, hq⟩ : ∃ q, q = n0 / B := ⟨_, rfl⟩
  have hdiv : (n0 : Int) / (1 + who % 6 + more % 8) = q := by rw [← hB, hq]; rfl
  have hq300 : (q : Int) ≤ 300 := by have := Nat.div_le_self n0 B; omega
  have hqB : q * B ≤ n0 := by rw [hq]; exact Nat.div_mul_le_self _ _
  obtain ⟨L, hL⟩ : ∃ L, L = spreadN z0 u B q := ⟨_, rfl⟩
  have hLl : L.length = q * B := by rw [hL, spreadN_len _ _ _ _ (by omega) (by omega)]
  have hLs : sumC L u = q * B := by rw [sumC_all L u (by rw [hL]; exact spread_in z0 u B q (by omega)), hLl]
  have hLc : ∀ j : Nat, j < u → q ≤ countL L j := fun j hj => by rw [hL]; exact count_ge z0 u B q j (by omega)
  have hLj : ∀ j : Nat, j ≤ u → sumC L j ≤ q * B := fun j hj => by rw [← hLs]; exact sumC_le L j u hj
  rw [← hq, ← hL, hu, hB] at hsp
  have HSP := Lib.hid hsp
  have HL := Lib.hid (And.intro hLs (And.intro hLc hLj))
  have HU := Lib.hid hu
  have HQ := Lib.hid hqB
  have hprod : (q : Int) * (1 + who % 6 + more % 8) = ((q * B : Nat) : Int) := by rw [← hB]; exact (Int.natCast_mul q B).symm
  obtain ⟨M, hM⟩ : ∃ M, M = q * B := ⟨_, rfl⟩
  rw [← hM] at HSP HL HQ hprod
  clear hM hsp hbnd hz hl hL hLl hLs hLc hLj hq hu hB hqB
  go_enter Try.func14, Try.ntmps14
  go_wp2_with fail
  refine HSP.out.mono ?_
  rintro e w1 ⟨⟨v, rfl, hown⟩, hk⟩
  obtain ⟨ag, cg, rfl, hic, hcg⟩ := IntCells.ofOwn' hown
  clear hown
  go_wp2_with fail
  go_loopg [11, 10] u (fun g i s wr => ∃ j : Nat, g + j = u ∧ i = .int .i64 j ∧ s = .int .i64 (sumC L j) ∧ wr = w1)
  case atStart => exact ⟨0, by omega, rfl, rfl, rfl⟩
  case round =>
    obtain ⟨j, hg, rfl, rfl, rfl⟩ := hrel
    have hq := HQ.out
    by_cases hlt : j < u
    · have hju : (j : Int) < 1 + who % 6 := by have := HU.out; omega
      have hc := HL.out.2.1 j hlt
      have hs := HL.out.2.2 (j + 1) hlt
      have hs1 : sumC L (j + 1) = sumC L j + countL L j := rfl
      have HS1 := Lib.hid hs1
      have HC := Lib.hid (count_is (c := cg) (m := (j : Int)) hic (by omega) rfl)
      rw [hs1] at hs
      generalize countL L (j : Int) = kc at *
      have hcz : ¬ (kc : Int) < q := by omega
      clear hs1 hic
      go_wp2_with (go_at_call 39; refine HC.out.mono ?_; rintro e w2 ⟨rfl, rfl⟩)
      go_roundg (gk - 1)
      case measure => omega
      case rel => exact ⟨j + 1, by omega, by go_num, vi (by rw [HS1.out]; omega), rfl⟩
    · obtain rfl : j = u := by omega
      have hju : ¬ (j : Int) < 1 + who % 6 := by have := HU.out; omega
      have hsum := HL.out.1
      have HKK := Lib.hid hk
      clear hic
      go_wp2_with (go_at_call 16; refine (awake24_any _).mono ?_; rintro e w3 ⟨rfl, hk3⟩)
      go_ret
      exact ⟨rfl, HKK.out.trans hk3⟩
end Go.Proofs.Ytcdmlinaebnbcaa
