/- fair.Count; the law file's isFair. -/
import Derived.Test.YtcdmlinaebnbcaaFairPlain
namespace Go.Proofs.Ytcdmlinaebnbcaa
open Go.RowKit

def countL (zs : List Int) (m : Int) : Nat := zs.countP (· == m)
theorem countL_snoc (zs : List Int) (m : Int) (k : Nat) (h : k < zs.length) : countL (zs.take (k + 1)) m = countL (zs.take k) m + (if zs.getD k 0 = m then 1 else 0) := by
  rw [take_succ_getD zs k h]
  simp only [countL, List.countP_append, List.countP_cons, List.countP_nil, Nat.zero_add, beq_iff_eq]
theorem countL_le (zs : List Int) (m : Int) : countL zs m ≤ zs.length := List.countP_le_length

set_option maxHeartbeats 400000 in
theorem count_any (a : Option Addr) (n c : Nat) (zs : List Int) (m : Int) (w : World) (hz : IntCells .i64 w a n zs) (hn : n ≤ 1000000000) :
    Calls Try.prog 39 #[.slice a n c, .int .i64 m] w fun e w' => e = .returned (.int .i64 (countL zs m)) ∧ w = w' := by
  have hl := hz.len
  go_enter Try.func39, Try.ntmps39
  go_wp2
  go_loopg [10, 5] n (fun g i s wr => ∃ k : Nat, g + k = n ∧ i = .int .i64 k ∧ s = .int .i64 (countL (zs.take k) m) ∧ wr = w)
  case atStart => exact ⟨0, by omega, rfl, rfl, rfl⟩
  case round =>
    obtain ⟨k, hg, rfl, rfl, rfl⟩ := hrel
    by_cases hlt : k < n
    · obtain ⟨b, off, rfl, hc⟩ := hz.at_ (by omega)
      have hck := hc k hlt
      have hs := countL_snoc zs m k (by omega)
      have hle := countL_le (zs.take k) m
      rw [List.length_take] at hle
      have hle2 : countL (zs.take k) m ≤ k := by omega
      generalize zs.getD k 0 = x at hck hs
      generalize countL (zs.take k) m = s0 at *
      have HS := Lib.hid hs
      clear hle
      by_cases hx : x = m
      · have hb : (x == m) = true := beq_iff_eq.2 hx
        have HX := Lib.hid hx
        clear hx hc hl hs
        go_wp2
        go_roundg (gk - 1)
        case measure => omega
        case rel => exact ⟨k + 1, by omega, by go_num, vi (by rw [HS.out, if_pos HX.out]; omega), rfl⟩
      · have hb : (x == m) = false := beq_eq_false_iff_ne.2 hx
        have HX := Lib.hid hx
        clear hx hc hl hs
        go_wp2
        go_roundg (gk - 1)
        case measure => omega
        case rel => exact ⟨k + 1, by omega, by go_num, vi (by rw [HS.out, if_neg HX.out]; omega), rfl⟩
    · have : zs.take k = zs := List.take_of_length_le (by omega)
      have HE := Lib.hid this; clear this hl
      go_wp2
      go_ret
      exact ⟨by rw [HE.out]; rfl, rfl⟩
theorem count_is {a : Option Addr} {n c : Nat} {zs : List Int} {m : Int} {w : World} {g : Int} (hz : IntCells .i64 w a n zs) (hn : n ≤ 1000000000) (hg : (countL zs m : Int) = g) :
    Calls Try.prog 39 #[.slice a n c, .int .i64 m] w fun e w' => e = .returned (.int .i64 g) ∧ w = w' := by
  rw [← hg]; exact count_any a n c zs m w hz hn

set_option maxHeartbeats 1000000 in
theorem isFair_any (a : Option Addr) (n c : Nat) (zs : List Int) (who k : Nat) (w : World) (hz : IntCells .i64 w a n zs) (hn : n ≤ 1000) (hnc : n ≤ c) (hk1 : 1 ≤ k) (hk2 : k ≤ 1001) (hw : who ≤ 1000) :
    Calls Try.prog 40 #[.slice a n c, .int .i64 who, .int .i64 k] w fun e w' => e = .returned (.bool (decide (gapW zs who ≤ k))) ∧ w = w' := by
  have hl := hz.len
  have HG := Lib.hid (gapW_iff zs who k hk1)
  go_enter Try.func40, Try.ntmps40
  go_wp2_with fail
  go_loopg [7] n (fun g i wr => ∃ j : Nat, g + j = n ∧ i = .int .i64 j ∧ (∀ i, i < j → ∀ w, w < who → (w : Int) ∈ (zs.drop i).take k) ∧ wr = w)
  case atStart => exact ⟨0, by omega, rfl, fun i h => absurd h (by omega), rfl⟩
  case round =>
    obtain ⟨j, hg, rfl, hall, rfl⟩ := hrel
    have HA := Lib.hid hall
    clear hall
    by_cases hlt : j + k ≤ n
    · obtain ⟨b, off, rfl, hc⟩ := hz.at_ (by omega)
      have hcut := hz.cut2 (c := c) j k (by omega) hnc
      have hcj : ¬ c = j := by omega
      have ecut : cutA (some ⟨b, off, none⟩) c j = some ⟨b, off + j, none⟩ := by simp [cutA, hcj, Addr.add]
      rw [ecut] at hcut
      clear hc ecut
      obtain ⟨g0, rfl⟩ : ∃ g0 : Nat, g0 = gk := ⟨_, rfl⟩
      obtain ⟨w0, rfl⟩ : ∃ w0 : World, w0 = wr := ⟨_, rfl⟩
      have hjk : (j : Int) + k ≤ n := by omega
      go_wp2_with fail
      go_loopg [8] who (fun g i wr => ∃ q : Nat, g + q = who ∧ i = .int .i64 q ∧ (∀ w, w < q → (w : Int) ∈ (zs.drop j).take k) ∧ wr = w0)
      case atStart => exact ⟨0, by omega, rfl, fun i h => absurd h (by omega), rfl⟩
      case round =>
        obtain ⟨q, hq, rfl, hin, rfl⟩ := hrel
        have HI := Lib.hid hin
        clear hin
        by_cases hqw : q < who
        · cases hi : inL ((zs.drop j).take k) q with
          | true =>
            have HC := Lib.hid (in_is (c := c - j) hcut (by omega) hi)
            have HM := Lib.hid (inL_true.1 hi)
            clear hi hcut
            go_wp2_with (go_at_call 26; refine HC.out.mono ?_; rintro e w' ⟨rfl, rfl⟩)
            go_roundg (gk - 1)
            case measure => omega
            case rel => exact ⟨q + 1, by omega, by go_num, fun w hw => by
              rcases Nat.lt_succ_iff_lt_or_eq.1 hw with h | h
              · exact HI.out w h
              · rw [h]; exact HM.out, rfl⟩
          | false =>
            have HC := Lib.hid (in_is (c := c - j) hcut (by omega) hi)
            have hno : ¬ gapW zs who ≤ k := fun h => by
              have h1 := HG.out.1 h q hqw j (by omega)
              rw [inL_true.2 h1] at hi
              exact absurd hi (by simp)
            have HN := Lib.hid hno
            clear hi hcut hno
            go_wp2_with (go_at_call 26; refine HC.out.mono ?_; rintro e w' ⟨rfl, rfl⟩)
            go_ret
            exact ⟨by rw [decide_eq_false HN.out]; rfl, rfl⟩
        · obtain rfl : q = who := by omega
          clear hcut
          go_wp2_with fail
          go_roundg (g0 - 1)
          case measure => omega
          case rel => exact ⟨j + 1, by omega, by go_num, fun i hi => by
              rcases Nat.lt_succ_iff_lt_or_eq.1 hi with h | h
              · exact HA.out i h
              · rw [h]; exact HI.out, rfl⟩
    · have hyes : gapW zs who ≤ k := HG.out.2 (fun w hw i hi => HA.out i (by omega) w hw)
      have HY := Lib.hid hyes
      have hlt' : ¬ (j : Int) + k ≤ n := by omega
      clear hyes
      go_wp2_with fail
      go_ret
      exact ⟨by rw [decide_eq_true HY.out]; rfl, rfl⟩
theorem isFair_is {a : Option Addr} {n c : Nat} {zs : List Int} {who k : Int} {w : World} {p : Bool} (hz : IntCells .i64 w a n zs) (hn : n ≤ 1000 ∧ n ≤ c) (hk : 1 ≤ k ∧ k ≤ 1001) (hw : 0 ≤ who ∧ who ≤ 1000) (hp : decide ((gapW zs who.toNat : Int) ≤ k) = p) :
    Calls Try.prog 40 #[.slice a n c, .int .i64 who, .int .i64 k] w fun e w' => e = .returned (.bool p) ∧ w = w' := by
  obtain ⟨q, rfl⟩ : ∃ q : Nat, k = q := ⟨k.toNat, by omega⟩
  obtain ⟨u, rfl⟩ : ∃ u : Nat, who = u := ⟨who.toNat, by omega⟩
  rw [← hp]
  have := isFair_any a n c zs u q w hz hn.1 hn.2 (by omega) (by omega) (by omega)
  simpa using this
end Go.Proofs.Ytcdmlinaebnbcaa
