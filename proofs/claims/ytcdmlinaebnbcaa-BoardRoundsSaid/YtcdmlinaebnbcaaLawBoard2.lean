/- The walk of BoardRounds. -/
import Derived.Test.YtcdmlinaebnbcaaRows
import Derived.Test.YtcdmlinaebnbcaaMem
import Derived.Test.YtcdmlinaebnbcaaArgs
import Derived.Test.YtcdmlinaebnbcaaBoardPlain
import Derived.Test.YtcdmlinaebnbcaaLawBoard
namespace Go.Proofs.Ytcdmlinaebnbcaa
open Go.RowKit

set_option maxRecDepth 100000 in
set_option maxHeartbeats 1000000 in
theorem boardRounds_any (a0 : Int) (a1 : Option Addr) (n1 c1 : Nat) (z1 : List Int) (a2 : Int) (w : World) (hw0 : (Lit.int .u8 a0).wf = true) (hw1 : Ints .u8 w a1 n1 z1) (hm : n1 ≤ maxLen) (hw2 : (Lit.int .u8 a2).wf = true) :
    Calls Try.prog 4 #[.int .u8 a0, .slice a1 n1 c1, .int .u8 a2] w fun e w' => e = .returned (.bool true) ∧ Keep none_ w w' := by
  have b0 := bounds_u8 hw0
  have b2 := bounds_u8 hw2
  unfold maxLen at hm
  clear hw0 hw2
  by_cases hbig : 20 < n1
  · clear hw1
    go_enter Try.func4, Try.ntmps4
    go_wp2_with (go_at_call 19; refine (awake12_any _).mono ?_; rintro e w1 ⟨rfl, hk⟩)
    go_ret
    exact ⟨rfl, hk⟩
  have K0 := Lib.hid (new_yes (1 + a0 % 8) w (by omega) (by omega))
  go_enter Try.func4, Try.ntmps4
  go_wp2_with (go_at_call 20; refine K0.out.mono ?_; rintro e w1 ⟨rfl, hb1, hk1⟩)
  go_loopw [10] (fun i wr => ∃ k : Nat, (1 : Int) ≤ k ∧ (k : Int) ≤ 2 + a2 % 4 ∧ i = .int .i64 k ∧ BdAt wr w.heap.size (Bd.of (1 + a0 % 8) (k - 1) (k - 1) (fun _ => false)) ∧ Keep none_ w wr) (fun i _ => 7 - (intOf i).toNat)
  case atStart => exact ⟨1, by omega, by omega, rfl, hb1, hk1⟩
  case round =>
    obtain ⟨k, hk1, hk2, rfl, hbk, hkeep⟩ := hrel
    by_cases hlt : (k : Int) ≤ 1 + a2 % 4
    · have HC : Hid (0 ≤ (Bd.of (1 + a0 % 8) (k - 1) (k - 1) (fun _ => false)).count ∧ (Bd.of (1 + a0 % 8) (k - 1) (k - 1) (fun _ => false)).count ≤ 1000000000) := by simp only [Hid, Bd.of]; omega
      have HE := Lib.hid (Bd.of_askE (1 + a0 % 8) (k - 1) (k - 1) (fun _ => false) (fun _ _ => rfl))
      obtain ⟨n, hn⟩ : ∃ n : Nat, (n : Int) = 1 + a0 % 8 := ⟨(1 + a0 % 8).toNat, by omega⟩
      have HB : Hid ((Bd.of (1 + a0 % 8) (k - 1) (k - 1) (fun _ => false)).askB k = Bd.of n k k (fun q => decide (q < n))) := by
        have := Bd.of_ask (1 + a0 % 8) (k - 1) (k - 1) (fun _ => false) k (fun _ _ => rfl)
        rw [← hn] at this
        simpa [Hid, ← hn] using this
      have HK : Hid ((Bd.of n k k (fun q => decide (q < n))).count = k) := rfl
      have HN := Lib.hid hn
      have hn1 : 1 ≤ n := by omega
      have hn8 : n ≤ 8 := by omega
      have hn2 : (n : Int) ≤ 1 + a0 % 8 := by omega
      have hn3 : 1 + a0 % 8 ≤ (n : Int) := by omega
      have HF := Lib.hid (openN_full n)
      clear hn
      go_wp2_with first | (go_at_call 21; refine (ask_is hbk HC.out HE.out HB.out).mono ?_; rintro e w2 ⟨rfl, hb2, hk2⟩) | (go_at_call 22; refine (count_is hb2 HK.out).mono ?_; rintro e w3 ⟨rfl, rfl⟩)
      have hkw := hkeep.trans' hk2 (fun i hi h => by unfold only at h; omega)
      clear hk2 hkeep hbk
      obtain ⟨wo, rfl⟩ : ∃ wo : World, wo = wr := ⟨_, rfl⟩
      go_loopw [11, 12] (fun l i wr => ∃ (j : Nat) (S : Nat → Bool), j ≤ n1 + n ∧ i = .int .i64 j ∧ (∀ q, n ≤ q → S q = false) ∧ (∀ q, q < n → S q = true → j ≤ n1 + q) ∧ l = .int .i64 (openN n S) ∧ BdAt wr w.heap.size (Bd.of n k k S) ∧ Keep none_ w wr) (fun _ i _ => n1 + n - (intOf i).toNat)
      case atStart => exact ⟨0, fun q => decide (q < n), by omega, rfl, fun q h => by simp; omega, fun q h _ => by omega, by rw [HF.out, HN.out], hb2, hkw⟩
      case round =>
        obtain ⟨j, S, hj, rfl, hS, hT, rfl, hbj, hkj⟩ := hrel
        by_cases hlt2 : j < n1 + n
        · by_cases hjn : j < n1
          · obtain ⟨b, off, rfl, hc⟩ := (hw1.below hkj).at_ (by omega)
            have hcj := hc j hjn
            have hbd := bounds_u8 (hw1.bound j hjn)
            generalize z1.getD j 0 = x at hcj hbd
            clear hc
            have hm0 : 0 ≤ x % (1 + a0 % 8) := by exact Int.emod_nonneg _ (by omega)
            have hm1 : x % (1 + a0 % 8) < n := by have := Int.emod_lt_of_pos x (b := 1 + a0 % 8) (by omega); omega
            have HAB := Lib.hid (Bd.of_ans n k k S (x % (1 + a0 % 8)) hm0 hm1 (by omega)).2
            have hS' : ∀ q, n ≤ q → (S q && !decide (q = (x % (1 + a0 % 8)).toNat)) = false := fun q h => by rw [hS q h]; rfl
            have hT' : ∀ q, q < n → (S q && !decide (q = (x % (1 + a0 % 8)).toNat)) = true → j + 1 ≤ n1 + q := fun q h hs => by
              simp at hs
              have := hT q h hs.1
              omega
            have HS := Lib.hid hS'; have HT := Lib.hid hT'; clear hS' hT'
            have hon8 := openN_le n S
            rcases open_cases n k k S (x % (1 + a0 % 8)) hm0 hm1 hn8 hS with ⟨hp, hpk, hal, hae, hon, hol⟩ | ⟨hp, hpk, hal, hae, hon, hol⟩ | ⟨hp, hpk, hal, hae, hon, hol⟩
            all_goals
              have HP := Lib.hid hp; have HPK := Lib.hid hpk; have HAL := Lib.hid hal; have HAE := Lib.hid hae; have HOL := Lib.hid hol
              first | (have HO := Lib.hid hon; rw [HO.out] at HOL; rw [HO.out]; clear hon) | have hO1 : (1 : Int) ≤ openN n S := by omega
              clear hp hpk hal hae hol hS hT
              generalize openN n S = on at *
              go_wp2_with first | (go_at_call 23; refine (pending_is hbj HP.out HPK.out).mono ?_; rintro e w3 ⟨rfl, rfl⟩) | (go_at_call 24; refine (all_is hbj HAL.out).mono ?_; rintro e w3 ⟨rfl, rfl⟩) | (go_at_call 25; refine (answer_is hbj HAE.out HAB.out).mono ?_; rintro e w4 ⟨rfl, hb4, hk4⟩)
              go_roundw
              case rel => exact ⟨j + 1, _, by omega, by go_num, HS.out, HT.out, by have h9 := HOL.out; first | (rw [h9]; done) | (rw [h9]; apply congrArg; omega), hb4, hkj.trans' hk4 (fun i hi h => by unfold only at h; omega)⟩
              case measure => simp [intOf]; omega
          · clear hw1
            have hm0 : 0 ≤ (j : Int) - n1 := by omega
            have hm1 : (j : Int) - n1 < n := by omega
            have HAB := Lib.hid (Bd.of_ans n k k S ((j : Int) - n1) hm0 hm1 (by omega)).2
            have hS' : ∀ q, n ≤ q → (S q && !decide (q = ((j : Int) - n1).toNat)) = false := fun q h => by rw [hS q h]; rfl
            have hT' : ∀ q, q < n → (S q && !decide (q = ((j : Int) - n1).toNat)) = true → j + 1 ≤ n1 + q := fun q h hs => by
              simp at hs
              have := hT q h hs.1
              omega
            have HS := Lib.hid hS'; have HT := Lib.hid hT'; clear hS' hT'
            have hon8 := openN_le n S
            rcases open_cases n k k S ((j : Int) - n1) hm0 hm1 hn8 hS with ⟨hp, hpk, hal, hae, hon, hol⟩ | ⟨hp, hpk, hal, hae, hon, hol⟩ | ⟨hp, hpk, hal, hae, hon, hol⟩
            all_goals
              have HP := Lib.hid hp; have HPK := Lib.hid hpk; have HAL := Lib.hid hal; have HAE := Lib.hid hae; have HOL := Lib.hid hol
              first | (have HO := Lib.hid hon; rw [HO.out] at HOL; rw [HO.out]; clear hon) | have hO1 : (1 : Int) ≤ openN n S := by omega
              clear hp hpk hal hae hol hS hT
              generalize openN n S = on at *
              go_wp2_with first | (go_at_call 23; refine (pending_is hbj HP.out HPK.out).mono ?_; rintro e w3 ⟨rfl, rfl⟩) | (go_at_call 24; refine (all_is hbj HAL.out).mono ?_; rintro e w3 ⟨rfl, rfl⟩) | (go_at_call 25; refine (answer_is hbj HAE.out HAB.out).mono ?_; rintro e w4 ⟨rfl, hb4, hk4⟩)
              go_roundw
              case rel => exact ⟨j + 1, _, by omega, by go_num, HS.out, HT.out, by have h9 := HOL.out; first | (rw [h9]; done) | (rw [h9]; apply congrArg; omega), hb4, hkj.trans' hk4 (fun i hi h => by unfold only at h; omega)⟩
              case measure => simp [intOf]; omega
        · have hz : openN n S = 0 := (openN_zero n S).2 fun q hq => by
            cases e : S q with
            | false => rfl
            | true => have := hT q hq e; omega
          have hall : (Bd.of n k k S).all = true := (Bd.of_all _ _ _ _).2 fun q _ => by
            cases e : S q with
            | false => rfl
            | true =>
              rcases Nat.lt_or_ge q n with h | h
              · have := hT q h e; omega
              · rw [hS q h] at e; cases e
          have hsame : Bd.of n k k S = Bd.of (1 + a0 % 8) ((k + 1 : Nat) - 1) ((k + 1 : Nat) - 1) (fun _ => false) := by
            have e1 : ((k + 1 : Nat) : Int) - 1 = k := by omega
            rw [e1, HN.out]
            simp only [Bd.of]
            congr 1
            apply List.map_congr_left
            intro q _
            exact (Bd.of_all _ _ _ _).1 hall q (by simp_all)
          have HAL := Lib.hid hall; have HSM := Lib.hid hsame
          rw [hz]
          clear hall hsame hz hS hT hw1
          go_wp2_with (go_at_call 24; refine (all_is hbj HAL.out).mono ?_; rintro e w3 ⟨rfl, rfl⟩)
          go_roundw
          case rel => exact ⟨k + 1, by omega, by omega, by go_num, by rw [← HSM.out]; exact hbj, hkj⟩
          case measure => simp [intOf]; omega
    · clear hw1
      go_wp2_with (go_at_call 19; refine (awake12_any _).mono ?_; rintro e w2 ⟨rfl, hk⟩)
      go_ret
      exact ⟨rfl, hkeep.trans hk⟩

end Go.Proofs.Ytcdmlinaebnbcaa
