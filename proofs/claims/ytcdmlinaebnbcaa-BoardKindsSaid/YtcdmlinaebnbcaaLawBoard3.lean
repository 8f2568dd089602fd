/- The walk of BoardKinds. -/
import Derived.Test.YtcdmlinaebnbcaaRows
import Derived.Test.YtcdmlinaebnbcaaMem
import Derived.Test.YtcdmlinaebnbcaaArgs
import Derived.Test.YtcdmlinaebnbcaaBoardPlain
import Derived.Test.YtcdmlinaebnbcaaLawBoard
namespace Go.Proofs.Ytcdmlinaebnbcaa
open Go.RowKit

def kindS (n m k : Nat) : Nat → Bool := fun q => decide (q < n) && !((List.range k).any fun j => (m + j) % n == q)
theorem kindS_zero (n m : Nat) : kindS n m 0 = fun q => decide (q < n) := by
  funext q; simp [kindS]
theorem kindS_big (n m k q : Nat) (h : n ≤ q) : kindS n m k q = false := by
  simp [kindS, show ¬ q < n by omega]
theorem mod_ne (n m j k : Nat) (hjk : j < k) (hk : k < n) : (m + j) % n ≠ (m + k) % n := by
  intro h
  have h1 := Nat.div_add_mod (m + j) n
  have h2 := Nat.div_add_mod (m + k) n
  rw [h] at h1
  have h3 : n * ((m + j) / n) + (k - j) = n * ((m + k) / n) := by omega
  have h4 : n ∣ (k - j) := by
    have : n ∣ n * ((m + k) / n) := Nat.dvd_mul_right _ _
    rw [← h3] at this
    exact (Nat.dvd_add_right (Nat.dvd_mul_right _ _)).1 this
  have := Nat.le_of_dvd (by omega) h4
  omega
theorem kindS_at (n m k : Nat) (h : k < n) : kindS n m k ((m + k) % n) = true := by
  have : (m + k) % n < n := Nat.mod_lt _ (by omega)
  simp [kindS, this]
  exact fun j hj => mod_ne n m j k hj h
theorem kindS_succ (n m k : Nat) : (fun q => kindS n m k q && !decide (q = (m + k) % n)) = kindS n m (k + 1) := by
  funext q
  simp only [kindS, List.range_succ, List.any_append, List.any_cons, List.any_nil, Bool.or_false, Bool.not_or, Bool.and_assoc]
  congr 2
  rw [Bool.eq_iff_iff]
  simp
  exact ⟨fun h e => h e.symm, fun h e => h e.symm⟩
theorem kindS_end (n m : Nat) (hm : m < n) : kindS n m n = fun _ => false := by
  funext q
  simp [kindS]
  intro hq
  refine ⟨(q + n - m) % n, Nat.mod_lt _ (by omega), ?_⟩
  rcases Nat.lt_or_ge q m with h | h
  · have e : (q + n - m) % n = q + n - m := Nat.mod_eq_of_lt (by omega)
    rw [e, show m + (q + n - m) = q + n by omega, Nat.add_mod_right, Nat.mod_eq_of_lt hq]
  · have e : (q + n - m) % n = q - m := by
      rw [show q + n - m = (q - m) + n by omega, Nat.add_mod_right, Nat.mod_eq_of_lt (by omega)]
    rw [e, show m + (q - m) = q by omega, Nat.mod_eq_of_lt hq]

set_option maxRecDepth 100000 in
set_option maxHeartbeats 1000000 in
theorem boardKinds_any (a0 : Int) (a1 : Option Addr) (n1 c1 : Nat) (z1 : List Int) (a2 : Int) (w : World) (hw0 : (Lit.int .u8 a0).wf = true) (hw1 : Ints .i64 w a1 n1 z1) (hm : n1 ≤ maxLen) (hw2 : (Lit.int .u8 a2).wf = true) :
    Calls Try.prog 5 #[.int .u8 a0, .slice a1 n1 c1, .int .u8 a2] w fun e w' => e = .returned (.bool true) ∧ Keep none_ w w' := by
  have b0 := bounds_u8 hw0
  have b2 := bounds_u8 hw2
  unfold maxLen at hm
  clear hw0 hw2
  by_cases hbig : 30 < n1
  · clear hw1
    go_enter Try.func5, Try.ntmps5
    go_wp2_with (go_at_call 19; refine (awake12_any _).mono ?_; rintro e w1 ⟨rfl, hk⟩)
    go_ret
    exact ⟨rfl, hk⟩
  have K0 := Lib.hid (new_yes (1 + a0 % 8) w (by omega) (by omega))
  obtain ⟨n, hn⟩ : ∃ n : Nat, (n : Int) = 1 + a0 % 8 := ⟨(1 + a0 % 8).toNat, by omega⟩
  have hx0 : 0 ≤ a2 % (1 + a0 % 8) := Int.emod_nonneg _ (by omega)
  have hx1 : a2 % (1 + a0 % 8) < 1 + a0 % 8 := Int.emod_lt_of_pos _ (by omega)
  obtain ⟨m, hmm⟩ : ∃ m : Nat, (m : Int) = a2 % (1 + a0 % 8) := ⟨(a2 % (1 + a0 % 8)).toNat, by omega⟩
  have hidx : ∀ k : Nat, (a2 + k) % (1 + a0 % 8) = (((m + k) % n : Nat) : Int) := fun k => by
    rw [← Int.emod_add_emod, ← hmm, ← hn]; simp
  have hmn : m < n := by omega
  have hn1 : 1 ≤ n := by omega
  have hn8 : n ≤ 8 := by omega
  have hn2 : (n : Int) ≤ 1 + a0 % 8 := by omega
  have hn3 : 1 + a0 % 8 ≤ (n : Int) := by omega
  have HI := Lib.hid hidx; have HN := Lib.hid hn; clear hidx hn hmm
  go_enter Try.func5, Try.ntmps5
  go_wp2_with (go_at_call 20; refine K0.out.mono ?_; rintro e w1 ⟨rfl, hb1, hk1⟩)
  have hb1' : BdAt w1 w.heap.size (Bd.of n 0 0 (fun _ => false)) := by rw [HN.out]; exact hb1
  clear hb1
  go_loopw [11] (fun i wr => ∃ (k : Nat) (kd : Int), k ≤ n1 ∧ i = .int .i64 k ∧ BdAt wr w.heap.size (Bd.of n kd k (fun _ => false)) ∧ Keep none_ w wr) (fun i _ => n1 - (intOf i).toNat)
  case atStart => exact ⟨0, 0, by omega, rfl, hb1', hk1⟩
  case round =>
    obtain ⟨k, kd, hk, rfl, hbk, hkeep⟩ := hrel
    by_cases hlt : k < n1
    · obtain ⟨b, off, rfl, hc⟩ := hw1.at_ (by omega)
      have hcj := hc k hlt
      have hbd := bounds_i64 (hw1.bound k hlt)
      generalize hx : z1.getD k 0 = x at hcj hbd
      have HX := Lib.hid hx
      have HCW := Lib.hid hcj
      clear hc hx hcj
      have hcr := hkeep.still HCW.out
      have HC : Hid (0 ≤ (Bd.of n kd k (fun _ => false)).count ∧ (Bd.of n kd k (fun _ => false)).count ≤ 1000000000) := by simp only [Hid, Bd.of]; omega
      have HE := Lib.hid (Bd.of_askE n kd k (fun _ => false) (fun _ _ => rfl))
      have HB : Hid ((Bd.of n kd k (fun _ => false)).askB x = Bd.of n x (k + 1 : Nat) (kindS n m 0)) := by
        have := Bd.of_ask n kd k (fun _ => false) x (fun _ _ => rfl)
        rw [kindS_zero]
        simpa [Hid] using this
      have hC2 : 0 ≤ (Bd.of n x (k + 1 : Nat) (kindS n m 0)).count ∧ (Bd.of n x (k + 1 : Nat) (kindS n m 0)).count ≤ 1000000000 := by simp only [Bd.of]; omega
      have HC2 := Lib.hid hC2
      have hno := fun kind => Bd.of_askNo n x (k + 1 : Nat) (kindS n m 0) kind 0 (by omega) (by rw [kindS_zero]; simp; omega)
      have HNO := Lib.hid hno
      have HK : Hid ((Bd.of n x (k + 1 : Nat) (kindS n m 0)).count = (k : Int) + 1) := by simp [Hid, Bd.of]
      clear hno hC2
      go_wp2_with fail
      refine (ask_is hbk HC.out HE.out HB.out).mono ?_
      rintro e w2 ⟨rfl, hb2, hk2⟩
      have hkw2 := hkeep.onNew hk2 (Nat.le_refl _)
      have hcr2 := hkw2.still HCW.out
      clear hk2 hkeep hbk hcr
      go_wp2_with fail
      refine (ask_is hb2 HC2.out (HNO.out 0).2 (HNO.out _).1).mono ?_
      rintro e w3 ⟨rfl, hb3, hk3⟩
      have hkw3 := hkw2.onNew hk3 (Nat.le_refl _)
      clear hk3 hkw2 hb2 hcr2
      go_wp2_with (go_at_call 22; refine (count_is hb3 HK.out).mono ?_; rintro e w4 ⟨rfl, rfl⟩)
      obtain ⟨wo, rfl⟩ : ∃ wo : World, wo = wr := ⟨_, rfl⟩
      go_loopw [12] (fun i wr => ∃ j : Nat, j ≤ n ∧ i = .int .i64 j ∧ BdAt wr w.heap.size (Bd.of n x (k + 1 : Nat) (kindS n m j)) ∧ Keep none_ w wr) (fun i _ => n - (intOf i).toNat)
      case atStart => exact ⟨0, by omega, rfl, hb3, hkw3⟩
      case round =>
        clear hb3 hkw3
        obtain ⟨j, hj, rfl, hbj, hkj⟩ := hrel
        have hcr := hkj.still HCW.out
        by_cases hjn : j < n
        · have hi0 : 0 ≤ (a2 + j) % (1 + a0 % 8) := Int.emod_nonneg _ (by omega)
          have hi1 : (a2 + j) % (1 + a0 % 8) < n := by have := Int.emod_lt_of_pos (a2 + j) (b := 1 + a0 % 8) (by omega); omega
          have hit : ((a2 + j) % (1 + a0 % 8)).toNat = (m + j) % n := by rw [HI.out, Int.toNat_natCast]
          have hpe := Bd.of_pend n x (k + 1 : Nat) (kindS n m j) _ hi0 hi1 (by omega)
          have hpk := Bd.of_pendK n x (k + 1 : Nat) (kindS n m j) _ hi0 hi1 (by omega)
          have han := Bd.of_ans n x (k + 1 : Nat) (kindS n m j) _ hi0 hi1 (by omega)
          have hpe2 := Bd.of_pend n x (k + 1 : Nat) (kindS n m (j + 1)) _ hi0 hi1 (by omega)
          have hpk2 := Bd.of_pendK n x (k + 1 : Nat) (kindS n m (j + 1)) _ hi0 hi1 (by omega)
          rw [hit, kindS_at n m j hjn] at hpe hpk han
          simp only [if_true] at hpk han
          rw [kindS_succ] at han
          have hz : kindS n m (j + 1) ((m + j) % n) = false := by rw [← kindS_succ]; simp
          rw [hit, hz] at hpe2 hpk2
          rw [if_neg (by simp)] at hpk2
          have HP := Lib.hid hpe; have HPK := Lib.hid hpk; have HAN := Lib.hid han; have HP2 := Lib.hid hpe2; have HPK2 := Lib.hid hpk2
          clear hpe hpk han hpe2 hpk2 hz hit
          go_wp2_with fail
          refine (pending_is hbj HP.out HPK.out).mono ?_
          rintro e w5 ⟨rfl, rfl⟩
          go_wp2_with fail
          refine (answer_is hbj HAN.out.1 HAN.out.2).mono ?_
          rintro e w6 ⟨rfl, hb6, hk6⟩
          have hkw6 := hkj.onNew hk6 (Nat.le_refl _)
          clear hk6 hkj hbj hcr
          go_wp2_with fail
          refine (pending_is hb6 HP2.out HPK2.out).mono ?_
          rintro e w7 ⟨rfl, rfl⟩
          go_wp2_with fail
          go_roundw
          case rel => exact ⟨j + 1, by omega, by go_num, hb6, hkw6⟩
          case measure => simp [intOf]; omega
        · obtain rfl : j = n := by omega
          have hbe : BdAt wr w.heap.size (Bd.of j x (k + 1 : Nat) (fun _ => false)) := by rw [← kindS_end j m hmn]; exact hbj
          clear hbj
          go_wp2_with fail
          go_roundw
          case rel => exact ⟨k + 1, x, by omega, by go_num, hbe, hkj⟩
          case measure => simp [intOf]; omega
    · obtain rfl : k = n1 := by omega
      have HAL := Lib.hid ((Bd.of_all n kd k (fun _ => false)).2 fun _ _ => rfl)
      clear hw1
      go_wp2_with fail
      refine (all_is hbk HAL.out).mono ?_
      rintro e w2 ⟨rfl, rfl⟩
      go_wp2_with (go_at_call 19; refine (awake12_any _).mono ?_; rintro e w2 ⟨rfl, hk⟩)
      go_ret
      exact ⟨rfl, hkeep.trans hk⟩

end Go.Proofs.Ytcdmlinaebnbcaa
