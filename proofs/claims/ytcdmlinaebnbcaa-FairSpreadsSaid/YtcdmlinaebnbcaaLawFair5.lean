/- The walk of FairSpreads. -/
import Derived.Test.YtcdmlinaebnbcaaSpreadPlain2
import Derived.Deep.QuietTactic
import Derived.BigQuiet
namespace Go.Proofs.Ytcdmlinaebnbcaa
open Go.RowKit

set_option maxHeartbeats 1000000 in
theorem fairSpreads_bad (a0 : Option Addr) (n0 c0 : Nat) (who block : Int) (w : World) (hn : ¬ 300 < n0) (h : badSpread who block) :
    Calls Try.prog 15 #[.slice a0 n0 c0, .int .i64 who, .int .i64 block] w fun e w' => e = .returned (.bool true) ∧ Keep none_ w w' := by
  have HS := Lib.hid (spread_none a0 n0 c0 who block w h)
  rcases (show who < 1 ∨ 1 ≤ who ∧ 16 < who ∨ (1 ≤ who ∧ who ≤ 16) ∧ block < who ∨ (1 ≤ who ∧ who ≤ 16) ∧ who ≤ block ∧ 1000 < block by unfold badSpread at h; omega) with h1 | ⟨h1, h2⟩ | ⟨⟨h1, h2⟩, h3⟩ | ⟨⟨h1, h2⟩, h3, h4⟩
  all_goals
    clear h
    go_enter Try.func15, Try.ntmps15
    go_wp2_with (first
      | (go_at_call 41; refine HS.out.mono ?_; rintro e w1 ⟨rfl, hk⟩)
      | (go_at_call 16; refine (awake24_any _).mono ?_; rintro e w2 ⟨rfl, hk2⟩))
    go_ret
    exact ⟨rfl, hk.trans hk2⟩

set_option maxRecDepth 100000 in
set_option maxHeartbeats 4000000 in
theorem fairSpreads_good (a0 : Option Addr) (n0 c0 : Nat) (z0 : List Int) (u B : Nat) (w : World) (hz : IntCells .u16 w a0 n0 z0) (hn : ¬ 300 < n0) (hq0 : n0 ≤ c0) (hbnd : ∀ j, j < n0 → 0 ≤ z0.getD j 0 ∧ z0.getD j 0 ≤ 65535)
    (h1 : 1 ≤ u) (h2 : u ≤ 16) (h3 : u ≤ B) (h4 : B ≤ 1000) :
    Calls Try.prog 15 #[.slice a0 n0 c0, .int .i64 u, .int .i64 B] w fun e w' => e = .returned (.bool true) ∧ Keep none_ w w' := by
  have hsp := spread_core a0 n0 c0 z0 u B w hz (by omega) hq0 hbnd h1 h2 h3 h4
  obtain ⟨q, hq⟩ : ∃ q, q = n0 / B := ⟨_, rfl⟩
  have hdiv : (n0 : Int) / (B : Int) = q := by rw [hq]; rfl
  have hq300 : (q : Int) ≤ 300 := by have := Nat.div_le_self n0 B; omega
  have hqB : q * B ≤ n0 := by rw [hq]; exact Nat.div_mul_le_self _ _
  obtain ⟨L, hL⟩ : ∃ L, L = spreadN z0 u B q := ⟨_, rfl⟩
  obtain ⟨M, hM⟩ : ∃ M, M = q * B := ⟨_, rfl⟩
  have hl := hz.len
  have hget : ∀ b k, b < q → k < B → L.getD (b * B + k) 0 = (blockL u B (z0.drop (b * B))).getD k 0 := fun b k hb hk => by
    rw [hL]; exact spread_get z0 u B q h3 (by omega) b k hb hk
  have hfair : fairL L u (2 * (B : Int) - 1) = true := by rw [hL]; exact spread_fair z0 u B q h1 h3 (by omega)
  rw [← hq, ← hL, ← hM] at hsp
  have hprod : (q : Int) * (B : Int) = (M : Int) := by rw [hM]; exact (Int.natCast_mul q B).symm
  have hMn : M ≤ n0 := by omega
  have HSP := Lib.hid hsp
  have HGET := Lib.hid hget
  have HFAIR := Lib.hid hfair
  have HM := Lib.hid hM
  have HB := Lib.hid hbnd
  have HZ := Lib.hid hz
  have HL := Lib.hid hl
  have hd1 : decide (B < u) = false := decide_eq_false (by omega)
  have hd2 : decide ((B : Int) < u) = false := decide_eq_false (by omega)
  have hd3 : decide ((u : Int) < 1) = false := decide_eq_false (by omega)
  have hd4 : decide ((16 : Int) < u) = false := decide_eq_false (by omega)
  have hd5 : decide ((1000 : Int) < B) = false := decide_eq_false (by omega)
  have hd6 : decide (u < 1) = false := decide_eq_false (by omega)
  have hu0 : (0 : Int) < u := by omega
  have hB0 : (0 : Int) < B := by omega
  clear hsp hget hfair hM hbnd hz hl hq hqB hL
  go_enter Try.func15, Try.ntmps15
  go_wp2_with fail
  refine HSP.out.mono ?_
  rintro e w1 ⟨⟨v, rfl, hown⟩, hk⟩
  obtain ⟨ag, cg, rfl, hic, hcg⟩ := IntCells.ofOwn' hown
  have HIC := Lib.hid hic
  have HK := Lib.hid hk
  clear hown hic hk
  go_wp2_with fail
  go_loopg [9] q (fun g i wr => ∃ b : Nat, g + b = q ∧ i = .int .i64 b ∧ Hid (Keep none_ w1 wr))
  case atStart => exact ⟨0, by omega, rfl, Keep.refl _ _⟩
  case round =>
    obtain ⟨b, hg, rfl, HKB⟩ := hrel
    by_cases hlt : b < q
    · obtain ⟨g0, rfl⟩ : ∃ g0 : Nat, g0 = gk := ⟨_, rfl⟩
      obtain ⟨w0, rfl⟩ : ∃ w0 : World, w0 = wr := ⟨_, rfl⟩
      obtain ⟨s, hs⟩ : ∃ s, s = b * B := ⟨_, rfl⟩
      have hsB : s + B ≤ M := by
        have h := Nat.mul_le_mul_right B (show b + 1 ≤ q by omega)
        have := HM.out
        rw [Nat.add_mul, Nat.one_mul] at h
        omega
      have hp1 : (b : Int) * (B : Int) = (s : Int) := by rw [hs]; exact (Int.natCast_mul b B).symm
      have hp2 : ((b : Int) + 1) * (B : Int) = (s : Int) + B := by rw [Int.add_mul, Int.one_mul, hp1]
      have hsub : ((s : Int) + B).toNat - s = B := by omega
      have hcut : ∀ w, (Instr.slice 67 (.slice a0 n0 c0) (some (.int .i64 (s : Int))) (some (.int .i64 ((s : Int) + B))) none).run Try.prog w = .ok (.slice (cutA a0 c0 s) B (c0 - s)) w := fun w => by
        have := run_cut2 (P := Try.prog) Try.underlying67 Try.infoU16 a0 n0 c0 s ((s + B : Nat) : Int) (by omega) (by omega) (by omega) w
        simpa [hsub] using this
      have hic2 := HZ.out.cut2 s B (by omega) hq0
      obtain ⟨A2, hA2⟩ : ∃ A2, A2 = cutA a0 c0 s := ⟨_, rfl⟩
      rw [← hA2] at hic2
      simp only [← hA2] at hcut
      have HX := Lib.hid hic2
      have HSS := Lib.hid hs
      clear hA2 hic2 hs hsub
      go_wp2_with fail
      obtain ⟨rs, hrs⟩ : ∃ rs, rs = z0.drop (b * B) := ⟨_, rfl⟩
      have hgb := fun k hk => HGET.out b k hlt hk
      have hsb : b * B = s := HSS.out.symm
      rw [hsb] at hrs hgb
      rw [← hrs] at hgb
      rw [← hrs] at HX
      have hrsl : B ≤ rs.length := by
        rw [hrs, List.length_drop]
        have := HL.out
        omega
      have hXg : ∀ k, k < B → (rs.take B).getD k 0 = rs.getD k 0 := fun k hk => by
        simp [List.getD_eq_getElem?_getD, hk]
      have hbd : ∀ k, k < B → 0 ≤ rs.getD k 0 ∧ rs.getD k 0 ≤ 65535 := fun k hk => by
        have e : rs.getD k 0 = z0.getD (s + k) 0 := by rw [hrs]; simp [List.getD_eq_getElem?_getD, List.getElem?_drop]
        rw [e]; exact HB.out _ (by omega)
      have HRS := Lib.hid (And.intro hgb (And.intro hrsl (And.intro hXg hbd)))
      clear hrs hgb hsb hrsl hXg hbd
      go_loopg [11] u (fun g i wr => ∃ k : Nat, g + k = u ∧ i = .int .i64 k ∧ Hid (Keep none_ w1 wr))
      case atStart => exact ⟨0, by omega, rfl, HKB.out⟩
      case round =>
        clear HKB
        obtain ⟨k, hgk, rfl, HKC⟩ := hrel
        by_cases hku : k < u
        · obtain ⟨g1, rfl⟩ : ∃ g1 : Nat, g1 = gk := ⟨_, rfl⟩
          obtain ⟨w2, rfl⟩ : ∃ w2 : World, w2 = wr := ⟨_, rfl⟩
          go_wp2_with fail
          go_loopg [13, 12] u (fun g i ah wr => ∃ p : Nat, g + p = u ∧ i = .int .i64 p ∧ ah = .int .i64 (aheadC (fun x => rs.getD x.toNat 0) k p) ∧ aheadC (fun x => rs.getD x.toNat 0) k p ≤ p ∧ Hid (Keep none_ w1 wr))
          case atStart => exact ⟨0, by omega, rfl, rfl, Nat.zero_le _, HKC.out⟩
          case round =>
            clear HKC
            obtain ⟨p, hgp, rfl, rfl, hap, HKD⟩ := hrel
            by_cases hpu : p < u
            · obtain ⟨b2, o2, rfl, hc2⟩ := (HX.out.below (HK.out.trans HKD.out)).at_ (by omega)
              have hcp := hc2 p (by omega)
              have hck := hc2 k (by omega)
              rw [HRS.out.2.2.1 p (by omega)] at hcp
              rw [HRS.out.2.2.1 k (by omega)] at hck
              have hstep : aheadC (fun x => rs.getD x.toNat 0) k (p + 1) = aheadC (fun x => rs.getD x.toNat 0) k p + (if Ahead (fun x => rs.getD x.toNat 0) p k then 1 else 0) := rfl
              have hah : Ahead (fun x => rs.getD x.toNat 0) p k ↔ rs.getD p 0 < rs.getD k 0 ∨ rs.getD p 0 = rs.getD k 0 ∧ (p : Int) < k := by simp [Ahead]
              simp only [hah] at hstep
              generalize aheadC (fun x => rs.getD x.toNat 0) k p = ac at *
              generalize rs.getD p 0 = x at *
              generalize rs.getD k 0 = y at *
              have HST := Lib.hid hstep
              have HAP := Lib.hid hap
              have hac : (ac : Int) ≤ 16 := by omega
              clear hc2 hah hstep
              rcases (show x < y ∨ (x = y ∧ p < k) ∨ (x = y ∧ ¬ p < k) ∨ (¬ x < y ∧ ¬ x = y) by omega) with hx | ⟨rfl, hx⟩ | ⟨rfl, hx⟩ | ⟨hx, hx2⟩
              · have t1 : decide (x < y) = true := decide_eq_true hx
                have HC := Lib.hid hx
                go_wp2_with fail
                go_quiet (fail)
                go_wp2_with fail
                go_roundg (gk - 1)
                case measure => omega
                case rel => exact ⟨p + 1, by omega, by go_num, vi (by rw [HST.out, if_pos (.inl HC.out)]; omega), by rw [HST.out, if_pos (.inl HC.out)]; omega, HKD.out.drewN _⟩
              · have t1 : decide (x < x) = false := decide_eq_false (by omega)
                have t2 : (x == x) = true := beq_self_eq_true x
                have t3 : decide ((p : Int) < k) = true := decide_eq_true (by omega)
                have HC := Lib.hid hx
                go_wp2_with fail
                go_quiet (fail)
                go_wp2_with fail
                go_roundg (gk - 1)
                case measure => omega
                case rel => exact ⟨p + 1, by omega, by go_num, vi (by rw [HST.out, if_pos (.inr (by have := HC.out; simpa using this))]; omega), by rw [HST.out, if_pos (.inr (by have := HC.out; simpa using this))]; omega, HKD.out.drewN _⟩
              · have t1 : decide (x < x) = false := decide_eq_false (by omega)
                have t2 : (x == x) = true := beq_self_eq_true x
                have t3 : decide ((p : Int) < k) = false := decide_eq_false (by omega)
                have HC := Lib.hid hx
                clear hx
                go_wp2_with fail
                go_quiet (fail)
                go_wp2_with fail
                go_roundg (gk - 1)
                case measure => omega
                case rel => exact ⟨p + 1, by omega, by go_num, vi (by rw [HST.out, if_neg (by have := HC.out; omega)]; omega), by rw [HST.out, if_neg (by have := HC.out; omega)]; omega, HKD.out.drewN _⟩
              · have t1 : decide (x < y) = false := decide_eq_false hx
                have t2 : (x == y) = false := beq_eq_false_iff_ne.2 hx2
                have HC := Lib.hid (And.intro hx hx2)
                clear hx hx2
                go_wp2_with fail
                go_quiet (fail)
                go_wp2_with fail
                go_roundg (gk - 1)
                case measure => omega
                case rel => exact ⟨p + 1, by omega, by go_num, vi (by rw [HST.out, if_neg (by have := HC.out; omega)]; omega), by rw [HST.out, if_neg (by have := HC.out; omega)]; omega, HKD.out.drewN _⟩
            · obtain rfl : p = u := by omega
              obtain ⟨o1, o2⟩ := order_pos p rs k hku
              have hg4 := HRS.out.1 (aheadC (fun x => rs.getD x.toNat 0) k p) (by omega)
              rw [block_low _ _ _ _ o1, o2] at hg4
              generalize aheadC (fun x => rs.getD x.toNat 0) k p = ac at *
              obtain ⟨b3, o3, rfl, hc3⟩ := (HIC.out.below HKD.out).at_ (by omega)
              have hcg3 := hc3 (s + ac) (by omega)
              rw [hg4] at hcg3
              have hsac : (s : Int) + ac < M := by omega
              clear hc3 hg4 o2
              go_wp2_with fail
              go_roundg (g1 - 1)
              case measure => omega
              case rel => exact ⟨k + 1, by omega, by go_num, HKD.out⟩
        · obtain rfl : k = u := by omega
          go_wp2_with fail
          go_loopg [14] (B - k) (fun g i wr => ∃ p : Nat, g + p = B ∧ k ≤ p ∧ i = .int .i64 p ∧ Hid (Keep none_ w1 wr))
          case atStart => exact ⟨k, by omega, by omega, rfl, HKC.out⟩
          case round =>
            clear HKC
            obtain ⟨p, hgp, hkp, rfl, HKD⟩ := hrel
            by_cases hpB : p < B
            · obtain ⟨b2, o2, rfl, hc2⟩ := (HX.out.below (HK.out.trans HKD.out)).at_ (by omega)
              obtain ⟨b3, o3, rfl, hc3⟩ := (HIC.out.below HKD.out).at_ (by omega)
              have hcp := hc2 p (by omega)
              have hcg3 := hc3 (s + p) (by omega)
              have hg4 := HRS.out.1 p hpB
              have hbx := HRS.out.2.2.2 p hpB
              rw [HRS.out.2.2.1 p (by omega)] at hcp
              rw [block_high _ _ _ _ hkp hpB HRS.out.2.1] at hg4
              rw [hg4] at hcg3
              generalize rs.getD p 0 = x at *
              have hsp' : (s : Int) + p < M := by omega
              clear hc2 hc3 hg4
              go_wp2_with fail
              go_quiet (fail)
              go_wp2_with fail
              go_roundg (gk - 1)
              case measure => omega
              case rel => exact ⟨p + 1, by omega, by omega, by go_num, HKD.out.drewN _⟩
            · obtain rfl : p = B := by omega
              go_wp2_with fail
              go_roundg (g0 - 1)
              case measure => omega
              case rel => exact ⟨b + 1, by omega, by go_num, HKD.out⟩
    · obtain rfl : b = q := by omega
      have HF := Lib.hid (fair_is (c := cg) (HIC.out.below HKB.out) ⟨by omega, hcg⟩ ⟨by omega, by omega⟩ (by omega) HFAIR.out)
      rcases Nat.eq_zero_or_pos M with hM0 | hM0
      · subst hM0
        go_wp2_with (go_at_call 16; refine (awake24_any _).mono ?_; rintro e w3 ⟨rfl, hk3⟩)
        go_ret
        exact ⟨rfl, (HK.out.trans HKB.out).trans hk3⟩
      · have hMz : ((M : Int) == 0) = false := beq_eq_false_iff_ne.2 (by omega)
        have HM0 := Lib.hid hM0
        clear hM0
        go_wp2_with (first
          | (go_at_call 38; refine HF.out.mono ?_; rintro e w2 ⟨rfl, hk2⟩)
          | (go_at_call 16; refine (awake24_any _).mono ?_; rintro e w3 ⟨rfl, hk3⟩))
        go_ret
        exact ⟨rfl, ((HK.out.trans HKB.out).trans hk2).trans hk3⟩

theorem fairSpreads_any (a0 : Option Addr) (n0 c0 : Nat) (z0 : List Int) (who block : Int) (w : World) (hw0 : Ints .u16 w a0 n0 z0) (hm0 : n0 ≤ maxLen) (hq0 : n0 ≤ c0) (_ : (Lit.int .i64 who).wf = true) (_ : (Lit.int .i64 block).wf = true) :
    Calls Try.prog 15 #[.slice a0 n0 c0, .int .i64 who, .int .i64 block] w fun e w' => e = .returned (.bool true) ∧ Keep none_ w w' := by
  unfold maxLen at hm0
  by_cases hbig : 300 < n0
  · clear hw0
    go_enter Try.func15, Try.ntmps15
    go_wp2_with (go_at_call 16; refine (awake24_any _).mono ?_; rintro e w1 ⟨rfl, hk⟩)
    go_ret
    exact ⟨rfl, hk⟩
  by_cases hb : badSpread who block
  · exact fairSpreads_bad a0 n0 c0 who block w hbig hb
  · unfold badSpread at hb
    obtain ⟨u, rfl⟩ : ∃ u : Nat, who = u := ⟨who.toNat, by omega⟩
    obtain ⟨B, rfl⟩ : ∃ B : Nat, block = B := ⟨block.toNat, by omega⟩
    exact fairSpreads_good a0 n0 c0 z0 u B w hw0.cells hbig hq0 (fun j hj => bounds_u16 (hw0.bound j hj)) (by omega) (by omega) (by omega) (by omega)
end Go.Proofs.Ytcdmlinaebnbcaa
