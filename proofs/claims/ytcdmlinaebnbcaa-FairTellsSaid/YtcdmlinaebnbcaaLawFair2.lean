/- The walk of FairTells. -/
import Derived.Test.YtcdmlinaebnbcaaTells
namespace Go.Proofs.Ytcdmlinaebnbcaa
open Go.RowKit

theorem gapW_some (zs : List Int) (who : Int) (hl : zs.length ≤ 100) (hw : 1 ≤ who) (s : Int) (hs : s = min who 200) : gapW zs s.toNat = gapL zs who := by
  have key : ∀ u : Nat, 1 ≤ u → zs.length < u → gapW zs u = zs.length + 1 := by
    intro u hu hlt
    have h1 := gapW_le zs u
    rcases Nat.lt_or_ge (gapW zs u) (zs.length + 1) with h2 | h2
    · have hge : 1 ≤ gapW zs u := by
        clear h1 h2 hlt hu hs hw
        induction u with
        | zero => simp [gapW]
        | succ n ih => simp only [gapW]; omega
      have h3 := (gapW_iff zs u (gapW zs u) hge).1 (Nat.le_refl _)
      have h4 := room_of ((zs.drop 0).take (gapW zs u)) u (fun w hw => h3 w hw 0 (by omega))
      simp at h4
      omega
    · omega
  unfold gapL
  rw [if_neg (by omega)]
  split
  · exact key s.toNat (by omega) (by omega)
  · have : s.toNat = who.toNat := by omega
    rw [this]

set_option maxRecDepth 100000 in
set_option maxHeartbeats 8000000 in
theorem fairTells_any (a0 : Option Addr) (n0 c0 : Nat) (z0 : List Int) (who k : Int) (w : World) (hw0 : Ints .i64 w a0 n0 z0) (hm0 : n0 ≤ maxLen) (hq0 : n0 ≤ c0) (hu : (Lit.int .i64 who).wf = true) (hk : (Lit.int .i64 k).wf = true) :
    Calls Try.prog 13 #[.slice a0 n0 c0, .int .i64 who, .int .i64 k] w fun e w' => e = .returned (.bool true) ∧ Keep none_ w w' := by
  have bk := bounds_i64 hk
  have bu := bounds_i64 hu
  unfold maxLen at hm0
  clear hk hu
  by_cases hbig : 100 < n0
  · clear hw0
    go_enter Try.func13, Try.ntmps13
    go_wp2_with (go_at_call 16; refine (awake24_any _).mono ?_; rintro e w1 ⟨rfl, hk⟩)
    go_ret
    exact ⟨rfl, hk⟩
  have hz := hw0.cells
  clear hw0
  have hl := hz.len
  go_enter Try.func13, Try.ntmps13
  go_wp2_with fail
  go_loopg [8, 7] n0 (fun g i s wr => ∃ j : Nat, g + j = n0 ∧ i = .int .i64 j ∧ s = .int .i64 (countL (z0.take j) who) ∧ wr = w)
  case atStart => exact ⟨0, by omega, rfl, rfl, rfl⟩
  case round =>
    obtain ⟨j, hg, rfl, rfl, rfl⟩ := hrel
    by_cases hlt : j < n0
    · obtain ⟨b, off, rfl, hc⟩ := hz.at_ (by omega)
      have hck := hc j hlt
      have hs := countL_snoc z0 who j (by omega)
      have hle := countL_le (z0.take j) who
      rw [List.length_take] at hle
      have hle2 : countL (z0.take j) who ≤ j := by omega
      generalize z0.getD j 0 = x at hck hs
      generalize countL (z0.take j) who = s0 at *
      have HS := Lib.hid hs
      clear hle
      by_cases hx : x = who
      · have hb : (x == who) = true := beq_iff_eq.2 hx
        have HX := Lib.hid hx
        clear hx hc hl hs
        go_wp2_with fail
        go_roundg (gk - 1)
        case measure => omega
        case rel => exact ⟨j + 1, by omega, by go_num, vi (by rw [HS.out, if_pos HX.out]; omega), rfl⟩
      · have hb : (x == who) = false := beq_eq_false_iff_ne.2 hx
        have HX := Lib.hid hx
        clear hx hc hl hs
        go_wp2_with fail
        go_roundg (gk - 1)
        case measure => omega
        case rel => exact ⟨j + 1, by omega, by go_num, vi (by rw [HS.out, if_neg HX.out]; omega), rfl⟩
    · have hcz : (countL z0 who : Int) = (countL (z0.take j) who : Int) := by rw [List.take_of_length_le (by omega)]
      have HC := Lib.hid (fun w (h : IntCells .i64 w a0 n0 z0) => count_is (c := c0) h (by omega) hcz)
      generalize countL (z0.take j) who = s0 at *
      clear hcz
      have HZ := Lib.hid hz
      have HGN : Hid (∀ w1, Keep none_ wr w1 → IntCells .i64 w1 a0 n0 z0) := fun w1 hk => hz.below hk
      by_cases hw1 : who < 1
      · have hf : fairL z0 who k = false := by simp [fairL]; omega
        have hg0 : (gapL z0 who : Int) = 0 := by simp [gapL, hw1]
        have HF := Lib.hid (fun w (h : IntCells .i64 w a0 n0 z0) => fair_is (c := c0) h ⟨by omega, hq0⟩ bk bu.2 hf)
        have HG := Lib.hid (fun w (h : IntCells .i64 w a0 n0 z0) => gap_is (c := c0) h (by omega) hg0)
        clear hf hg0 hz hl
        go_wp2_with (first
          | (go_at_call 39; refine (HC.out _ HZ.out).mono ?_; rintro e w1 ⟨rfl, rfl⟩)
          | (go_at_call 38; refine (HF.out _ HZ.out).mono ?_; rintro e w1 ⟨rfl, hk1⟩)
          | (go_at_call 37; refine (HG.out _ (HGN.out _ hk1)).mono ?_; rintro e w2 ⟨rfl, hk2⟩)
          | (go_at_call 16; refine (awake24_any _).mono ?_; rintro e w3 ⟨rfl, hk3⟩))
        go_ret
        exact ⟨rfl, (hk1.trans hk2).trans hk3⟩
      · obtain ⟨s, hs⟩ : ∃ s, s = min who 200 := ⟨_, rfl⟩
        obtain ⟨G, hG⟩ : ∃ G, G = gapL z0 who := ⟨_, rfl⟩
        have hsg := gapW_some z0 who (by omega) (by omega) s hs
        have hGle := gap_le z0 who
        have hG1 := gap_pos z0 who (by omega)
        have hfair := fair_gap z0 who k (by omega)
        rw [← hG] at hsg hGle hG1 hfair
        have hsb : 1 ≤ s ∧ s ≤ 200 := by omega
        have HI := Lib.hid (fun w (h : IntCells .i64 w a0 n0 z0) k' p (hk' : 1 ≤ k' ∧ k' ≤ 1001) (hp : decide ((G : Int) ≤ k') = p) => isFair_is (c := c0) (who := s) (p := p) h ⟨by omega, hq0⟩ hk' ⟨by omega, by omega⟩ (by rw [hsg]; exact hp))
        have HG := Lib.hid (fun w (h : IntCells .i64 w a0 n0 z0) => gap_is (c := c0) (g := (G : Int)) h (by omega) (by rw [hG]))
        have HF := Lib.hid (fun w (h : IntCells .i64 w a0 n0 z0) p (hp : fairL z0 who k = p) => fair_is (c := c0) h ⟨by omega, hq0⟩ bk bu.2 hp)
        have HFG := Lib.hid hfair
        rw [hl] at hGle
        clear hsg hfair hz hl hG
        rcases (show who ≤ 200 ∧ s = who ∨ 200 < who ∧ s = 200 by omega) with ⟨h200, rfl⟩ | ⟨h200, rfl⟩
        all_goals
          clear hs
          go_wp2_with (go_at_call 39; refine (HC.out _ HZ.out).mono ?_; rintro e w1 ⟨rfl, rfl⟩)
          obtain ⟨w0, hw0⟩ : ∃ w0 : World, w0 = wr := ⟨_, rfl⟩
          rw [← hw0]
          go_loopg [10] G (fun g i wr => ∃ q : Nat, 1 ≤ q ∧ q ≤ G ∧ g + q = G + 1 ∧ i = .int .i64 q ∧ wr = w0)
          case atStart => exact ⟨1, by omega, by omega, by omega, rfl, rfl⟩
          case round =>
            obtain ⟨q, hq1, hq0', hq, rfl, rfl⟩ := hrel
            subst hw0
            by_cases hqG : q = G
            · subst hqG
              have HI1 := Lib.hid (HI.out _ HZ.out q true (by omega) (by simp))
              rcases (show k < 1 ∨ (n0 : Int) < k ∨ (1 ≤ k ∧ k ≤ n0) by omega) with hA | hA | ⟨hA, hB⟩
              · have HF1 := Lib.hid (fun w h => HF.out w h false (by rw [HFG.out]; simp; omega))
                clear hGle
                go_wp2_with (first
                  | (go_at_call 40; refine HI1.out.mono ?_; rintro e w1 ⟨rfl, rfl⟩)
                  | (go_at_call 37; refine (HG.out _ HZ.out).mono ?_; rintro e w2 ⟨rfl, hk2⟩)
                  | (go_at_call 38; refine (HF1.out _ (HGN.out _ hk2)).mono ?_; rintro e w1 ⟨rfl, hk1⟩)
                  | (go_at_call 16; refine (awake24_any _).mono ?_; rintro e w3 ⟨rfl, hk3⟩))
                go_ret
                exact ⟨rfl, (hk2.trans hk1).trans hk3⟩
              · have HF1 := Lib.hid (fun w h => HF.out w h true (by rw [HFG.out]; simp; omega))
                have hA1 : 1 ≤ k := by omega
                clear hGle
                go_wp2_with (first
                  | (go_at_call 40; refine HI1.out.mono ?_; rintro e w1 ⟨rfl, rfl⟩)
                  | (go_at_call 37; refine (HG.out _ HZ.out).mono ?_; rintro e w2 ⟨rfl, hk2⟩)
                  | (go_at_call 38; refine (HF1.out _ (HGN.out _ hk2)).mono ?_; rintro e w1 ⟨rfl, hk1⟩)
                  | (go_at_call 16; refine (awake24_any _).mono ?_; rintro e w3 ⟨rfl, hk3⟩))
                go_ret
                exact ⟨rfl, (hk2.trans hk1).trans hk3⟩
              · have hkk : 1 ≤ k ∧ k ≤ 1001 := by omega
                have HKQ : Hid ((1 : Int) ≤ q ∧ (q : Int) ≤ 1001 ∧ 1 ≤ k ∧ k ≤ 1001) := ⟨by omega, by omega, by omega, by omega⟩
                have HI2 := Lib.hid (fun (k' : Int) (h : 1 ≤ k' ∧ k' ≤ 1001) => HI.out _ HZ.out k' _ h rfl)
                by_cases hGk : (q : Int) ≤ k
                · have HF1 := Lib.hid (fun w h => HF.out w h true (by rw [HFG.out]; simp [hA, hGk]))
                  clear hGle hkk
                  go_wp2_with (first
                    | (go_at_call 40; refine (HI2.out _ (by have := HKQ.out; omega)).mono ?_; rintro e w1 ⟨rfl, rfl⟩)
                    | (go_at_call 37; refine (HG.out _ HZ.out).mono ?_; rintro e w2 ⟨rfl, hk2⟩)
                    | (go_at_call 38; refine (HF1.out _ (HGN.out _ hk2)).mono ?_; rintro e w1 ⟨rfl, hk1⟩)
                    | (go_at_call 16; refine (awake24_any _).mono ?_; rintro e w3 ⟨rfl, hk3⟩))
                  go_ret
                  exact ⟨rfl, (hk2.trans hk1).trans hk3⟩
                · have hGk' : decide ((q : Int) ≤ k) = false := by simpa using hGk
                  have HD : Hid (decide ((n0 : Int) < k) = false) := decide_eq_false (by omega)
                  have HF1 := Lib.hid (fun w h => HF.out w h false (by rw [HFG.out]; simp [hA, hGk]))
                  clear hGle hkk
                  go_wp2_with (first
                    | (go_at_call 40; refine (HI2.out _ (by have := HKQ.out; omega)).mono ?_; rintro e w1 ⟨rfl, rfl⟩)
                    | (go_at_call 37; refine (HG.out _ HZ.out).mono ?_; rintro e w2 ⟨rfl, hk2⟩)
                    | (go_at_call 38; refine (HF1.out _ (HGN.out _ hk2)).mono ?_; rintro e w1 ⟨rfl, hk1⟩)
                    | (go_at_call 16; refine (awake24_any _).mono ?_; rintro e w3 ⟨rfl, hk3⟩))
                  go_ret
                  exact ⟨by rw [HD.out]; rfl, (hk2.trans hk1).trans hk3⟩
            · have HI1 := Lib.hid (HI.out _ HZ.out q false (by omega) (by simp; omega))
              go_wp2_with (go_at_call 40; refine HI1.out.mono ?_; rintro e w1 ⟨rfl, rfl⟩)
              go_roundg (gk - 1)
              case measure => omega
              case rel => exact ⟨q + 1, by omega, by omega, by omega, by go_num, rfl⟩
end Go.Proofs.Ytcdmlinaebnbcaa
