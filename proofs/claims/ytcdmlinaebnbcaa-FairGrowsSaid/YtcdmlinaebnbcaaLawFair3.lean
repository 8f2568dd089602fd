/- The walk of FairGrows. -/
import Derived.Test.YtcdmlinaebnbcaaFairPlain
import Derived.Test.YtcdmlinaebnbcaaArr
namespace Go.Proofs.Ytcdmlinaebnbcaa
open Go.RowKit

theorem fairL_sub (zs : List Int) (who k : Int) (lo m : Nat) (h : fairL zs who k = true) (hm : lo + m ≤ zs.length) : fairL ((zs.drop lo).take m) who k = true := by
  simp only [fairL, Bool.and_eq_true, decide_eq_true_iff] at h ⊢
  obtain ⟨⟨h1, h2⟩, h3⟩ := h
  refine ⟨⟨h1, h2⟩, ?_⟩
  obtain ⟨q, rfl⟩ : ∃ q : Nat, k = q := ⟨k.toNat, by omega⟩
  have hq : 1 ≤ q := by omega
  have h4 := (wins_all zs q hq (fun xs => hasAll xs who)).1 h3
  refine (wins_all _ q hq (fun xs => hasAll xs who)).2 fun i hi => ?_
  simp at hi
  have h5 := h4 (lo + i) (by omega)
  rw [List.drop_take, List.take_take, List.drop_drop, Nat.min_eq_left (by omega)]
  exact h5
theorem gapL_sub (zs : List Int) (who : Int) (lo m : Nat) (hw : 1 ≤ who) (hm : lo + m ≤ zs.length) : gapL ((zs.drop lo).take m) who ≤ gapL zs who := by
  have h1 := fair_gap zs who (gapL zs who) hw
  have h2 := gap_pos zs who hw
  rw [decide_eq_true (by omega), decide_eq_true (Int.le_refl _)] at h1
  have h3 := fairL_sub zs who _ lo m h1 hm
  rw [fair_gap _ _ _ hw] at h3
  simp only [Bool.and_eq_true, decide_eq_true_iff] at h3
  omega

set_option maxRecDepth 100000 in
set_option maxHeartbeats 8000000 in
theorem fairGrows_any (a0 : Option Addr) (n0 c0 : Nat) (z0 : List Int) (who : Int) (cs : List Value) (w : World) (hw0 : Ints .i64 w a0 n0 z0) (hm0 : n0 ≤ maxLen) (hq0 : n0 ≤ c0) (hu : (Lit.int .u8 who).wf = true) (hcs : FlatOk [.int .u8, .int .u8] cs) :
    Calls Try.prog 12 #[.slice a0 n0 c0, .int .u8 who, .agg cs.toArray] w fun e w' => e = .returned (.bool true) ∧ Keep none_ w w' := by
  have bu := bounds_u8 hu
  obtain ⟨p, q, rfl, hp, hq⟩ := hcs.two
  have bp := bounds_u8 hp
  have bq := bounds_u8 hq
  obtain ⟨p, rfl⟩ : ∃ p' : Nat, p = p' := ⟨p.toNat, by omega⟩
  obtain ⟨q, rfl⟩ : ∃ q' : Nat, q = q' := ⟨q.toNat, by omega⟩
  unfold maxLen at hm0
  clear hu hp hq hcs
  by_cases hbig : 80 < n0
  · clear hw0
    go_enter Try.func12, Try.ntmps12
    go_wp2_with (go_at_call 16; refine (awake24_any _).mono ?_; rintro e w1 ⟨rfl, hk⟩)
    go_ret
    exact ⟨rfl, ((Keep.refl none_ w).alloc _).trans hk⟩
  have hz := hw0.cells
  clear hw0
  have hl := hz.len
  obtain ⟨G, hG⟩ : ∃ G, G = gapL z0 (1 + who % 6) := ⟨_, rfl⟩
  have hu0 : 0 ≤ who % 6 := Int.emod_nonneg _ (by omega)
  have hu6 : who % 6 < 6 := Int.emod_lt_of_pos _ (by omega)
  have hG1 := gap_pos z0 (1 + who % 6) (by omega)
  have hGle := gap_le z0 (1 + who % 6)
  have hsub := fun lo m => gapL_sub z0 (1 + who % 6) lo m (by omega)
  have hfg := fun k => fair_gap z0 (1 + who % 6) k (by omega)
  have hfs := fun lo m h => fairL_sub z0 (1 + who % 6) G lo m h
  rw [← hG] at hG1 hGle
  simp only [← hG] at hsub hfg
  rw [hl] at hGle
  have hK : Keep none_ w (w.alloc (.cells #[.int .u8 p, .int .u8 q] 63)) := (Keep.refl none_ w).alloc _
  have hB := Blk.new w [.int .u8 p, .int .u8 q] 63
  have hc0 := hB.cell 0 rfl
  have hc1 := hB.cell 1 rfl
  have HG : Hid (∀ (A : Option Addr) (N C : Nat), A = a0 ∧ N = n0 ∧ C = c0 → ∀ w', Keep none_ w w' → Calls Try.prog 37 #[.slice A N C, .int .i64 (1 + who % 6)] w' fun e w'' => e = .returned (.int .i64 (G : Int)) ∧ Keep none_ w' w'') :=
    fun A N C h w' hk => by
      obtain ⟨rfl, rfl, rfl⟩ := h
      exact gap_is (hz.below hk) (by omega) (by rw [hG])
  have HF : Hid (∀ (A : Option Addr) (N C : Nat) (k : Int) (b : Bool), A = a0 ∧ N = n0 ∧ C = c0 → (k = G ∧ b = true ∨ k = (G : Int) + 1 ∧ b = true ∨ k = (G : Int) - 1 ∧ b = false) → ∀ w', Keep none_ w w' → Calls Try.prog 38 #[.slice A N C, .int .i64 (1 + who % 6), .int .i64 k] w' fun e w'' => e = .returned (.bool b) ∧ Keep none_ w' w'') := by
    rintro A N C k b ⟨rfl, rfl, rfl⟩ hkb w' hk
    refine fair_is (hz.below hk) ⟨by omega, by omega⟩ (by omega) (by omega) ?_
    rw [hfg]
    rcases hkb with ⟨rfl, rfl⟩ | ⟨rfl, rfl⟩ | ⟨rfl, rfl⟩
    · simp; omega
    · simp; omega
    · simp; omega
  have HSF : Hid (∀ (A : Option Addr) (N C lo : Nat), lo + N ≤ n0 → A = cutA a0 c0 lo → N ≤ C → ∀ w', Keep none_ w w' → Calls Try.prog 38 #[.slice A N C, .int .i64 (1 + who % 6), .int .i64 G] w' fun e w'' => e = .returned (.bool true) ∧ Keep none_ w' w'') := by
    rintro A N C lo hlm rfl hC w' hk
    refine fair_is ((hz.below hk).cut2 lo N hlm hq0) ⟨by omega, hC⟩ (by omega) (by omega) (hfs lo N ?_ (by omega))
    rw [hfg]; simp; omega
  have HSG : Hid (∀ (A : Option Addr) (N C lo : Nat), lo + N ≤ n0 → A = cutA a0 c0 lo → ∀ w', Keep none_ w w' → Calls Try.prog 37 #[.slice A N C, .int .i64 (1 + who % 6)] w' fun e w'' => (∃ g : Nat, e = .returned (.int .i64 g) ∧ g ≤ G) ∧ Keep none_ w' w'') := by
    rintro A N C lo hlm rfl w' hk
    refine (gap_is ((hz.below hk).cut2 lo N hlm hq0) (by omega) rfl).mono ?_
    rintro e w'' ⟨rfl, hk2⟩
    exact ⟨⟨_, rfl, hsub lo N (by omega)⟩, hk2⟩
  clear hsub hfg hfs hG hl hz
  go_enter Try.func12, Try.ntmps12
  rcases (show G = 1 ∨ 1 < G by omega) with hG2 | hG2
  · subst hG2
    go_wp2_with (first
      | (go_at_call 37; refine (HG.out _ _ _ (by exact ⟨rfl, rfl, rfl⟩) _ hK).mono ?_; rintro e w2 ⟨rfl, hk2⟩; replace hK := hK.trans hk2; replace hB := hk2.blk hB (fun f => f); replace hc0 := hB.cell 0 rfl; replace hc1 := hB.cell 1 rfl)
      | (go_at_call 38; refine (HF.out _ _ _ _ _ (by exact ⟨rfl, rfl, rfl⟩) (by first | exact .inl ⟨rfl, rfl⟩ | exact .inr (.inl ⟨rfl, rfl⟩) | exact .inr (.inr ⟨rfl, rfl⟩)) _ hK).mono ?_; rintro e w2 ⟨rfl, hk2⟩; replace hK := hK.trans hk2; replace hB := hk2.blk hB (fun f => f); replace hc0 := hB.cell 0 rfl; replace hc1 := hB.cell 1 rfl)
      | (go_at_call 38; refine (HSF.out _ _ _ (min p n0) (by omega) (by first | exact (if_pos (by omega)).symm | (rw [cutA, if_neg (by omega)]; first | rw [show min p n0 = p by omega] | rw [show min p n0 = n0 by omega])) (by omega) _ hK).mono ?_; rintro e w2 ⟨rfl, hk2⟩; replace hK := hK.trans hk2)
      | (go_at_call 37; refine (HSG.out _ _ _ (min p n0) (by omega) (by first | exact (if_pos (by omega)).symm | (rw [cutA, if_neg (by omega)]; first | rw [show min p n0 = p by omega] | rw [show min p n0 = n0 by omega])) _ hK).mono ?_; rintro e w2 ⟨⟨g, rfl, hg⟩, hk2⟩; replace hg : (g : Int) ≤ 1 := (by omega); replace hK := hK.trans hk2)
      | (go_at_call 16; refine (awake24_any _).mono ?_; rintro e w1 ⟨rfl, hk2⟩; replace hK := hK.trans hk2))
    all_goals
      go_ret
      exact ⟨rfl, hK⟩
  · go_wp2_with (first
      | (go_at_call 37; refine (HG.out _ _ _ (by exact ⟨rfl, rfl, rfl⟩) _ hK).mono ?_; rintro e w2 ⟨rfl, hk2⟩; replace hK := hK.trans hk2; replace hB := hk2.blk hB (fun f => f); replace hc0 := hB.cell 0 rfl; replace hc1 := hB.cell 1 rfl)
      | (go_at_call 38; refine (HF.out _ _ _ _ _ (by exact ⟨rfl, rfl, rfl⟩) (by first | exact .inl ⟨rfl, rfl⟩ | exact .inr (.inl ⟨rfl, rfl⟩) | exact .inr (.inr ⟨rfl, rfl⟩)) _ hK).mono ?_; rintro e w2 ⟨rfl, hk2⟩; replace hK := hK.trans hk2; replace hB := hk2.blk hB (fun f => f); replace hc0 := hB.cell 0 rfl; replace hc1 := hB.cell 1 rfl)
      | (go_at_call 38; refine (HSF.out _ _ _ (min p n0) (by omega) (by first | exact (if_pos (by omega)).symm | (rw [cutA, if_neg (by omega)]; first | rw [show min p n0 = p by omega] | rw [show min p n0 = n0 by omega])) (by omega) _ hK).mono ?_; rintro e w2 ⟨rfl, hk2⟩; replace hK := hK.trans hk2)
      | (go_at_call 37; refine (HSG.out _ _ _ (min p n0) (by omega) (by first | exact (if_pos (by omega)).symm | (rw [cutA, if_neg (by omega)]; first | rw [show min p n0 = p by omega] | rw [show min p n0 = n0 by omega])) _ hK).mono ?_; rintro e w2 ⟨⟨g, rfl, hg⟩, hk2⟩; replace hg : (g : Int) ≤ G := (by omega); replace hK := hK.trans hk2)
      | (go_at_call 16; refine (awake24_any _).mono ?_; rintro e w1 ⟨rfl, hk2⟩; replace hK := hK.trans hk2))
    all_goals
      go_ret
      exact ⟨rfl, hK⟩
end Go.Proofs.Ytcdmlinaebnbcaa
