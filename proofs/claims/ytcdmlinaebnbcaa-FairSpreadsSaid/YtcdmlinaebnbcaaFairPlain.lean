/- Plain facts on rows of picks: a row is fair by k just if its gap is at most k. With no program in sight. -/
import Derived.Test.YtcdmlinaebnbcaaFair2
namespace Go.Proofs.Ytcdmlinaebnbcaa

theorem snoc_ind {P : List Int → Prop} (h0 : P []) (h1 : ∀ l z, P l → P (l ++ [z])) (l : List Int) : P l := by
  rw [← List.reverse_reverse l]
  induction l.reverse with
  | nil => exact h0
  | cons z l ih => rw [List.reverse_cons]; exact h1 _ _ ih

/-- The row at the end without one. -/
theorem tail_run (w : Int) (zs : List Int) : ∀ k : Nat, 1 ≤ k → (k ≤ (longL w zs).1 ↔ k ≤ zs.length ∧ w ∉ zs.drop (zs.length - k)) := by
  refine snoc_ind (P := fun zs => ∀ k : Nat, 1 ≤ k → (k ≤ (longL w zs).1 ↔ k ≤ zs.length ∧ w ∉ zs.drop (zs.length - k))) ?_ ?_ zs
  · intro k hk
    simp [longL]
  · intro l z ih k hk
    rw [longL_snoc]
    have e : (l ++ [z]).length - k = l.length - (k - 1) := by simp; omega
    rw [e, List.drop_append_of_le_length (by omega)]
    by_cases hz : z = w
    · subst hz
      simp [stepL]
      omega
    · have hz' : ¬ w = z := fun e => hz e.symm
      simp only [stepL, if_neg hz, List.length_append, List.length_cons, List.length_nil, List.mem_append, List.mem_singleton, hz', or_false]
      rcases Nat.eq_or_lt_of_le hk with h1 | h1
      · subst h1
        simp
      · have := ih (k - 1) (by omega)
        constructor
        · intro h
          have h2 := this.1 (by omega)
          exact ⟨by omega, h2.2⟩
        · rintro ⟨h, h2⟩
          have h3 := this.2 ⟨by omega, h2⟩
          omega

/-- Somewhere there is a row of k without one. -/
theorem some_run (w : Int) (zs : List Int) : ∀ k : Nat, 1 ≤ k → (k ≤ (longL w zs).2 ↔ ∃ i, i + k ≤ zs.length ∧ w ∉ (zs.drop i).take k) := by
  refine snoc_ind (P := fun zs => ∀ k : Nat, 1 ≤ k → (k ≤ (longL w zs).2 ↔ ∃ i, i + k ≤ zs.length ∧ w ∉ (zs.drop i).take k)) ?_ ?_ zs
  · intro k hk
    simp [longL]
  · intro l z ih k hk
    have ht := tail_run w (l ++ [z]) k hk
    have hm : (longL w (l ++ [z])).2 = max (longL w l).2 (longL w (l ++ [z])).1 := by rw [longL_snoc]; rfl
    rw [hm]
    have hmax : k ≤ max (longL w l).2 (longL w (l ++ [z])).1 ↔ k ≤ (longL w l).2 ∨ k ≤ (longL w (l ++ [z])).1 := by omega
    rw [hmax, ih k hk, ht]
    constructor
    · rintro (⟨i, hi, hn⟩ | ⟨hl, hn⟩)
      · refine ⟨i, by simp; omega, ?_⟩
        rw [List.drop_append_of_le_length (by omega), List.take_append_of_le_length (by simp; omega)]
        exact hn
      · refine ⟨(l ++ [z]).length - k, by omega, ?_⟩
        rw [List.take_of_length_le (by simp; omega)]
        exact hn
    · rintro ⟨i, hi, hn⟩
      simp at hi
      rcases Nat.lt_or_ge (i + k) (l.length + 1) with h | h
      · left
        refine ⟨i, by omega, ?_⟩
        rw [List.drop_append_of_le_length (by omega), List.take_append_of_le_length (by simp; omega)] at hn
        exact hn
      · right
        have : i = (l ++ [z]).length - k := by simp; omega
        subst this
        rw [List.take_of_length_le (by simp; omega)] at hn
        exact ⟨by simp; omega, hn⟩

/-- All windows of k have one. -/
def allHave (zs : List Int) (w k : Nat) : Prop := ∀ i, i + k ≤ zs.length → (w : Int) ∈ (zs.drop i).take k
theorem allHave_iff (zs : List Int) (w k : Nat) (hk : 1 ≤ k) : allHave zs w k ↔ (longL w zs).2 + 1 ≤ k := by
  have := some_run w zs k hk
  constructor
  · intro h
    rcases Nat.lt_or_ge (longL w zs).2 k with h1 | h1
    · exact h1
    · obtain ⟨i, hi, hn⟩ := this.1 h1
      exact absurd (h i hi) hn
  · intro h i hi
    refine Classical.byContradiction fun hn => ?_
    have := this.2 ⟨i, hi, hn⟩
    omega
theorem gapW_iff (zs : List Int) (who k : Nat) (hk : 1 ≤ k) : gapW zs who ≤ k ↔ ∀ w, w < who → allHave zs w k := by
  induction who with
  | zero => simp [gapW, hk]
  | succ n ih =>
    have h1 : gapW zs (n + 1) ≤ k ↔ gapW zs n ≤ k ∧ (longL n zs).2 + 1 ≤ k := by simp only [gapW]; omega
    rw [h1, ih, ← allHave_iff zs n k hk]
    constructor
    · rintro ⟨a, b⟩ w hw
      rcases Nat.lt_succ_iff_lt_or_eq.1 hw with h | h
      · exact a w h
      · rw [h]; exact b
    · intro h
      exact ⟨fun w hw => h w (by omega), h n (by omega)⟩

/-- So many different ones want so much room. -/
theorem room_of (l : List Int) (who : Nat) (h : ∀ w, w < who → (w : Int) ∈ l) : who ≤ l.length := by
  induction who generalizing l with
  | zero => omega
  | succ n ih =>
    have hn := h n (by omega)
    have h2 := ih (l.erase (n : Int)) (fun w hw => (List.mem_erase_of_ne (by omega)).2 (h w (by omega)))
    rw [List.length_erase_of_mem hn] at h2
    have := List.length_pos_of_mem hn
    omega

theorem hasAll_iff (xs : List Int) (who : Int) : hasAll xs who = true ↔ ∀ w : Nat, w < who.toNat → (w : Int) ∈ xs := by
  simp [hasAll, inL_true]
theorem wins_all (zs : List Int) (k : Nat) (hk : 1 ≤ k) (p : List Int → Bool) : (wins zs k).all (fun x => p x.2) = true ↔ ∀ i, i + k ≤ zs.length → p ((zs.drop i).take k) = true := by
  rw [List.all_eq_true]
  constructor
  · intro h i hi
    refine h (i, (zs.drop i).take k) ?_
    unfold wins
    rw [if_pos (by omega)]
    rw [List.mem_map]
    exact ⟨i, by simp; omega, by simp⟩
  · intro h x hx
    obtain ⟨j, hj⟩ := List.mem_iff_getElem?.1 hx
    obtain ⟨_, h2, rfl⟩ := wins_get hj
    simpa using h j (by simpa using h2)
/-- FAIR BY K JUST IF THE GAP IS AT MOST K. -/
theorem fair_gap (zs : List Int) (who k : Int) (hw : 1 ≤ who) : fairL zs who k = (decide (1 ≤ k) && decide ((gapL zs who : Int) ≤ k)) := by
  by_cases hk : 1 ≤ k
  · obtain ⟨q, rfl⟩ : ∃ q : Nat, k = q := ⟨k.toNat, by omega⟩
    obtain ⟨u, rfl⟩ : ∃ u : Nat, who = u := ⟨who.toNat, by omega⟩
    have hq : 1 ≤ q := by omega
    rw [Bool.eq_iff_iff]
    simp only [fairL, Bool.and_eq_true, decide_eq_true_iff, hw, hk, true_and]
    rw [wins_all zs q hq (fun xs => hasAll xs u)]
    have h1 : (∀ i, i + q ≤ zs.length → hasAll ((zs.drop i).take q) u = true) ↔ ∀ w, w < u → allHave zs w q := by
      simp only [hasAll_iff, allHave, Int.toNat_natCast]
      exact ⟨fun h w hw i hi => h i hi w hw, fun h i hi w hw => h w hw i hi⟩
    rw [h1, ← gapW_iff zs u q hq]
    unfold gapL
    rw [if_neg (by omega)]
    split
    · rename_i hlt
      constructor
      · intro h
        refine Classical.byContradiction fun hno => ?_
        have h2 := (gapW_iff zs u q hq).1 h
        have h3 := room_of ((zs.drop 0).take q) u (fun w hw => h2 w hw 0 (by omega))
        simp at h3
        omega
      · intro h
        have := gapW_le zs u
        omega
    · simp
  · simp [fairL, hk]
theorem gap_pos (zs : List Int) (who : Int) (hw : 1 ≤ who) : 1 ≤ gapL zs who := by
  unfold gapL
  rw [if_neg (by omega)]
  split
  · omega
  · generalize who.toNat = u
    induction u with
    | zero => simp [gapW]
    | succ n ih => simp only [gapW]; omega
theorem gap_le (zs : List Int) (who : Int) : gapL zs who ≤ zs.length + 1 := by
  unfold gapL
  split
  · omega
  · split
    · omega
    · exact gapW_le zs _
end Go.Proofs.Ytcdmlinaebnbcaa
