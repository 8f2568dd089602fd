/- Plain facts on Spread: where each one stands; the whole is fair. With no program in sight. -/
import Derived.Test.YtcdmlinaebnbcaaSpreadPlain
namespace Go.Proofs.Ytcdmlinaebnbcaa

theorem spread_get (zs : List Int) (u B m : Nat) (hu : u ≤ B) (hm : m * B ≤ zs.length) (b k : Nat) (hb : b < m) (hk : k < B) : (spreadN zs u B m).getD (b * B + k) 0 = (blockL u B (zs.drop (b * B))).getD k 0 := by
  induction m with
  | zero => omega
  | succ m ih =>
    have e : (m + 1) * B = m * B + B := by rw [Nat.add_mul, Nat.one_mul]
    have hl := spreadN_len zs u B m hu (by omega)
    rw [spreadN, List.getD_eq_getElem?_getD]
    rcases Nat.lt_succ_iff_lt_or_eq.1 hb with h | h
    · have h2 : (b + 1) * B ≤ m * B := Nat.mul_le_mul_right B h
      rw [Nat.add_mul, Nat.one_mul] at h2
      rw [List.getElem?_append_left (by omega), ← List.getD_eq_getElem?_getD]
      exact ih (by omega) h
    · subst h
      rw [List.getElem?_append_right (by omega), hl, Nat.add_sub_cancel_left, ← List.getD_eq_getElem?_getD]
theorem block_low (u B : Nat) (rs : List Int) (k : Nat) (hk : k < u) : (blockL u B rs).getD k 0 = (orderL u rs).getD k 0 := by
  rw [blockL, List.getD_eq_getElem?_getD, List.getElem?_append_left (by rw [orderL_len]; exact hk), ← List.getD_eq_getElem?_getD]
theorem block_high (u B : Nat) (rs : List Int) (k : Nat) (hk : u ≤ k) (hk2 : k < B) (hl : B ≤ rs.length) : (blockL u B rs).getD k 0 = rs.getD k 0 % (u : Int) := by
  rw [blockL, List.getD_eq_getElem?_getD, List.getElem?_append_right (by rw [orderL_len]; exact hk), orderL_len]
  have h1 : k - u < B - u := by omega
  have h2 : u + (k - u) = k := by omega
  simp [List.getElem?_map, List.getElem?_drop, h1, h2, List.getD_eq_getElem?_getD, List.getElem?_eq_getElem (show k < rs.length by omega)]

instance (key : Int → Int) (x y : Int) : Decidable (Ahead key x y) := by unfold Ahead; infer_instance
/-- How many of the first k stand ahead of i. -/
def aheadC (key : Int → Int) (i : Int) : Nat → Nat
  | 0 => 0
  | k + 1 => aheadC key i k + (if Ahead key k i then 1 else 0)
theorem aheadC_is (key : Int → Int) (i : Int) (k : Nat) : aheadC key i k = (uptoL k).countP (fun x => decide (Ahead key x i)) := by
  induction k with
  | zero => rfl
  | succ k ih =>
    rw [aheadC, uptoL_succ, List.countP_append, ih]
    simp
theorem ahead_pos (key : Int → Int) (i : Int) (T : List Int) (hs : T.Pairwise (Ahead key)) (hi : i ∈ T) : T.countP (fun x => decide (Ahead key x i)) < T.length ∧ T.getD (T.countP (fun x => decide (Ahead key x i))) 0 = i := by
  obtain ⟨A, C, rfl⟩ := List.append_of_mem hi
  rw [List.pairwise_append] at hs
  obtain ⟨_, h2, h3⟩ := hs
  have hA : A.countP (fun x => decide (Ahead key x i)) = A.length := by
    rw [List.countP_eq_length]
    intro x hx
    exact decide_eq_true (h3 x hx i (by simp))
  have hC : C.countP (fun x => decide (Ahead key x i)) = 0 := by
    rw [List.countP_eq_zero]
    intro x hx
    have h4 := (List.pairwise_cons.1 h2).1 x hx
    simp only [decide_eq_true_iff]
    unfold Ahead at *
    omega
  have hii : ¬ Ahead key i i := by unfold Ahead; omega
  have hcnt : (A ++ i :: C).countP (fun x => decide (Ahead key x i)) = A.length := by
    rw [List.countP_append, List.countP_cons, hA, hC, decide_eq_false hii]
    simp
  rw [hcnt]
  exact ⟨by simp, by simp [List.getD_eq_getElem?_getD]⟩
theorem order_pos (u : Nat) (rs : List Int) (k : Nat) (hk : k < u) : aheadC (fun x => rs.getD x.toNat 0) k u < u ∧ (orderL u rs).getD (aheadC (fun x => rs.getD x.toNat 0) k u) 0 = k := by
  have hp := order_perm u rs
  rw [aheadC_is, ← hp.countP_eq]
  have := ahead_pos _ (k : Int) _ (order_sorted u rs) (hp.mem_iff.2 (uptoL_mem.2 ⟨by omega, by omega⟩))
  rw [orderL_len] at this
  exact this

/-- THE WHOLE IS FAIR. -/
theorem spread_fair (zs : List Int) (u B m : Nat) (h1 : 1 ≤ u) (hu : u ≤ B) (hm : m * B ≤ zs.length) : fairL (spreadN zs u B m) u (2 * (B : Int) - 1) = true := by
  obtain ⟨K, hK⟩ : ∃ K : Nat, (K : Int) = 2 * (B : Int) - 1 := ⟨(2 * (B : Int) - 1).toNat, by omega⟩
  rw [← hK]
  have hl := spreadN_len zs u B m hu hm
  simp only [fairL, Bool.and_eq_true, decide_eq_true_iff]
  refine ⟨⟨by omega, by omega⟩, ?_⟩
  rw [wins_all _ K (by omega) (fun xs => hasAll xs u)]
  intro i hi
  rw [hasAll_iff]
  intro w hw
  have hw' : w < u := by simpa using hw
  -- the first block that begins not ahead of i
  obtain ⟨b, hb1, hb2⟩ : ∃ b, i ≤ b * B ∧ b * B < i + B := by
    refine ⟨(i + B - 1) / B, ?_, ?_⟩
    · have := Nat.div_add_mod (i + B - 1) B
      have h3 := Nat.mod_lt (i + B - 1) (show B > 0 by omega)
      rw [Nat.mul_comm] at this
      omega
    · have := Nat.div_mul_le_self (i + B - 1) B
      omega
  have hbm : b < m := by
    refine Classical.byContradiction fun hno => ?_
    have : m * B ≤ b * B := Nat.mul_le_mul_right B (by omega)
    have : (m * B) < i + B := by omega
    omega
  have hbB : b * B + B ≤ m * B := by
    have : (b + 1) * B ≤ m * B := Nat.mul_le_mul_right B hbm
    rwa [Nat.add_mul, Nat.one_mul] at this
  obtain ⟨p1, p2⟩ := order_pos u (zs.drop (b * B)) w hw'
  generalize aheadC (fun x => (zs.drop (b * B)).getD x.toNat 0) w u = P at p1 p2
  have hg := spread_get zs u B m hu hm b P hbm (by omega)
  rw [block_low _ _ _ _ p1, p2] at hg
  have hgl : b * B + P < (spreadN zs u B m).length := by rw [hl]; omega
  rw [getD_of hgl] at hg
  rw [List.mem_iff_getElem?]
  refine ⟨b * B + P - i, ?_⟩
  have e1 : b * B + P - i < K := by omega
  have e2 : i + (b * B + P - i) = b * B + P := by omega
  simp only [List.getElem?_take, List.getElem?_drop, e1, if_true, e2]
  rw [List.getElem?_eq_getElem hgl, hg]
end Go.Proofs.Ytcdmlinaebnbcaa
