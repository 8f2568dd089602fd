/- Plain facts on Spread: each block's order; counts. With no program in sight. -/
import Derived.Test.YtcdmlinaebnbcaaSpread
import Derived.Test.YtcdmlinaebnbcaaTells
namespace Go.Proofs.Ytcdmlinaebnbcaa

/-- x ahead of y. -/
def Ahead (key : Int → Int) (x y : Int) : Prop := key x < key y ∨ key x = key y ∧ x < y
theorem set_two (A B : List Int) (x y : Int) : ((A ++ y :: x :: B).set (A.length + 1) y).set A.length x = A ++ x :: y :: B := by
  induction A with
  | nil => rfl
  | cons a A ih => simp
theorem ins_spec (key : Int → Int) (x : Int) (A : List Int) : ∀ B : List Int, ∃ A1 A2, A = A1 ++ A2 ∧ insIn key A.length (A ++ x :: B) = A1 ++ x :: (A2 ++ B) ∧ (∀ y ∈ A2, key x < key y) ∧ (∀ y, A1.getLast? = some y → ¬ key x < key y) := by
  refine snoc_ind (P := fun A => ∀ B : List Int, ∃ A1 A2, A = A1 ++ A2 ∧ insIn key A.length (A ++ x :: B) = A1 ++ x :: (A2 ++ B) ∧ (∀ y ∈ A2, key x < key y) ∧ (∀ y, A1.getLast? = some y → ¬ key x < key y)) ?_ ?_ A
  · intro B
    exact ⟨[], [], rfl, rfl, fun y h => (nomatch h), fun y h => by simp at h⟩
  · intro A y ih B
    have e1 : (A ++ [y] ++ x :: B) = A ++ y :: x :: B := by simp
    have g1 : (A ++ y :: x :: B).getD (A.length + 1) 0 = x := by simp [List.getD_eq_getElem?_getD]
    have g0 : (A ++ y :: x :: B).getD A.length 0 = y := by simp [List.getD_eq_getElem?_getD]
    rw [e1]
    simp only [List.length_append, List.length_cons, List.length_nil, Nat.zero_add, insIn, g1, g0]
    by_cases h : key x < key y
    · rw [if_pos h, set_two]
      obtain ⟨A1, A2, h1, h2, h3, h4⟩ := ih (y :: B)
      refine ⟨A1, A2 ++ [y], by rw [h1]; simp, by rw [h2]; simp, fun z hz => ?_, h4⟩
      rcases List.mem_append.1 hz with hz | hz
      · exact h3 z hz
      · simp at hz; subst hz; exact h
    · rw [if_neg h]
      refine ⟨A ++ [y], [], by simp, by simp, fun z hz => (nomatch hz), fun z hz => ?_⟩
      simp at hz
      subst hz
      exact h

theorem uptoL_mem {n : Nat} {x : Int} : x ∈ uptoL n ↔ 0 ≤ x ∧ x < n := by
  simp only [uptoL, List.mem_map, List.mem_range]
  constructor
  · rintro ⟨i, hi, rfl⟩; simp; omega
  · rintro ⟨h1, h2⟩; exact ⟨x.toNat, by omega, by simp; omega⟩
theorem uptoL_drop (n i : Nat) (h : i < n) : (uptoL n).drop i = (i : Int) :: (uptoL n).drop (i + 1) := by
  rw [List.drop_eq_getElem_cons (by simpa [uptoL] using h)]
  simp [uptoL]
theorem uptoL_succ (i : Nat) : uptoL (i + 1) = uptoL i ++ [(i : Int)] := by simp [uptoL, List.range_succ]

theorem sort_spec (key : Int → Int) (n : Nat) : ∀ i, i ≤ n → ∃ T : List Int, sortTo key i (uptoL n) = T ++ (uptoL n).drop i ∧ T.Perm (uptoL i) ∧ T.Pairwise (Ahead key) := by
  intro i
  induction i with
  | zero => exact fun _ => ⟨[], by simp [sortTo], by simp [uptoL], List.Pairwise.nil⟩
  | succ i ih =>
    intro hi
    obtain ⟨T, h1, h2, h3⟩ := ih (by omega)
    have hl : T.length = i := by rw [h2.length_eq]; simp [uptoL]
    rw [sortTo, h1, uptoL_drop n i (by omega)]
    obtain ⟨A1, A2, rfl, h5, h6, h7⟩ := ins_spec key i T ((uptoL n).drop (i + 1))
    rw [hl] at h5
    rw [h5]
    have hp : (A1 ++ (i : Int) :: A2).Perm (uptoL (i + 1)) := by
      rw [uptoL_succ]
      exact List.perm_middle.trans ((List.Perm.cons _ h2).trans (List.perm_append_singleton _ _).symm)
    refine ⟨A1 ++ (i : Int) :: A2, by simp, hp, ?_⟩
    rw [List.pairwise_append] at h3 ⊢
    obtain ⟨p1, p2, p3⟩ := h3
    refine ⟨p1, List.Pairwise.cons (fun b hb => .inl (h6 b hb)) p2, fun a ha b hb => ?_⟩
    rcases List.mem_cons.1 hb with rfl | hb
    · have hai : a < (i : Int) := (uptoL_mem.1 (h2.mem_iff.1 (List.mem_append_left _ ha))).2
      have hne : A1 ≠ [] := fun e => by rw [e] at ha; exact (nomatch ha)
      have hlast := h7 _ (List.getLast?_eq_some_getLast hne)
      have hka : key a ≤ key (A1.getLast hne) := by
        have hd : A1.dropLast ++ [A1.getLast hne] = A1 := List.dropLast_concat_getLast hne
        rw [← hd] at ha p1
        rcases List.mem_append.1 ha with h | h
        · have := (List.pairwise_append.1 p1).2.2 a h _ (List.mem_singleton.2 rfl)
          rcases this with h | h <;> omega
        · simp at h; rw [← h]; exact Int.le_refl _
      have : key a ≤ key i := by omega
      rcases Int.lt_or_eq_of_le this with h | h
      · exact .inl h
      · exact .inr ⟨h, hai⟩
    · exact p3 a ha b hb
theorem order_perm (who : Nat) (rs : List Int) : (orderL who rs).Perm (uptoL who) := by
  obtain ⟨T, h1, h2, _⟩ := sort_spec (fun x => rs.getD x.toNat 0) who who (Nat.le_refl _)
  rw [orderL, h1, List.drop_of_length_le (by simp [uptoL]), List.append_nil]
  exact h2
theorem order_sorted (who : Nat) (rs : List Int) : (orderL who rs).Pairwise (Ahead (fun x => rs.getD x.toNat 0)) := by
  obtain ⟨T, h1, _, h3⟩ := sort_spec (fun x => rs.getD x.toNat 0) who who (Nat.le_refl _)
  rw [orderL, h1, List.drop_of_length_le (by simp [uptoL]), List.append_nil]
  exact h3

/-! Counts -/
theorem count_upto (n : Nat) (x : Int) : countL (uptoL n) x = if 0 ≤ x ∧ x < n then 1 else 0 := by
  induction n with
  | zero => simp [countL, uptoL]
  | succ n ih =>
    rw [uptoL_succ]
    simp only [countL, List.countP_append, List.countP_cons, List.countP_nil] at ih ⊢
    rw [ih]
    by_cases h : (n : Int) = x
    · subst h; simp; omega
    · have : ((n : Int) == x) = false := by simpa using h
      simp only [this]
      split <;> split <;> simp_all <;> omega
theorem count_ge (zs : List Int) (who block m : Nat) (x : Int) (hx : 0 ≤ x ∧ x < who) : m ≤ countL (spreadN zs who block m) x := by
  induction m with
  | zero => omega
  | succ m ih =>
    have h1 : countL (orderL who (zs.drop (m * block))) x = 1 := by
      have := (order_perm who (zs.drop (m * block))).countP_eq (· == x)
      rw [countL, this]
      have h2 := count_upto who x
      rw [if_pos hx] at h2
      exact h2
    simp only [spreadN, blockL, countL, List.countP_append] at ih h1 ⊢
    omega
theorem spread_in (zs : List Int) (who block m : Nat) (h1 : 1 ≤ who) : ∀ x ∈ spreadN zs who block m, 0 ≤ x ∧ x < who := by
  induction m with
  | zero => intro x h; simp [spreadN] at h
  | succ m ih =>
    intro x hx
    simp only [spreadN, blockL, List.mem_append, List.mem_map] at hx
    rcases hx with h | h | ⟨y, _, rfl⟩
    · exact ih x h
    · exact uptoL_mem.1 ((order_perm _ _).mem_iff.1 h)
    · exact ⟨Int.emod_nonneg _ (by omega), Int.emod_lt_of_pos _ (by omega)⟩
def sumC (l : List Int) : Nat → Nat
  | 0 => 0
  | k + 1 => sumC l k + countL l k
theorem sumC_is (l : List Int) (k : Nat) : sumC l k = l.countP (fun x : Int => decide (0 ≤ x ∧ x < (k : Int))) := by
  induction k with
  | zero =>
    symm
    rw [sumC, List.countP_eq_zero]
    intro x _
    have : ¬ (0 ≤ x ∧ x < ((0 : Nat) : Int)) := by omega
    rw [decide_eq_false this]
    exact Bool.false_ne_true
  | succ k ih =>
    rw [sumC, ih, countL]
    clear ih
    induction l with
    | nil => rfl
    | cons z l ih =>
      simp only [List.countP_cons]
      rw [← ih]
      have key : (if decide (0 ≤ z ∧ z < (k : Int)) = true then 1 else 0) + (if (z == (k : Int)) = true then 1 else 0) = (if decide (0 ≤ z ∧ z < ((k + 1 : Nat) : Int)) = true then 1 else 0) := by
        simp only [decide_eq_true_iff, beq_iff_eq]
        split <;> split <;> split <;> omega
      omega
theorem sumC_all (l : List Int) (k : Nat) (h : ∀ x ∈ l, 0 ≤ x ∧ x < k) : sumC l k = l.length := by
  rw [sumC_is, List.countP_eq_length]
  intro x hx; simpa using h x hx
theorem sumC_le (l : List Int) (j k : Nat) (h : j ≤ k) : sumC l j ≤ sumC l k := by
  induction k with
  | zero => have : j = 0 := by omega
            rw [this]; exact Nat.le_refl _
  | succ k ih =>
    rcases Nat.eq_or_lt_of_le h with rfl | h1
    · exact Nat.le_refl _
    · have := ih (by omega)
      simp only [sumC]; omega
end Go.Proofs.Ytcdmlinaebnbcaa
