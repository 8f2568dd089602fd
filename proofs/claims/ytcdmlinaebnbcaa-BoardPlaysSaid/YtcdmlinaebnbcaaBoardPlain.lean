/- Plain facts on boards, with no program in sight. -/
import Derived.Test.YtcdmlinaebnbcaaBoard2
namespace Go.Proofs.Ytcdmlinaebnbcaa

def Bd.of (n kind count : Int) (S : Nat → Bool) : Bd := ⟨n, kind, count, (List.range 8).map S⟩

theorem Bd.new_of (n : Int) : Bd.new n = Bd.of n 0 0 (fun _ => false) := rfl
theorem Bd.of_isOpen (n k c : Int) (S : Nat → Bool) (m : Int) (h : m.toNat < 8) : (Bd.of n k c S).isOpen m = S m.toNat := by
  simp [Bd.of, Bd.isOpen, List.getD_eq_getElem?_getD, h]
theorem Bd.of_is (n k c : Int) (S : Nat → Bool) (m : Int) : (Bd.of n k c S).is m = (decide (0 ≤ m) && decide (m < n)) := rfl
theorem anyTrue_map (S : Nat → Bool) (k : Nat) : anyTrue ((List.range k).map S) = (List.range k).any S := by
  simp [anyTrue]
theorem Bd.of_all (n k c : Int) (S : Nat → Bool) : (Bd.of n k c S).all = true ↔ ∀ q, q < 8 → S q = false := by
  simp [Bd.all, Bd.of, anyTrue]
theorem setTrue_of (S : Nat → Bool) (k : Nat) : setTrue k ((List.range 8).map S) = (List.range 8).map (fun q => decide (q < k) || S q) := by
  induction k with
  | zero => simp [setTrue]
  | succ k ih =>
    rw [setTrue, ih]
    apply List.ext_getElem
    · simp
    intro i h1 h2
    simp [List.getElem_set]
    rcases Nat.lt_trichotomy i k with h | h | h
    · simp [show ¬ k = i by omega, h, show i < k + 1 by omega]
    · subst h; simp
    · simp [show ¬ k = i by omega, show ¬ i < k by omega, show ¬ i < k + 1 by omega]
theorem Bd.of_ask (n k c : Int) (S : Nat → Bool) (kind : Int) (h : ∀ q, q < 8 → S q = false) : (Bd.of n k c S).askB kind = Bd.of n kind (c + 1) (fun q => decide (q < n.toNat)) := by
  have ha := (Bd.of_all n k c S).2 h
  rw [Bd.askB, if_pos ha]
  simp only [Bd.asked, Bd.of, setTrue_of]
  congr 1
  apply List.map_congr_left
  intro q hq
  simp at hq
  simp [h q hq]
theorem Bd.of_askE (n k c : Int) (S : Nat → Bool) (h : ∀ q, q < 8 → S q = false) : (Bd.of n k c S).askE = 0 := by
  rw [Bd.askE, if_pos ((Bd.of_all n k c S).2 h)]
theorem Bd.of_askNo (n k c : Int) (S : Nat → Bool) (kind : Int) (q : Nat) (hq : q < 8) (h : S q = true) : (Bd.of n k c S).askB kind = Bd.of n k c S ∧ (Bd.of n k c S).askE = 11 := by
  have ha : (Bd.of n k c S).all = false := by
    cases e : (Bd.of n k c S).all with
    | false => rfl
    | true => have := (Bd.of_all n k c S).1 e q hq; rw [h] at this; cases this
  simp [Bd.askB, Bd.askE, ha]
theorem Bd.of_pend (n k c : Int) (S : Nat → Bool) (m : Int) (h0 : 0 ≤ m) (h1 : m < n) (h8 : n ≤ 8) : (Bd.of n k c S).pend m = S m.toNat := by
  rw [Bd.pend, Bd.of_is, Bd.of_isOpen _ _ _ _ _ (by omega)]
  simp [h0, h1]
theorem Bd.of_pendK (n k c : Int) (S : Nat → Bool) (m : Int) (h0 : 0 ≤ m) (h1 : m < n) (h8 : n ≤ 8) : (Bd.of n k c S).pendK m = if S m.toNat then k else 0 := by
  rw [Bd.pendK, Bd.of_pend _ _ _ _ _ h0 h1 h8]; rfl
theorem Bd.of_close (n k c : Int) (S : Nat → Bool) (m : Int) : (Bd.of n k c S).close m = Bd.of n k c (fun q => S q && !decide (q = m.toNat)) := by
  simp only [Bd.close, Bd.of]
  congr 1
  apply List.ext_getElem
  · simp
  intro i h1 h2
  simp [List.getElem_set]
  by_cases h : m.toNat = i
  · simp [h]
  · simp [h, show ¬ i = m.toNat by omega]
theorem Bd.of_ans (n k c : Int) (S : Nat → Bool) (m : Int) (h0 : 0 ≤ m) (h1 : m < n) (h8 : n ≤ 8) :
    (Bd.of n k c S).ansE m = (if S m.toNat then 0 else 11) ∧ (Bd.of n k c S).ansB m = Bd.of n k c (fun q => S q && !decide (q = m.toNat)) := by
  have hi : (Bd.of n k c S).is m = true := by simp [Bd.of_is, h0, h1]
  have ho := Bd.of_isOpen n k c S m (by omega)
  constructor
  · rw [Bd.ansE, if_pos hi, ho]
  · rw [Bd.ansB, Bd.of_pend _ _ _ _ _ h0 h1 h8, Bd.of_close]
    split
    · rfl
    · rename_i hs
      simp only [Bd.of]
      congr 1
      apply List.map_congr_left
      intro q _
      by_cases e : q = m.toNat
      · subst e; simp at hs; simp [hs]
      · simp [e]

/-- How many are open. -/
def openN (n : Nat) (S : Nat → Bool) : Nat := ((List.range n).filter S).length
theorem openN_zero (n : Nat) (S : Nat → Bool) : openN n S = 0 ↔ ∀ q, q < n → S q = false := by
  simp [openN, List.filter_eq_nil_iff]
theorem openN_full (n : Nat) : openN n (fun q => decide (q < n)) = n := by
  unfold openN
  rw [List.filter_eq_self.2]
  · simp
  · intro q hq; simpa using hq
theorem openN_le (n : Nat) (S : Nat → Bool) : openN n S ≤ n := by
  have := List.length_filter_le S (List.range n)
  simpa [openN] using this
theorem openN_pos (n : Nat) (S : Nat → Bool) (q : Nat) (hq : q < n) (h : S q = true) : 0 < openN n S := by
  rcases Nat.eq_zero_or_pos (openN n S) with e | e
  · rw [(openN_zero n S).1 e q hq] at h; cases h
  · exact e
theorem openN_less (n : Nat) (S : Nat → Bool) (m : Nat) (hm : m < n) (h : S m = true) : openN n (fun q => S q && !decide (q = m)) + 1 = openN n S := by
  induction n with
  | zero => omega
  | succ n ih =>
    unfold openN at *
    rw [List.range_succ, List.filter_append, List.filter_append, List.length_append, List.length_append]
    by_cases e : m = n
    · subst e
      have : (List.range m).filter (fun q => S q && !decide (q = m)) = (List.range m).filter S := by
        apply List.filter_congr
        intro q hq
        simp at hq
        simp [show ¬ q = m by omega]
      rw [this]
      simp [h]
    · have e1 := ih (by omega)
      have e2 : [n].filter (fun q => S q && !decide (q = m)) = [n].filter S := by
        simp [List.filter_cons, show ¬ n = m by omega]
      rw [e2]
      omega
theorem less_same (S : Nat → Bool) (m : Nat) (h : S m = false) : (fun q => S q && !decide (q = m)) = S := by
  funext q
  by_cases e : q = m
  · subst e; simp [h]
  · simp [e]

/-- What a mutator is told and answers, by cases. -/
theorem open_cases (n : Nat) (k c : Int) (S : Nat → Bool) (m : Int) (h0 : 0 ≤ m) (h1 : m < n) (h8 : n ≤ 8) (hS : ∀ q, n ≤ q → S q = false) :
    ((Bd.of n k c S).pend m = true ∧ (Bd.of n k c S).pendK m = k ∧ (Bd.of n k c S).all = false ∧ (Bd.of n k c S).ansE m = 0 ∧ 1 ≤ openN n S ∧ openN n (fun q => S q && !decide (q = m.toNat)) = openN n S - 1) ∨
    ((Bd.of n k c S).pend m = false ∧ (Bd.of n k c S).pendK m = 0 ∧ (Bd.of n k c S).all = true ∧ (Bd.of n k c S).ansE m = 11 ∧ openN n S = 0 ∧ openN n (fun q => S q && !decide (q = m.toNat)) = openN n S) ∨
    ((Bd.of n k c S).pend m = false ∧ (Bd.of n k c S).pendK m = 0 ∧ (Bd.of n k c S).all = false ∧ (Bd.of n k c S).ansE m = 11 ∧ 1 ≤ openN n S ∧ openN n (fun q => S q && !decide (q = m.toNat)) = openN n S) := by
  have hp := Bd.of_pend n k c S m h0 h1 (by omega)
  have hpk := Bd.of_pendK n k c S m h0 h1 (by omega)
  have ha := (Bd.of_ans n k c S m h0 h1 (by omega)).1
  have hall : (Bd.of n k c S).all = decide (openN n S = 0) := by
    rw [Bool.eq_iff_iff, Bd.of_all, decide_eq_true_iff, openN_zero]
    constructor
    · intro h q hq; exact h q (by omega)
    · intro h q _
      rcases Nat.lt_or_ge q n with hl | hl
      · exact h q hl
      · exact hS q hl
  cases hs : S m.toNat with
  | true =>
    have hpos := openN_pos n S m.toNat (by omega) hs
    have hl := openN_less n S m.toNat (by omega) hs
    refine .inl ⟨by rw [hp, hs], by rw [hpk, hs]; rfl, by rw [hall]; simp; omega, by rw [ha, hs]; rfl, hpos, by omega⟩
  | false =>
    rw [less_same S m.toNat hs]
    by_cases e : openN n S = 0
    · exact .inr (.inl ⟨by rw [hp, hs], by rw [hpk, hs]; rfl, by rw [hall]; simp [e], by rw [ha, hs]; rfl, e, rfl⟩)
    · exact .inr (.inr ⟨by rw [hp, hs], by rw [hpk, hs]; rfl, by rw [hall]; simp [e], by rw [ha, hs]; rfl, by omega, rfl⟩)

end Go.Proofs.Ytcdmlinaebnbcaa
