/- What is reached, without a program. -/
import Derived.Test.YtdplakfmdkjfdaaDoorGRoots
namespace Go.Proofs.YtdplakfmdkjfdaaDoor
open Go.RowKit Go.Sort

theorem mem_nz {zs : List Int} {x : Int} : x ∈ nz zs ↔ x ∈ zs ∧ x ≠ 0 := by
  unfold nz
  simp
theorem mem_compact {zs : List Int} {x : Int} : x ∈ Lib.compact zs ↔ x ∈ zs := by
  unfold Lib.compact Lib.compactUpTo
  constructor
  · intro h
    obtain ⟨j, hj, rfl⟩ := List.mem_map.1 h
    have hj2 := List.mem_range.1 (List.mem_filter.1 hj).1
    rw [getElem!_pos zs.toArray j (by simpa using hj2)]
    simp
  · intro h
    obtain ⟨j, hj⟩ := List.mem_iff_getElem?.1 h
    have key : ∀ (n j : Nat), j ≤ n → zs[j]? = some x → ∃ i, zs[i]? = some x ∧ (i = 0 ∨ zs[i - 1]? ≠ some x) := by
      intro n
      induction n with
      | zero => intro j hj h; exact ⟨j, h, .inl (by omega)⟩
      | succ n ih =>
        intro j hj h
        by_cases h0 : j = 0
        · exact ⟨j, h, .inl h0⟩
        · by_cases h1 : zs[j - 1]? = some x
          · exact ih (j - 1) (by omega) h1
          · exact ⟨j, h, .inr h1⟩
    obtain ⟨i, hi, hk⟩ := key j j (Nat.le_refl _) hj
    have hil := (List.getElem?_eq_some_iff.1 hi).1
    have hie : zs[i] = x := (List.getElem?_eq_some_iff.1 hi).2
    refine List.mem_map.2 ⟨i, List.mem_filter.2 ⟨List.mem_range.2 hil, ?_⟩, ?_⟩
    · unfold Lib.keeps
      rcases hk with rfl | hk
      · simp
      · have h1 : i - 1 < zs.length := by omega
        have h2 : zs.toArray[i]! = x := by rw [getElem!_pos zs.toArray i (by simpa using hil)]; simpa using hie
        have h3 : zs.toArray[i - 1]! ≠ x := by
          rw [getElem!_pos zs.toArray (i - 1) (by simpa using h1)]
          intro e
          exact hk (by rw [List.getElem?_eq_getElem h1]; simpa using e)
        rw [h2]
        simp only [decide_eq_true_eq]
        exact .inr (fun e => h3 e.symm)
    · rw [getElem!_pos zs.toArray i (by simpa using hil)]
      simpa using hie
theorem mem_sortL {zs : List Int} {x : Int} : x ∈ sortL zs ↔ x ∈ zs ∧ x ≠ 0 := by
  unfold sortL
  rw [mem_nz, mem_compact, List.mem_mergeSort]

inductive RC (m : Nat) (R : List (List Int)) : Int → Prop
  | root {x : Int} : x ∈ rootsAll m R m → x ≠ 0 → RC m R x
  | step {i x : Int} : RC m R i → x ∈ fldP m R i → x ≠ 0 → RC m R x
theorem RC.nz {m : Nat} {R : List (List Int)} {x : Int} (h : RC m R x) : x ≠ 0 := by
  cases h with
  | root _ h => exact h
  | step _ _ h => exact h

section
variable {c : Conf} {m : Nat} {R : List (List Int)}
theorem good_val (h : Good c m R) {i : Nat} {zs : List Int} (hz : R[i]? = some zs) {x : Int} (hx : x ∈ zs) : ∃ q : Nat, x = q ∧ q ≤ cntP m R := by
  obtain ⟨j, hj⟩ := List.mem_iff_getElem?.1 hx
  have hjl := (List.getElem?_eq_some_iff.1 hj).1
  obtain ⟨q, h1, h2⟩ := h.val i zs j hz hjl
  refine ⟨q, ?_, h2⟩
  rw [← h1, List.getD_eq_getElem?_getD, hj]; rfl
theorem good_roots (h : Good c m R) : ∀ k, k ≤ m → ∀ x ∈ rootsAll m R k, ∃ q : Nat, x = q ∧ q ≤ cntP m R
  | 0, _, x, hx => by
    have hml := h.lt
    have h1 : R[m]? = some R[m] := List.getElem?_eq_getElem hml
    simp only [rootsAll, List.take_zero, List.flatten_nil, List.append_nil, getD_some h1] at hx
    exact good_val h h1 hx
  | k + 1, hk, x, hx => by
    have hml := h.lt
    have h1 : R[k]? = some R[k] := List.getElem?_eq_getElem (by omega)
    rw [rootsAll_succ h1] at hx
    rcases List.mem_append.1 hx with hx | hx
    · exact good_roots h k (by omega) x hx
    · exact good_val h h1 hx
theorem good_fld (h : Good c m R) {i x : Int} (hx : x ∈ fldP m R i) : ∃ q : Nat, x = q ∧ q ≤ cntP m R := by
  unfold fldP at hx
  split at hx
  · cases hx
  · by_cases h2 : m + i.toNat < R.length
    · have h1 : R[m + i.toNat]? = some R[m + i.toNat] := List.getElem?_eq_getElem h2
      rw [getD_some h1] at hx
      exact good_val h h1 hx
    · rw [List.getD_eq_getElem?_getD, List.getElem?_eq_none (by omega)] at hx
      cases hx

/-- The search's state: what is to do, what has been seen. -/
structure RI (m : Nat) (R : List (List Int)) (T O : List Int) (S : List Bool) : Prop where
  lenS : S.length = cntP m R + 1
  rng : ∀ x ∈ T, ∃ q : Nat, x = q ∧ q ≤ cntP m R
  rcT : ∀ x ∈ T, x ≠ 0 → RC m R x
  rcO : ∀ x ∈ O, RC m R x
  seen : ∀ q : Nat, S[q]? = some true ↔ (q : Int) ∈ O
  roots : ∀ x ∈ rootsAll m R m, x ≠ 0 → x ∈ O ∨ x ∈ T
  closed : ∀ i ∈ O, ∀ x ∈ fldP m R i, x ≠ 0 → x ∈ O ∨ x ∈ T
  cnt : O.length + S.count false = cntP m R + 1
  size : T.length + 101 * S.count false ≤ 100 + m * 100 + 101 * (cntP m R + 1)

theorem RI.start (h : Good c m R) : RI m R (rootsL m R) [] (List.replicate (cntP m R + 1) false) := by
  refine ⟨by simp, fun x hx => ?_, fun x hx h0 => ?_, fun x hx => (by cases hx), fun q => ?_, fun x hx h0 => .inr ?_, fun i hi => (by cases hi), by simp, ?_⟩
  · exact good_roots h m (Nat.le_refl _) x (mem_sortL.1 hx).1
  · exact .root (mem_sortL.1 hx).1 h0
  · constructor
    · intro h1
      have := List.eq_of_mem_replicate (List.mem_of_getElem? h1)
      cases this
    · intro h1; cases h1
  · exact mem_sortL.2 ⟨hx, h0⟩
  · have h1 := sortL_le (rootsAll m R m)
    have h2 := rootsAll_len h m (Nat.le_refl _)
    unfold rootsL
    simp
    omega

theorem RI.skip {T : List Int} {x : Int} {O : List Int} {S : List Bool} (h : RI m R (T ++ [x]) O S) (hx : x = 0 ∨ x ∈ O) : RI m R T O S := by
  have key : ∀ y, y ≠ 0 → (y ∈ O ∨ y ∈ T ++ [x]) → y ∈ O ∨ y ∈ T := by
    intro y hy h1
    rcases h1 with h1 | h1
    · exact .inl h1
    · rcases List.mem_append.1 h1 with h1 | h1
      · exact .inr h1
      · simp at h1
        subst h1
        rcases hx with h2 | h2
        · exact absurd h2 hy
        · exact .inl h2
  have hsz := h.size
  simp at hsz
  exact ⟨h.lenS, fun y hy => h.rng y (by simp [hy]), fun y hy => h.rcT y (by simp [hy]), h.rcO, h.seen, fun y hy h0 => key y h0 (h.roots y hy h0), fun i hi y hy h0 => key y h0 (h.closed i hi y hy h0), h.cnt, by omega⟩

theorem RI.take (hg : Good c m R) {T : List Int} {q : Nat} {O : List Int} {S : List Bool} (h : RI m R (T ++ [(q : Int)]) O S) (hq : q ≠ 0) (hs : S[q]? = some false) :
    RI m R (T ++ fldP m R (q : Int)) (O ++ [(q : Int)]) (S.set q true) ∧ (T ++ fldP m R (q : Int)).length + 101 * (S.set q true).count false < (T ++ [(q : Int)]).length + 101 * S.count false := by
  have hql := (List.getElem?_eq_some_iff.1 hs).1
  have hqe : S[q] = false := (List.getElem?_eq_some_iff.1 hs).2
  have hcs : (S.set q true).count false + 1 = S.count false := by
    have h1 : 0 < S.count false := List.count_pos_iff.2 (by rw [← hqe]; exact List.getElem_mem hql)
    rw [List.count_set hql, hqe]
    simp
    omega
  have hfl := fld_len hg (q : Int)
  have hrc : RC m R (q : Int) := h.rcT _ (by simp) (by omega)
  have hsz := h.size
  have hcn := h.cnt
  simp at hsz
  have key : ∀ y, (y ∈ O ∨ y ∈ T ++ [(q : Int)]) → y ∈ O ++ [(q : Int)] ∨ y ∈ T ++ fldP m R (q : Int) := by
    intro y h1
    rcases h1 with h1 | h1
    · exact .inl (by simp [h1])
    · rcases List.mem_append.1 h1 with h1 | h1
      · exact .inr (by simp [h1])
      · exact .inl (by simp at h1; simp [h1])
  refine ⟨⟨by simpa using h.lenS, fun y hy => ?_, fun y hy h0 => ?_, fun y hy => ?_, fun k => ?_, fun y hy h0 => key y (h.roots y hy h0), fun i hi y hy h0 => ?_, by simp; omega, by simp; omega⟩, by simp; omega⟩
  · rcases List.mem_append.1 hy with hy | hy
    · exact h.rng y (by simp [hy])
    · exact good_fld hg hy
  · rcases List.mem_append.1 hy with hy | hy
    · exact h.rcT y (by simp [hy]) h0
    · exact .step hrc hy h0
  · rcases List.mem_append.1 hy with hy | hy
    · exact h.rcO y hy
    · simp at hy; rw [hy]; exact hrc
  · by_cases e : q = k
    · subst e
      rw [List.getElem?_set_self hql]
      simp
    · rw [List.getElem?_set_ne e, h.seen k]
      simp
      omega
  · rcases List.mem_append.1 hi with hi | hi
    · exact key y (h.closed i hi y hy h0)
    · simp at hi
      rw [hi] at hy
      exact .inr (by simp [hy])

theorem RI.done {O : List Int} {S : List Bool} (h : RI m R [] O S) (x : Int) : x ∈ O ↔ RC m R x := by
  constructor
  · exact h.rcO x
  · intro hx
    induction hx with
    | root h1 h0 => rcases h.roots _ h1 h0 with h2 | h2; exact h2; cases h2
    | step _ h1 h0 ih => rcases h.closed _ ih _ h1 h0 with h2 | h2; exact h2; cases h2
end
end Go.Proofs.YtdplakfmdkjfdaaDoor
