/- What Reach tells is told by what is in it; a drop never makes it more. -/
import Derived.Test.YtdplakfmdkjfdaaDoorGReach
import Derived.Test.YtdplakfmdkjfdaaDoorGPlain3
namespace Go.Proofs.YtdplakfmdkjfdaaDoor
open Go.RowKit Go.Sort

theorem strict_ext : ∀ (a b : List Int), a.Pairwise (· < ·) → b.Pairwise (· < ·) → (∀ x, x ∈ a ↔ x ∈ b) → a = b
  | [], [], _, _, _ => rfl
  | [], y :: b, _, _, h => absurd ((h y).2 (by simp)) (by simp)
  | x :: a, [], _, _, h => absurd ((h x).1 (by simp)) (by simp)
  | x :: a, y :: b, ha, hb, h => by
    have ha' := List.pairwise_cons.1 ha
    have hb' := List.pairwise_cons.1 hb
    have e : x = y := by
      have h1 : x = y ∨ x ∈ b := by simpa using (h x).1 (by simp)
      have h2 : y = x ∨ y ∈ a := by simpa using (h y).2 (by simp)
      rcases h1 with h1 | h1
      · exact h1
      · rcases h2 with h2 | h2
        · exact h2.symm
        · have := hb'.1 x h1
          have := ha'.1 y h2
          omega
    subst e
    have : a = b := strict_ext a b ha'.2 hb'.2 (fun z => by
      constructor
      · intro hz
        have h1 : z = x ∨ z ∈ b := by simpa using (h z).1 (by simp [hz])
        rcases h1 with h1 | h1
        · have := ha'.1 z hz
          omega
        · exact h1
      · intro hz
        have h1 : z = x ∨ z ∈ a := by simpa using (h z).2 (by simp [hz])
        rcases h1 with h1 | h1
        · have := hb'.1 z hz
          omega
        · exact h1)
    rw [this]

theorem compact_strict {zs : List Int} (h : zs.Pairwise (· ≤ ·)) : (Lib.compact zs).Pairwise (· < ·) := by
  unfold Lib.compact Lib.compactUpTo
  rw [List.pairwise_map]
  have hr : (List.range zs.length).Pairwise (· < ·) := List.pairwise_lt_range
  refine List.Pairwise.imp_of_mem ?_ (hr.filter (Lib.keeps zs.toArray))
  intro i j hi hj hij
  have hjl := List.mem_range.1 (List.mem_filter.1 hj).1
  have hkj := (List.mem_filter.1 hj).2
  have hil : i < zs.length := by omega
  have hle : ∀ p q : Nat, (hp : p < zs.length) → (hq : q < zs.length) → p ≤ q → zs[p] ≤ zs[q] := by
    intro p q hp hq hpq
    rcases Nat.lt_or_ge p q with h1 | h1
    · exact List.pairwise_iff_getElem.1 h p q hp hq h1
    · have : p = q := by omega
      subst this
      exact Int.le_refl _
  rw [getElem!_pos zs.toArray i (by simpa using hil), getElem!_pos zs.toArray j (by simpa using hjl)]
  unfold Lib.keeps at hkj
  simp only [decide_eq_true_eq] at hkj
  rcases hkj with h0 | hne
  · omega
  · rw [getElem!_pos zs.toArray j (by simpa using hjl), getElem!_pos zs.toArray (j - 1) (by simp; omega)] at hne
    have h1 := hle i (j - 1) hil (by omega) (by omega)
    have h2 := hle (j - 1) j (by omega) hjl (by omega)
    simp only [List.getElem_toArray] at hne ⊢
    omega
theorem sortL_strict (zs : List Int) : (sortL zs).Pairwise (· < ·) := by
  unfold sortL nz
  refine List.Pairwise.filter _ (compact_strict ?_)
  have h := List.pairwise_mergeSort (le := fun x y : Int => decide (x ≤ y)) (fun a b c h1 h2 => by simp at h1 h2 ⊢; omega) (fun a b => by simp; omega) zs
  exact h.imp (fun h => by simpa using h)

/-- A row that tells what is reached. -/
structure IsReach (m : Nat) (R : List (List Int)) (L : List Int) : Prop where
  srt : L.Pairwise (· < ·)
  mem : ∀ x, x ∈ L ↔ RC m R x
  len : L.length ≤ 1001
theorem IsReach.eq {m : Nat} {R : List (List Int)} {L L' : List Int} (h : IsReach m R L) (h' : IsReach m R L') : L = L' := strict_ext L L' h.srt h'.srt (fun x => (h.mem x).trans (h'.mem x).symm)

theorem greach_any {F : Nat → Prop} {B : Nat} {c : Conf} {m : Nat} {R : List (List Int)} {w : World} (hg : GSt F B c m R w) (hm : m ≤ 1000) (hR : R.length ≤ 1000) : Calls Tryd.prog 24 #[.pointer (some ⟨B, 0, none⟩)] w fun e w' =>
    ∃ (a : Option Addr) (cap : Nat) (L : List Int), e = .returned (.slice a L.length cap) ∧ IntCells .i64 w' a L.length L ∧ IsReach m R L ∧ (∀ b off, a = some ⟨b, off, none⟩ → w.heap.size ≤ b) ∧ Keep none_ w w' := by
  refine (reach_any hg hm hR).mono ?_
  rintro e w' ⟨a, cap, O, he, hc, hmem, hl, hab, hk⟩
  exact ⟨a, cap, sortL O, he, hc, ⟨sortL_strict O, hmem, Nat.le_trans (sortL_le O) hl⟩, hab, hk⟩

theorem IntCells.keepS {k : IntKind} {w w' : World} {a : Option Addr} {n : Nat} {zs : List Int} {S : Nat → Prop} (h : IntCells k w a n zs) (hk : Keep S w w') (hs : ∀ b off, a = some ⟨b, off, none⟩ → b < w.heap.size → ¬ S b) : IntCells k w' a n zs := by
  refine ⟨h.len, fun h0 => ?_⟩
  obtain ⟨b, off, e, hc⟩ := h.at_ h0
  exact ⟨b, off, e, fun j hj => hk.cellv (hc j hj) (hs b off e (World.block_lt_of_cell? _ _ (hc j hj)))⟩

theorem mem_roots {m : Nat} {R : List (List Int)} {x : Int} : ∀ k, k ≤ R.length → (x ∈ rootsAll m R k ↔ x ∈ R.getD m [] ∨ ∃ (i : Nat) (zs : List Int), i < k ∧ R[i]? = some zs ∧ x ∈ zs)
  | 0, _ => by simp [rootsAll]
  | k + 1, hk => by
    have h1 : R[k]? = some R[k] := List.getElem?_eq_getElem (by omega)
    rw [rootsAll_succ h1, List.mem_append, mem_roots k (by omega)]
    constructor
    · rintro ((h | ⟨i, zs, hi, hz, hx⟩) | h)
      · exact .inl h
      · exact .inr ⟨i, zs, by omega, hz, hx⟩
      · exact .inr ⟨k, _, by omega, h1, h⟩
    · rintro (h | ⟨i, zs, hi, hz, hx⟩)
      · exact .inl (.inl h)
      · rcases Nat.lt_or_ge i k with h2 | h2
        · exact .inl (.inr ⟨i, zs, h2, hz, hx⟩)
        · obtain rfl : i = k := by omega
          rw [h1] at hz
          injection hz with hz
          exact .inr (by rw [hz]; exact hx)

theorem fld_row {m : Nat} {R R' : List (List Int)} (hl : R'.length = R.length) (h : ∀ i, m < i → R'[i]? = R[i]?) (id : Int) : fldP m R' id = fldP m R id := by
  unfold fldP cntP
  rw [hl]
  split
  · rfl
  · rename_i h1
    rw [List.getD_eq_getElem?_getD, List.getD_eq_getElem?_getD, h (m + id.toNat) (by omega)]

theorem reach_drop {c : Conf} {m : Nat} {R : List (List Int)} (hg : Good c m R) (mi a : Int) {x : Int} (h : RC m (gDoP c m R mi ⟨6, a, 0, 0⟩).1 x) : RC m R x := by
  have hml := hg.lt
  cases doCase hg mi ⟨6, a, 0, 0⟩ with
  | err e he h' => rw [h'] at h; exact h
  | alloc k' a b zs hm hk' hz ho ha hal hb h' => simp at ho
  | put k' a q zs hm hk' hz ho ha hal hq h' => simp at ho
  | store k' a r f p q zs fs hm hk' hz ho ha hal hr hrl hf hfl hp hfs hq hq2 h' => simp at ho
  | cell k' a q cs hm hk' hz ho hq h' => simp at ho
  | safe ho h' => simp at ho
  | drop k' a' zs hm hk' hz ho h' =>
    rw [h'] at h
    simp only at h
    have hr : ∀ y, y ≠ 0 → y ∈ rootsAll m (R.set k' (zs.set a' ((0 : Nat) : Int))) m → y ∈ rootsAll m R m := by
      intro y hy hy2
      rw [mem_roots m (by simp; omega)] at hy2
      rw [mem_roots m (by omega)]
      rcases hy2 with hy2 | ⟨i, ys, hi, hys, hyy⟩
      · refine .inl ?_
        rw [List.getD_eq_getElem?_getD, List.getElem?_set_ne (by omega), ← List.getD_eq_getElem?_getD] at hy2
        exact hy2
      · by_cases e : k' = i
        · subst e
          rw [List.getElem?_set_self (by omega)] at hys
          injection hys with hys
          rw [← hys] at hyy
          rcases List.mem_or_eq_of_mem_set hyy with h1 | h1
          · exact .inr ⟨k', zs, hi, hz, h1⟩
          · exact absurd h1 hy
        · rw [List.getElem?_set_ne e] at hys
          exact .inr ⟨i, ys, hi, hys, hyy⟩
    have hf : ∀ id, fldP m (R.set k' (zs.set a' ((0 : Nat) : Int))) id = fldP m R id := fld_row (by simp) (fun i hi => by rw [List.getElem?_set_ne (by omega)])
    induction h with
    | root h1 h0 => exact .root (hr _ h0 h1) h0
    | step _ h1 h0 ih => rw [hf] at h1; exact .step ih h1 h0
end Go.Proofs.YtdplakfmdkjfdaaDoor
