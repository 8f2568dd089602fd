/- What an operation doesn't use counts nowhere. -/
import Derived.Test.YtdplakfmdkjfdaaDoorOpBare
import Derived.Test.YtdplakfmdkjfdaaDoorOpParse2
import Derived.Test.YtdplakfmdkjfdaaDoorOpAwake
namespace Go.Proofs.YtdplakfmdkjfdaaDoor
open Go.RowKit Go.Sort

/-- x is o, but for numbers that it doesn't use. -/
structure AgU (o x : OpR) : Prop where
  k : x.k = o.k
  n : ∀ j, j < (useL o.k).length → numOf x j = numOf o j
theorem chkN_ag (c : Conf) {o x : OpR} (h : AgU o x) : ∀ j, j ≤ (useL o.k).length → chkN c x j = chkN c o j
  | 0, _ => rfl
  | j + 1, hj => by
    rw [chkN, chkN, chkN_ag c h j (by omega), h.k, h.n j (by omega)]
theorem chk_ag (c : Conf) {o x : OpR} (h : AgU o x) : chk c x = chk c o := by
  unfold chk
  rw [h.k, chkN_ag c h _ (Nat.le_refl _)]
theorem lineN_ag {o x : OpR} (h : AgU o x) : ∀ j, j ≤ (useL o.k).length → lineN x j = lineN o j
  | 0, _ => by rw [lineN, lineN, h.k]
  | j + 1, hj => by
    rw [lineN, lineN, lineN_ag h j (by omega), h.n j (by omega)]
theorem lineL_ag {o x : OpR} (h : AgU o x) : lineL x = lineL o := by
  unfold lineL
  rw [h.k, lineN_ag h _ (Nat.le_refl _)]
theorem bareN_ag {o x : OpR} (h : AgU o x) : bareN x (useL o.k).length = bareN o (useL o.k).length := by
  unfold bareN
  rw [h.k]
  congr 1
  · by_cases h0 : 0 < (useL o.k).length
    · rw [if_pos h0, if_pos h0]; exact h.n 0 h0
    · rw [if_neg h0, if_neg h0]
  · by_cases h0 : 1 < (useL o.k).length
    · rw [if_pos h0, if_pos h0]; exact h.n 1 h0
    · rw [if_neg h0, if_neg h0]
  · by_cases h0 : 2 < (useL o.k).length
    · rw [if_pos h0, if_pos h0]; exact h.n 2 h0
    · rw [if_neg h0, if_neg h0]
theorem bareP_ag {o x : OpR} (h : AgU o x) : bareP x = bareP o := by
  unfold bareP
  rw [h.k, bareN_ag h]
theorem ag_bareN (o : OpR) : AgU o (bareN o (useL o.k).length) := by
  refine ⟨rfl, fun j hj => ?_⟩
  have hu := useL_len o.k
  rcases (by omega : j = 0 ∨ j = 1 ∨ j = 2) with rfl | rfl | rfl <;> simp [numOf, bareN, hj]
theorem bareP_bareP (o : OpR) : bareP (bareP o) = bareP o := by
  cases h : isKind o.k with
  | false =>
    have e : bareP o = ⟨0, 0, 0, 0⟩ := by unfold bareP; rw [h]; rfl
    rw [e]; rfl
  | true =>
    have e : bareP o = bareN o (useL o.k).length := by unfold bareP; rw [h]; rfl
    rw [e, bareP_ag (ag_bareN o), e]
theorem chk_bareP (c : Conf) (o : OpR) : chk c (bareP o) = chk c o := by
  cases h : isKind o.k with
  | false =>
    have e : bareP o = ⟨0, 0, 0, 0⟩ := by unfold bareP; rw [h]; rfl
    unfold chk
    rw [e, h]
    simp [isKind]
  | true =>
    have e : bareP o = bareN o (useL o.k).length := by unfold bareP; rw [h]; rfl
    rw [e, chk_ag c (ag_bareN o)]
end Go.Proofs.YtdplakfmdkjfdaaDoor
