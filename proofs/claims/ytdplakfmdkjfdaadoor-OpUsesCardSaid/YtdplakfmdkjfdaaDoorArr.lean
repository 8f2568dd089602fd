/- An array of plain cells as an argument. Of no program. -/
import Derived.Test.YtdplakfmdkjfdaaDoorArgs
namespace Go.Proofs.YtdplakfmdkjfdaaDoor
open Go.ChangeShapes Go.WideShapes Go.RowKit
variable {H : Type} {enc : TypeId × Value → H} {P : Program} {w : World} {base : Nat} {spare : Nat → Bool} {held : Bool}
theorem okWide_array {r : Reach} {b0 : Nat} {t e : TypeId} {n : Nat} {v : Value} (ht : P.underlying t = some (.array n e)) (h : Value.okWide P w r b0 t v) : ∃ cs, v = .agg cs ∧ cs.size = P.cellsOf t := by
  simp only [Value.okWide, ht] at h
  obtain ⟨cs, h1, h2, _⟩ := h
  exact ⟨cs, h1, h2⟩
theorem flat_arr {r : Reach} {b0 m n : Nat} {t e : TypeId} {v : Value} {d : DataW H} {p : List MemPlace} {ks : List Leaf} (hs : P.underlying t = some (.array n e)) (hk : flat P m t = some ks)
    (hv : Value.okWide P w r b0 t v) (h : DataW.Trod enc P w base spare held t v d p) : ∃ cs, v = .agg cs.toArray ∧ FlatOk ks cs := by
  obtain ⟨cs, rfl, _⟩ := okWide_array hs hv
  obtain ⟨fuel, hf⟩ := h
  exact ⟨cs.toList, by simp, flat_ok m fuel t _ _ ks hf hk⟩
theorem FlatOk.two {k k' : IntKind} {cs : List Value} (h : FlatOk [.int k, .int k'] cs) : ∃ x y, cs = [.int k x, .int k' y] ∧ (Lit.int k x).wf = true ∧ (Lit.int k' y).wf = true := by
  obtain ⟨v, h1, x, rfl, hx⟩ := h.at_ 0 _ rfl
  obtain ⟨v', h2, y, rfl, hy⟩ := h.at_ 1 _ rfl
  have hl := h.len
  match cs, hl with
  | [a, b], _ =>
    simp at h1 h2
    exact ⟨x, y, by rw [h1, h2], hx, hy⟩
end Go.Proofs.YtdplakfmdkjfdaaDoor
