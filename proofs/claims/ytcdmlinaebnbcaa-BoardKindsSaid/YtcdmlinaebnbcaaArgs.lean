/- What a law's walk is told of its arguments: a slice of integers that came in. Of no program. -/
import Derived.Test.YtcdmlinaebnbcaaMem
import Derived.OpenShut
import Derived.WalkKit
namespace Go.Proofs.Ytcdmlinaebnbcaa
open Go.RowKit

/-- A slice of n integers of kind k: what its elements' cells hold. -/
structure Ints (k : IntKind) (w : World) (a : Option Addr) (n : Nat) (zs : List Int) : Prop where
  len : zs.length = n
  at_ : 0 < n → ∃ b off, a = some ⟨b, off, none⟩ ∧ ∀ j, j < n → w.cell? ⟨b, off + j, none⟩ = some (.int k (zs.getD j 0))
  wf : ∀ z ∈ zs, (Lit.int k z).wf = true

theorem Ints.nil (k : IntKind) (w : World) : Ints k w none 0 [] := ⟨rfl, fun h => absurd h (Nat.lt_irrefl 0), fun _ h => by cases h⟩
theorem Ints.ofRow {k : IntKind} {w : World} {x : Addr} {len cap : Nat} {zs : List Int} (hl : len ≤ cap) (hz : zs.length = cap)
    (hc : ∀ i, i < zs.length → w.cell? (x.add i) = some (.int k (zs.getD i 0))) (hw : ∀ n ∈ zs, (Lit.int k n).wf = true) : Ints k w (some x) len (zs.take len) := by
  refine ⟨by simp; omega, fun h0 => ?_, fun z h => hw z (List.mem_of_mem_take h)⟩
  obtain ⟨b, off, rfl, h⟩ := ints_at hc (by omega)
  refine ⟨b, off, rfl, fun j hj => ?_⟩
  rw [h j (by omega)]
  simp [List.getD_eq_getElem?_getD, hj]
/-- The cells, in a later world. -/
theorem Ints.below {k : IntKind} {w w' : World} {a : Option Addr} {n : Nat} {zs : List Int} (h : Ints k w a n zs) (hb : Keep none_ w w') : Ints k w' a n zs := by
  refine ⟨h.len, fun h0 => ?_, h.wf⟩
  obtain ⟨b, off, e, hc⟩ := h.at_ h0
  exact ⟨b, off, e, fun j hj => by rw [hb.cell (World.block_lt_of_cell? _ _ (hc j hj)) (fun f => f)]; exact hc j hj⟩
theorem Ints.bound {k : IntKind} {w : World} {a : Option Addr} {n : Nat} {zs : List Int} (h : Ints k w a n zs) (j : Nat) (hj : j < n) : (Lit.int k (zs.getD j 0)).wf = true := by
  have hl := h.len
  have : zs.getD j 0 ∈ zs := by
    rw [List.getD_eq_getElem?_getD, List.getElem?_eq_getElem (by omega)]
    exact List.getElem_mem _
  exact h.wf _ this
end Go.Proofs.Ytcdmlinaebnbcaa
