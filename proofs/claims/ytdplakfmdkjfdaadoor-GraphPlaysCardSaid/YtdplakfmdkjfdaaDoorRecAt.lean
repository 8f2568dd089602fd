/- A slice of records of plain cells, one behind the other: what its cells hold. Of no program. -/
import Derived.Test.YtdplakfmdkjfdaaDoorArgs
namespace Go.Proofs.YtdplakfmdkjfdaaDoor
open Go.RowKit

/-- A slice of n records of sz cells each. -/
structure RecAt (w : World) (a : Option Addr) (n sz : Nat) (rs : List (List Value)) : Prop where
  len : rs.length = n
  at_ : 0 < n → ∃ b off, a = some ⟨b, off, none⟩ ∧ ∀ i r, rs[i]? = some r → ∀ j v, r[j]? = some v → w.cell? ⟨b, off + i * sz + j, none⟩ = some v
theorem RecAt.below {w w' a n sz rs} (h : RecAt w a n sz rs) (k : Keep none_ w w') : RecAt w' a n sz rs := by
  refine ⟨h.len, fun h0 => ?_⟩
  obtain ⟨b, off, e, hc⟩ := h.at_ h0
  exact ⟨b, off, e, fun i r hi j v hj => k.still (hc i r hi j v hj)⟩
theorem RecAt.ofFlats {w a n ks rs} (h : Flats ks w a n rs) : RecAt w a n ks.length rs := ⟨h.len, h.at_⟩
theorem RecAt.nil (w : World) (sz : Nat) : RecAt w none 0 sz [] := ⟨rfl, fun h => absurd h (Nat.lt_irrefl 0)⟩
/-- Rows of records that a call made. -/
theorem RecAt.ofOwn {w : World} {base n sz : Nat} {T : TypeId} {v : Value} {rs : List (List Value)} (h : w.ownsRow base T sz v n rs.flatten) (hr : ∀ r ∈ rs, r.length = sz) (hn : rs.length = n) :
    ∃ a c, v = .slice a n c ∧ RecAt w a n sz rs ∧ n ≤ c := by
  obtain ⟨hl, hf⟩ := h
  have idx : ∀ (rs : List (List Value)), (∀ r ∈ rs, r.length = sz) → ∀ i r, rs[i]? = some r → ∀ j v, r[j]? = some v → rs.flatten[i * sz + j]? = some v := by
    intro rs
    induction rs with
    | nil => intro _ i r h; simp at h
    | cons r0 rs ih =>
      intro hr i r hi j v hj
      have h0 : r0.length = sz := hr r0 (by simp)
      rw [List.flatten_cons]
      cases i with
      | zero =>
        simp at hi; subst hi
        have := (List.getElem?_eq_some_iff.1 hj).1
        rw [Nat.zero_mul, Nat.zero_add, List.getElem?_append_left (by omega)]; exact hj
      | succ i =>
        have e : (i + 1) * sz + j = r0.length + (i * sz + j) := by rw [Nat.succ_mul, h0]; omega
        rw [e, List.getElem?_append_right (by omega), Nat.add_sub_cancel_left]
        exact ih (fun r h => hr r (by simp [h])) i r (by simpa using hi) j v hj
  rcases hf with ⟨rfl, h0⟩ | ⟨g, cap, cur, rfl, _, hg, hnc, _, hs, hc⟩
  · rcases Nat.eq_zero_or_pos n with hz | hz
    · subst hz
      have : rs = [] := List.eq_nil_of_length_eq_zero hn
      subst this
      exact ⟨none, 0, rfl, RecAt.nil _ _, Nat.le_refl _⟩
    · omega
  · refine ⟨_, cap, rfl, ⟨hn, fun _ => ⟨g, 0, rfl, fun i r hi j v hj => ?_⟩⟩, hnc⟩
    have h1 := idx rs hr i r hi j v hj
    rw [← hc] at h1
    have hlt : i * sz + j < n * sz := by
      have := (List.getElem?_eq_some_iff.1 h1).1
      simp at this; omega
    have h2 : cur[i * sz + j]? = some v := by
      rw [List.getElem?_take_of_lt hlt] at h1
      simpa using h1
    simp [World.cell?, hg, h2]
end Go.Proofs.YtdplakfmdkjfdaaDoor
