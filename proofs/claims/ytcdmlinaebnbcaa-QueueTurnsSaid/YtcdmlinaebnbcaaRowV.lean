/- A slice value and the cells that it shows, in a block of one element type; a cut of it. Of no program. -/
import Derived.Test.YtcdmlinaebnbcaaMem
import Derived.Test.YtcdmlinaebnbcaaArgs
import Derived.Test.YtcdmlinaebnbcaaGrow
import Derived.WalkKit
namespace Go.Proofs.Ytcdmlinaebnbcaa
open Go.RowKit

/-- v is a slice whose elements are xs; where there are any, they lie in a block of element type T. -/
def RowV (w : World) (T : TypeId) (v : Value) (xs : List Value) : Prop :=
  ∃ a c, v = .slice a xs.length c ∧ xs.length ≤ c ∧ c ≤ 4000000000000 ∧ (0 < xs.length → ∃ b off cs, a = some ⟨b, off, none⟩ ∧ Blk w b cs T ∧ ∀ j, j < xs.length → cs[off + j]? = xs[j]?)

theorem RowV.nil (w : World) (T : TypeId) : RowV w T (.slice none 0 0) [] := ⟨none, 0, rfl, Nat.le_refl _, by omega, fun h => absurd h (Nat.lt_irrefl 0)⟩
theorem RowV.keep {S : Nat → Prop} {w w' : World} {T : TypeId} {v : Value} {xs : List Value} (h : RowV w T v xs) (k : Keep S w w') (hs : ∀ b cs, Blk w b cs T → ¬ S b) : RowV w' T v xs := by
  obtain ⟨a, c, rfl, hl, hm, hc⟩ := h
  refine ⟨a, c, rfl, hl, hm, fun h0 => ?_⟩
  obtain ⟨b, off, cs, e, hb, hj⟩ := hc h0
  exact ⟨b, off, cs, e, k.blk hb (hs b cs hb), hj⟩
/-- Writes into a block of another element type. -/
theorem RowV.only {w w' : World} {T T' : TypeId} {v : Value} {xs : List Value} {B : Nat} {ds : List Value} (h : RowV w T v xs) (k : Keep (only B) w w') (hB : Blk w B ds T') (hne : T ≠ T') : RowV w' T v xs :=
  h.keep k (fun b cs hb e => by unfold Go.Proofs.Ytcdmlinaebnbcaa.only at e; subst e; exact hne (hb.uniq hB).2)
theorem RowV.still {w w' : World} {T : TypeId} {v : Value} {xs : List Value} (h : RowV w T v xs) (k : Keep none_ w w') : RowV w' T v xs := h.keep k (fun _ _ _ f => f)
theorem RowV.cells {w : World} {T : TypeId} {a : Option Addr} {n c : Nat} {xs : List Value} (h : RowV w T (.slice a n c) xs) : n = xs.length ∧ n ≤ c ∧ c ≤ 4000000000000 ∧ (0 < n → ∃ b off, a = some ⟨b, off, none⟩ ∧ ∀ j v, xs[j]? = some v → w.cell? ⟨b, off + j, none⟩ = some v) := by
  obtain ⟨a', c', e, hl, hm, hc⟩ := h
  simp at e
  obtain ⟨rfl, rfl, rfl⟩ := e
  refine ⟨rfl, hl, hm, fun h0 => ?_⟩
  obtain ⟨b, off, cs, rfl, hb, hj⟩ := hc h0
  refine ⟨b, off, rfl, fun j v hv => hb.cell _ ?_⟩
  rw [hj j (List.getElem?_eq_some_iff.1 hv).1, hv]
/-- A row that the call made. -/
theorem RowV.ofOwn {w : World} {base n : Nat} {T : TypeId} {v : Value} {xs : List Value} (h : w.ownsRow base T 1 v n xs) (hm : ∀ a n c, v = .slice a n c → c ≤ 4000000000000) : RowV w T v xs := by
  obtain ⟨hl, hf⟩ := h
  rcases hf with ⟨rfl, rfl⟩ | ⟨g, cap, cur, rfl, _, hg, hn, _, hs, hc⟩
  · have : xs = [] := List.eq_nil_of_length_eq_zero (by simpa using hl)
    subst this
    exact RowV.nil _ _
  · have hnl : n = xs.length := by simpa using hl.symm
    subst hnl
    refine ⟨_, cap, rfl, hn, hm _ _ _ rfl, fun _ => ⟨g, 0, cur.toList, rfl, by unfold Blk; simpa using hg, fun j hj => ?_⟩⟩
    rw [← hc]
    simp [hj]

/-- A whole block, as a slice. -/
theorem RowV.ofBlk {w : World} {B : Nat} {T : TypeId} {xs : List Value} (h : Blk w B xs T) {n : Nat} (hn : n = xs.length) (hm : n ≤ 4000000000000) : RowV w T (.slice (some ⟨B, 0, none⟩) n n) xs := by
  subst hn
  exact ⟨_, _, rfl, Nat.le_refl _, hm, fun _ => ⟨B, 0, xs, rfl, h, fun j _ => by rw [Nat.zero_add]⟩⟩

/-- The address of a cut 's[k:]'. -/
def cutA (a : Option Addr) (c k : Nat) : Option Addr := if c = k then a else a.map (·.add k)
theorem run_cut {P : Program} {T e : TypeId} (ht : P.underlying T = some (.slice e)) (hi : (P.info? e).map (·.size) = some 1) (a : Option Addr) (n c k : Nat) (hk : k ≤ n) (w : World) :
    (Instr.slice T (.slice a n c) (some (.int .i64 (k : Int))) none none).run P w = .ok (.slice (cutA a c k) (n - k) (c - k)) w := by
  obtain ⟨i, hi1, hi2⟩ := Option.map_eq_some_iff.1 hi
  have hnk : ¬ n < k := by omega
  simp [Instr.slice, run_underlying ht, sizeOf, typeInfo, hi1, hi2, cutA, go_sem]
  exact fun h => absurd h hnk
theorem RowV.cut {w : World} {T : TypeId} {a : Option Addr} {n c : Nat} {xs : List Value} (h : RowV w T (.slice a n c) xs) (k : Nat) (hk : k ≤ n) : RowV w T (.slice (cutA a c k) (n - k) (c - k)) (xs.drop k) := by
  obtain ⟨a', c', e, hl, hm, hc⟩ := h
  simp at e
  obtain ⟨rfl, rfl, rfl⟩ := e
  refine ⟨cutA a c k, c - k, by simp, by simp; omega, by omega, fun h0 => ?_⟩
  simp at h0
  obtain ⟨b, off, cs, rfl, hb, hj⟩ := hc (by omega)
  refine ⟨b, off + k, cs, ?_, hb, fun j hjl => ?_⟩
  · unfold cutA
    rw [if_neg (by omega)]
    simp [Addr.add]
  · simp at hjl
    rw [Nat.add_assoc, hj (k + j) (by omega), List.getElem?_drop]
end Go.Proofs.Ytcdmlinaebnbcaa
