/- A slice value and the cells that it shows, in a block of one element type; a cut of it. Of no program. -/
import Derived.Test.YtkjplkkjdlanhaaGreatDoorMem
import Derived.Test.YtkjplkkjdlanhaaGreatDoorArgs
import Derived.Test.YtkjplkkjdlanhaaGreatDoorGrow
import Derived.WalkKit
namespace Go.Proofs.YtkjplkkjdlanhaaGreatDoor
open Go.RowKit

/-- v is a slice whose elements are xs; where there are any, they lie in a block of element type T. -/
def RowV (w : World) (T : TypeId) (v : Value) (xs : List Value) : Prop :=
  ∃ a c, v = .slice a xs.length c ∧ xs.length ≤ c ∧ xs.length ≤ 4000000000000 ∧ (0 < xs.length → ∃ b off cs, a = some ⟨b, off, none⟩ ∧ Blk w b cs T ∧ ∀ j, j < xs.length → cs[off + j]? = xs[j]?)

theorem RowV.nil (w : World) (T : TypeId) : RowV w T (.slice none 0 0) [] := ⟨none, 0, rfl, Nat.le_refl _, by simp, fun h => absurd h (Nat.lt_irrefl 0)⟩
theorem RowV.keep {S : Nat → Prop} {w w' : World} {T : TypeId} {v : Value} {xs : List Value} (h : RowV w T v xs) (k : Keep S w w') (hs : ∀ b cs, Blk w b cs T → ¬ S b) : RowV w' T v xs := by
  obtain ⟨a, c, rfl, hl, hm, hc⟩ := h
  refine ⟨a, c, rfl, hl, hm, fun h0 => ?_⟩
  obtain ⟨b, off, cs, e, hb, hj⟩ := hc h0
  exact ⟨b, off, cs, e, k.blk hb (hs b cs hb), hj⟩
/-- Writes into a block of another element type. -/
theorem RowV.only {w w' : World} {T T' : TypeId} {v : Value} {xs : List Value} {B : Nat} {ds : List Value} (h : RowV w T v xs) (k : Keep (only B) w w') (hB : Blk w B ds T') (hne : T ≠ T') : RowV w' T v xs :=
  h.keep k (fun b cs hb e => by unfold Go.Proofs.YtkjplkkjdlanhaaGreatDoor.only at e; subst e; exact hne (hb.uniq hB).2)
theorem RowV.still {w w' : World} {T : TypeId} {v : Value} {xs : List Value} (h : RowV w T v xs) (k : Keep none_ w w') : RowV w' T v xs := h.keep k (fun _ _ _ f => f)
theorem RowV.cells {w : World} {T : TypeId} {a : Option Addr} {n c : Nat} {xs : List Value} (h : RowV w T (.slice a n c) xs) : n = xs.length ∧ n ≤ c ∧ n ≤ 4000000000000 ∧ (0 < n → ∃ b off, a = some ⟨b, off, none⟩ ∧ ∀ j v, xs[j]? = some v → w.cell? ⟨b, off + j, none⟩ = some v) := by
  obtain ⟨a', c', e, hl, hm, hc⟩ := h
  simp at e
  obtain ⟨rfl, rfl, rfl⟩ := e
  refine ⟨rfl, hl, hm, fun h0 => ?_⟩
  obtain ⟨b, off, cs, rfl, hb, hj⟩ := hc h0
  refine ⟨b, off, rfl, fun j v hv => hb.cell _ ?_⟩
  rw [hj j (List.getElem?_eq_some_iff.1 hv).1, hv]
/-- A row that the call made. -/
theorem RowV.ofOwn {w : World} {base n : Nat} {T : TypeId} {v : Value} {xs : List Value} (h : w.ownsRow base T 1 v n xs) (hm : n ≤ 4000000000000) : RowV w T v xs := by
  obtain ⟨hl, hf⟩ := h
  rcases hf with ⟨rfl, rfl⟩ | ⟨g, cap, cur, rfl, _, hg, hn, _, hs, hc⟩
  · have : xs = [] := List.eq_nil_of_length_eq_zero (by simpa using hl)
    subst this
    exact RowV.nil _ _
  · have hnl : n = xs.length := by simpa using hl.symm
    subst hnl
    refine ⟨_, cap, rfl, hn, hm, fun _ => ⟨g, 0, cur.toList, rfl, by unfold Blk; simpa using hg, fun j hj => ?_⟩⟩
    rw [← hc]
    simp [hj]

/-- A whole block, as a slice. -/
theorem RowV.ofBlk {w : World} {B : Nat} {T : TypeId} {xs : List Value} (h : Blk w B xs T) {n : Nat} (hn : n = xs.length) (hm : n ≤ 4000000000000) : RowV w T (.slice (some ⟨B, 0, none⟩) n n) xs := by
  subst hn
  exact ⟨_, _, rfl, Nat.le_refl _, hm, fun _ => ⟨B, 0, xs, rfl, h, fun j _ => by rw [Nat.zero_add]⟩⟩

/-- The address of a cut 's[k:]'. -/
def cutA (a : Option Addr) (c k : Nat) : Option Addr := if c = k then a else a.map (·.add k)
theorem run_cut {P : Program} {T e : TypeId} (ht : P.underlying T = some (.slice e)) (hi : (P.info? e).map (·.size) = some 1) (a : Option Addr) (n c k : Nat) (hk : k ≤ n) (w : World) :
    (Instr.slice T (.slice a n c) (some (.int .i64 (k : Int))) none none).run P w = .ok (.slice (cutA a c k) (n - k) (c - k)) w := by
  obtain ⟨i, hi1, hi2⟩ := Option.map_eq_some_iff.1 hi
  have hnk : ¬ n < k := by omega
  simp [Instr.slice, run_underlying ht, sizeOf, typeInfo, hi1, hi2, cutA, go_sem]
  exact fun h => absurd h hnk
theorem RowV.cut {w : World} {T : TypeId} {a : Option Addr} {n c : Nat} {xs : List Value} (h : RowV w T (.slice a n c) xs) (k : Nat) (hk : k ≤ n) : RowV w T (.slice (cutA a c k) (n - k) (c - k)) (xs.drop k) := by
  obtain ⟨a', c', e, hl, hm, hc⟩ := h
  simp at e
  obtain ⟨rfl, rfl, rfl⟩ := e
  refine ⟨cutA a c k, c - k, by simp, by simp; omega, by simp; omega, fun h0 => ?_⟩
  simp at h0
  obtain ⟨b, off, cs, rfl, hb, hj⟩ := hc (by omega)
  refine ⟨b, off + k, cs, ?_, hb, fun j hjl => ?_⟩
  · unfold cutA
    rw [if_neg (by omega)]
    simp [Addr.add]
  · simp at hjl
    rw [Nat.add_assoc, hj (k + j) (by omega), List.getElem?_drop]
/-! Cells, whatever block they lie in -/
def Cells (w : World) (a : Option Addr) (n : Nat) (xs : List Value) : Prop :=
  xs.length = n ∧ (0 < n → ∃ b off, a = some ⟨b, off, none⟩ ∧ ∀ j v, xs[j]? = some v → w.cell? ⟨b, off + j, none⟩ = some v)
theorem RowV.toCells {w : World} {T : TypeId} {a : Option Addr} {n c : Nat} {xs : List Value} (h : RowV w T (.slice a n c) xs) : Cells w a n xs := ⟨h.cells.1.symm, h.cells.2.2.2⟩
theorem IntCells.toCells {k : IntKind} {w : World} {a : Option Addr} {n : Nat} {zs : List Int} (h : IntCells k w a n zs) : Cells w a n (zs.map (Value.int k)) := by
  refine ⟨by simp [h.len], fun h0 => ?_⟩
  obtain ⟨b, off, e, hc⟩ := h.at_ h0
  refine ⟨b, off, e, fun j v hj => ?_⟩
  have hl := (List.getElem?_eq_some_iff.1 hj).1
  simp at hl
  rw [hc j (by rw [← h.len]; exact hl)]
  rw [List.getElem?_map, List.getElem?_eq_getElem hl] at hj
  simp at hj
  subst hj
  simp [hl]
theorem run_cut2 {P : Program} {T e : TypeId} (ht : P.underlying T = some (.slice e)) (hi : (P.info? e).map (·.size) = some 1) (a : Option Addr) (n c : Nat) (lo hi' : Int) (h0 : 0 ≤ lo) (hk : lo ≤ hi') (hc : hi' ≤ c) (w : World) :
    (Instr.slice T (.slice a n c) (some (.int .i64 lo)) (some (.int .i64 hi')) none).run P w = .ok (.slice (cutA a c lo.toNat) (hi'.toNat - lo.toNat) (c - lo.toNat)) w := by
  obtain ⟨i, hi1, hi2⟩ := Option.map_eq_some_iff.1 hi
  have h1 : 0 ≤ hi' := by omega
  have h2 : (hi'.toNat : Int) = hi' := by omega
  have hb2 : (Instr.sliceBound (.int .i64 hi') c .sliceAcap).run P w = .ok hi'.toNat w := run_sliceBound (P := P) (w := w) .i64 hi' c .sliceAcap h1 hc
  have hb1 : (Instr.sliceBound (.int .i64 lo) hi'.toNat .sliceB).run P w = .ok lo.toNat w := run_sliceBound (P := P) (w := w) .i64 lo hi'.toNat .sliceB h0 (by omega)
  simp [Instr.slice, run_underlying ht, sizeOf, typeInfo, hi1, hi2, cutA, Instr.sliceBounds, hb1, hb2, Sem.run_bind, Result.andThen]
theorem IntCells.cut2 {k : IntKind} {w : World} {a : Option Addr} {n c : Nat} {zs : List Int} (h : IntCells k w a n zs) (lo m : Nat) (hk : lo + m ≤ n) (hc : n ≤ c) : IntCells k w (cutA a c lo) m ((zs.drop lo).take m) := by
  have hl := h.len
  refine ⟨by simp; omega, fun h0 => ?_⟩
  obtain ⟨b, off, rfl, hcell⟩ := h.at_ (by omega)
  refine ⟨b, off + lo, ?_, fun j hj => ?_⟩
  · unfold cutA
    rw [if_neg (by omega)]
    simp [Addr.add]
  · rw [Nat.add_assoc, hcell (lo + j) (by omega)]
    simp [hj]
theorem IntCells.ofOwn' {k : IntKind} {w : World} {base : Nat} {T : TypeId} {v : Value} {n : Nat} {zs : List Int} (h : w.ownsRow base T 1 v n (zs.map (Value.int k))) : ∃ a c, v = .slice a n c ∧ IntCells k w a n zs ∧ n ≤ c := by
  obtain ⟨hl, hf⟩ := h
  rcases hf with ⟨rfl, rfl⟩ | ⟨g, cap, cur, rfl, _, hg, hn, _, hs, hc⟩
  · exact ⟨none, 0, rfl, ⟨by simpa using hl, fun h => absurd h (Nat.lt_irrefl 0)⟩, Nat.le_refl _⟩
  · refine ⟨_, cap, rfl, ⟨by simpa using hl, fun _ => ⟨g, 0, rfl, fun j hj => ?_⟩⟩, hn⟩
    have e : cur[j]? = some (.int k (zs.getD j 0)) := by
      have h1 : (cur.toList.take (n * 1))[j]? = cur[j]? := by simp [hj]
      rw [← h1, hc]
      have hj2 : j < zs.length := by simp at hl; omega
      simp [hj2]
    simp [World.cell?, hg, e]
end Go.Proofs.YtkjplkkjdlanhaaGreatDoor
