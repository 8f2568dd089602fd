/- sorted: a row of the call's own, sorted, each number once, without the zeros. -/
import Derived.Test.YtdplakfmdkjfdaaDoorDelete
import Derived.Test.YtdplakfmdkjfdaaDoorShelfSort
import Derived.Sort.OwnSortedInts
namespace Go.Proofs.YtdplakfmdkjfdaaDoor
open Go.RowKit Go.Sort

def sortL (zs : List Int) : List Int := nz (Lib.compact (zs.mergeSort fun x y => decide (x ≤ y)))
theorem compact_le (zs : List Int) : (Lib.compact zs).length ≤ zs.length := by
  unfold Lib.compact Lib.compactUpTo
  rw [List.length_map]
  refine Nat.le_trans (List.length_filter_le _ _) (by simp)
theorem sortL_le (zs : List Int) : (sortL zs).length ≤ zs.length := by
  unfold sortL nz
  refine Nat.le_trans (List.length_filter_le _ _) ?_
  have := compact_le (zs.mergeSort fun x y => decide (x ≤ y))
  rwa [List.length_mergeSort] at this

/-- A row of numbers of the call's own: its block, or none. -/
theorem own_slice {w : World} {a : Option Addr} {n c : Nat} {zs : List Int} (h : w.ownsRow 0 3 1 (.slice a n c) n (zs.map (Value.int .i64))) (h0 : 0 < n) : ∃ g cur, a = some ⟨g, 0, none⟩ ∧ w.heap[g]? = some (.cells cur 3 (0, 0)) ∧ n ≤ c ∧ c ≤ maxLen ∧ cur.size = c * 1 ∧ cur.toList.take zs.length = zs.map (Value.int .i64) := by
  obtain ⟨hl, hf⟩ := h
  rcases hf with ⟨_, h1⟩ | ⟨g, cap, cur, hv, hb, hg, hn, hm, hs, hc⟩
  · omega
  · cases hv
    have : zs.length = n := by simpa using hl
    refine ⟨g, cur, rfl, hg, hn, hm, hs, ?_⟩
    rw [this, ← hc, Nat.mul_one]
theorem keep_grownBy {w w' : World} {g : Nat} (h : w.grownBy w' (some g)) : Keep (only g) w w' := ⟨h.os, h.tape, h.output, h.size, fun k hk hn => h.block k hk (fun e => hn (by cases e; rfl))⟩

theorem sort_own (a : Option Addr) (n c : Nat) (zs : List Int) (w : World) (h : w.ownsRow 0 3 1 (.slice a n c) n (zs.map (Value.int .i64))) (hn : n ≤ 1000000) : Calls Tryd.prog 77 #[.slice a n c] w fun e w' =>
    e = .returned (.tuple #[]) ∧ w'.ownsRow 0 3 1 (.slice a n c) n ((zs.mergeSort fun x y => decide (x ≤ y)).map (Value.int .i64)) ∧ Keep (fun k => (Value.slice a n c).ownBlock = some k) w w' := by
  have hl : zs.length = n := by simpa using h.1
  rcases Nat.eq_zero_or_pos n with h0 | h0
  · subst h0
    have hz : zs = [] := List.eq_nil_of_length_eq_zero hl
    subst hz
    refine (Tryd.slices_Sort_int_none a c w).mono ?_
    rintro e w' ⟨rfl, rfl⟩
    exact ⟨rfl, by simpa using h, Keep.refl _ _⟩
  · obtain ⟨g, cur, rfl, hg, h1, h2, h3, h4⟩ := own_slice h h0
    subst hl
    refine (Tryd.slices_Sort_int g 0 c zs w (holds_of_blockI hg h4) (Array.getElem?_eq_some_iff.1 hg).1 (by omega)).mono ?_
    rintro e w' ⟨rfl, m, os, rfl⟩
    exact ⟨rfl, ownsRow_sortedI (List.length_mergeSort _) (Nat.zero_le _) hg h1 h2 h3, (keep_grownBy (grownBy_sortedI _)).mono (fun i _ h => by unfold only at h; subst h; rfl)⟩

theorem compact_own (a : Option Addr) (n c : Nat) (zs : List Int) (w : World) (h : w.ownsRow 0 3 1 (.slice a n c) n (zs.map (Value.int .i64))) (hn : n ≤ 1000000) : Calls Tryd.prog 78 #[.slice a n c] w fun e w' =>
    e = .returned (.slice a (Lib.compact zs).length c) ∧ w'.ownsRow 0 3 1 (.slice a (Lib.compact zs).length c) (Lib.compact zs).length ((Lib.compact zs).map (Value.int .i64)) ∧ Keep (fun k => (Value.slice a n c).ownBlock = some k) w w' := by
  have hl : zs.length = n := by simpa using h.1
  rcases Nat.eq_zero_or_pos n with h0 | h0
  · subst h0
    have hz : zs = [] := List.eq_nil_of_length_eq_zero hl
    subst hz
    refine (Tryd.slices_Compact_int_empty a c w).mono ?_
    rintro e w' ⟨rfl, rfl⟩
    exact ⟨rfl, h, Keep.refl _ _⟩
  · obtain ⟨g, cur, rfl, hg, h1, h2, h3, h4⟩ := own_slice h h0
    subst hl
    refine (Tryd.slices_Compact_int g 0 c zs w (holds_of_blockI hg h4) (by omega) h1).mono ?_
    rintro e w' ⟨rfl, m, rfl⟩
    have hcl := compact_le zs
    have h5 := ownsRow_sortedI (n := m) (os := #[]) (base := 0) (ss := zs) (ts := Lib.compact zs ++ List.replicate (zs.length - (Lib.compact zs).length) 0) (by simp; omega) (Nat.zero_le _) hg h1 h2 h3
    have h6 := grownBy_sortedI (w := w) (g := g) (n := m) (os := #[]) (Lib.compact zs ++ List.replicate (zs.length - (Lib.compact zs).length) 0).toArray
    rw [grow_empty] at h5 h6
    refine ⟨rfl, ?_, (keep_grownBy h6).mono (fun i _ h => by unfold only at h; subst h; rfl)⟩
    have h7 := own_prefix h5 (k := (Lib.compact zs).length) hcl
    have e : ((Lib.compact zs ++ List.replicate (zs.length - (Lib.compact zs).length) (0 : Int)).map (Value.int .i64)).take (Lib.compact zs).length = (Lib.compact zs).map (Value.int .i64) := by
      rw [← List.map_take, List.take_left]
    rw [e] at h7
    exact h7

set_option maxRecDepth 4000 in
set_option maxHeartbeats 1000000 in
theorem sorted_any (a : Option Addr) (n c : Nat) (zs : List Int) (w : World) (h : w.ownsRow 0 3 1 (.slice a n c) n (zs.map (Value.int .i64))) (hn : n ≤ 1000000) : Calls Tryd.prog 50 #[.slice a n c] w fun e w' =>
    e = .returned (.slice a (sortL zs).length c) ∧ w'.ownsRow 0 3 1 (.slice a (sortL zs).length c) (sortL zs).length ((sortL zs).map (Value.int .i64)) ∧ Keep (fun k => (Value.slice a n c).ownBlock = some k) w w' := by
  have hl : zs.length = n := by simpa using h.1
  have HS := Lib.hid (sort_own a n c zs w h hn)
  obtain ⟨ys, hys⟩ : ∃ ys, ys = zs.mergeSort fun x y => decide (x ≤ y) := ⟨_, rfl⟩
  have HYL : Hid (ys.length = n) := by rw [hys]; simpa [Hid] using hl
  unfold sortL
  rw [← hys] at HS ⊢
  obtain ⟨ds, hds⟩ : ∃ ds, ds = Lib.compact ys := ⟨_, rfl⟩
  rw [← hds]
  have HDS := Lib.hid hds
  clear hys h hl hds
  go_enter Tryd.func50, Tryd.ntmps50
  go_wp2_with fail
  refine HS.out.mono ?_
  rintro e w1 ⟨rfl, h1, hk1⟩
  have HC := Lib.hid (compact_own a n c ys w1 h1 hn)
  have HK1 := Lib.hid hk1
  have hcl := compact_le ys
  rw [← HDS.out] at HC hcl
  have hcl2 : ds.length ≤ 1000000 := by have := HYL.out; omega
  clear h1 hk1 hcl
  go_wp2_with fail
  refine HC.out.mono ?_
  rintro e w2 ⟨rfl, h2, hk2⟩
  have HD := Lib.hid (delete_any a _ c _ w2 h2 hcl2)
  have HK2 := Lib.hid (HK1.out.trans hk2)
  clear h2 hk2
  go_wp2_with fail
  refine HD.out.mono ?_
  rintro e w3 ⟨rfl, h3, hk3⟩
  go_wp2_with fail
  go_ret
  refine ⟨rfl, h3, HK2.out.trans' hk3 (fun i _ hi => ?_)⟩
  cases a with
  | none => cases hi
  | some x => exact hi
end Go.Proofs.YtdplakfmdkjfdaaDoor
