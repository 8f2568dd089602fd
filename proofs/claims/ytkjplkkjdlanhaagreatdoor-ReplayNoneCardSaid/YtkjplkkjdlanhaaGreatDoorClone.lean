/- What slices.Clone makes of a slice of ints. -/
import Derived.Test.YtkjplkkjdlanhaaGreatDoorRows
import Derived.Test.YtkjplkkjdlanhaaGreatDoorRowV
import Derived.Lib.SliceRun
import Derived.Lib.Hide
namespace Go.Proofs.YtkjplkkjdlanhaaGreatDoor
open Go.RowKit

theorem Tryz.infoI : (Tryz.prog.info? 3).map (fun i => (i.zero, i.size, i.bytes)) = some (some (.int .i64 0), 1, 8) := by kernel_rfl

set_option maxRecDepth 10000 in
set_option maxHeartbeats 400000 in
theorem cloneI_cells (a : Option Addr) (n c : Nat) (xs : List Value) (w : World) (h : Cells w a n xs) (hnil : a = none → c = 0) (hm : n ≤ 4000000000000) (h1 : ∀ u ∈ xs, u.oneCell' = true) :
    Calls Tryz.prog 43 #[.slice a n c] w fun e w' => ∃ v', e = .returned v' ∧ w'.ownsRow w.heap.size 3 1 v' n xs ∧ Keep none_ w w' := by
  obtain ⟨rfl, hc⟩ := h
  cases a with
  | none =>
    have h0 : xs = [] := by
      cases xs with
      | nil => rfl
      | cons x xs => obtain ⟨b, off, e, _⟩ := hc (by simp); cases e
    subst h0
    obtain rfl := hnil rfl
    simp only [List.length_nil]
    clear hc hm hnil h1
    have hn := fun w => Lib.run_eql_slice_nil (P := Tryz.prog) w 46 3 none 0 0 0 0 Tryz.underlying46
    go_enter Tryz.func43, Tryz.ntmps43
    go_wp2
    go_ret
    exact ⟨_, rfl, World.ownsRow_nil _ _ _ _, Keep.refl _ _⟩
  | some ad =>
    have hn := fun w => Lib.run_eql_slice_nil (P := Tryz.prog) w 46 3 (some ad) xs.length c 0 0 Tryz.underlying46
    obtain ⟨i0, hi1, hi2, hi3, hi4⟩ := info_parts Tryz.infoI
    have hw0 : ∀ w : World, (w.alloc (.cells #[] 3)).ownsRow w.heap.size 3 1 (.slice (some ⟨w.heap.size, 0, none⟩) 0 0) 0 [] := fun w => World.ownsRow_made w #[] 0 (Nat.le_refl _) (by decide) rfl
    have hcell : ∀ (j : Nat) (u : Value), xs[j]? = some u → (w.alloc (.cells #[] 3)).cell? (ad.add j) = some u := fun j u hj => by
      have hjl := (List.getElem?_eq_some_iff.1 hj).1
      obtain ⟨b, off, e, hx⟩ := hc (by omega)
      injection e with e
      subst e
      have hcl := hx j u hj
      have ea : (⟨b, off, none⟩ : Addr).add j = ⟨b, off + j, none⟩ := by simp only [Addr.add]; split <;> simp_all
      rw [ea, World.cell?_alloc_lt _ _ _ (World.block_lt_of_cell? _ _ hcl)]
      exact hcl
    have HC := Lib.hid hcell
    have HU := Lib.hid h1
    clear hcell hc h1
    go_enter Tryz.func43, Tryz.ntmps43
    go_wp2_with (at_builtin; refine wpList_append_own _ rfl _ _ 46 rfl w.heap.size 3 i0 (.int .i64 0) 1 8 Tryz.underlying46 hi1 hi2 hi3 hi4 rfl (by decide) _ _ _ rfl (hw0 w) ad xs.length c xs rfl (by simp) HC.out HU.out (by unfold maxLen; omega) (by omega) (by simp) ?_; intro v' w1 hown hgr _)
    have hown' : w1.ownsRow w.heap.size 3 1 v' xs.length xs := by simpa using hown
    have hkeep : Keep none_ w w1 := ((Keep.refl none_ w).alloc _).grown hgr (fun k e hk => absurd hk (by have e' : w.heap.size = k := Option.some.inj e; omega))
    clear hown hgr
    go_wp2
    go_ret
    exact ⟨_, rfl, hown', hkeep⟩

end Go.Proofs.YtkjplkkjdlanhaaGreatDoor
