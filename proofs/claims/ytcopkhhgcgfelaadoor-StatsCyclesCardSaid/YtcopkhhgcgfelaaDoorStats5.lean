/- The document's example of stats. -/
import Derived.Test.YtcopkhhgcgfelaaDoorStats4
namespace Go.Proofs.YtcopkhhgcgfelaaDoor
open Go.RowKit

def exEv : List Ev := [⟨3, 0, 2, 0, 0, 1⟩, ⟨0, 0, 5, 0, 0, 0⟩, ⟨9, 0, 4, 0, 0, 0⟩]
def exCy : Cy := ⟨1, 3, -1, 9, 1⟩
theorem ex_cyc : (cyc exEv).out = [exCy] := by rfl
theorem ex_line : lineOf exCy = [99, 121, 99, 108, 101, 32, 49, 32, 115, 116, 97, 114, 116, 32, 51, 32, 109, 97, 114, 107, 101, 100, 32, 45, 49, 32, 114, 101, 115, 116, 101, 100, 32, 57, 32, 102, 114, 101, 101, 100, 32, 49] := by decide +kernel
theorem RecAt.ofBlk {w : World} {B n sz : Nat} {T : TypeId} {rs : List (List Value)} (h : Blk w B rs.flatten T) (hr : ∀ r ∈ rs, r.length = sz) (hn : rs.length = n) : RecAt w (some ⟨B, 0, none⟩) n sz rs := by
  refine ⟨hn, fun _ => ⟨B, 0, rfl, fun i r hi j v hj => ?_⟩⟩
  have idx : ∀ (rs : List (List Value)), (∀ r ∈ rs, r.length = sz) → ∀ i r, rs[i]? = some r → ∀ j v, r[j]? = some v → rs.flatten[i * sz + j]? = some v := by
    intro rs
    induction rs with
    | nil => intro _ i r h; simp at h
    | cons r0 rs ih =>
      intro hr i r hi j v hj
      have h0 : r0.length = sz := hr r0 (by simp)
      rw [List.flatten_cons]
      cases i with
      | zero =>
        simp at hi; subst hi
        have := (List.getElem?_eq_some_iff.1 hj).1
        rw [Nat.zero_mul, Nat.zero_add, List.getElem?_append_left (by omega)]; exact hj
      | succ i =>
        have e : (i + 1) * sz + j = r0.length + (i * sz + j) := by rw [Nat.succ_mul, h0]; omega
        rw [e, List.getElem?_append_right (by omega), Nat.add_sub_cancel_left]
        exact ih (fun r h => hr r (by simp [h])) i r (by simpa using hi) j v hj
  rw [Nat.zero_add]
  exact h.cell _ (idx rs hr i r hi j v hj)

set_option maxRecDepth 100000 in
set_option maxHeartbeats 1000000 in
theorem awake26_any (w : World) (ht : Tab w) : Calls Tryd.prog 7 #[] w fun e w' => e = .returned (.bool true) ∧ Keep none_ w w' := by
  have HT := Lib.hid ht
  have HX := Lib.hid ex_line
  have HC := Lib.hid ex_cyc
  clear ht
  go_enter Tryd.func7, Tryd.ntmps7
  go_wp2_with fail
  refine (sCycles_any _ 3 _ exEv _ (RecAt.ofBlk (T := 44) (Blk.new w _ 44) (by decide) rfl) (by decide)).mono ?_
  rintro e w1 ⟨v, rfl, hrow, hk1⟩
  rw [HC.out] at hrow
  have HK1 := Lib.hid ((Keep.refl none_ w).alloc _ |>.trans hk1)
  obtain ⟨gb, cv, rfl⟩ := CyRow.last (o := []) hrow
  have hr := CyRow.row (o := []) hrow
  have c0 := hr.cellAt 0 (by decide)
  have c1 := hr.cellAt 1 (by decide)
  have c2 := hr.cellAt 2 (by decide)
  have c3 := hr.cellAt 3 (by decide)
  have c4 := hr.cellAt 4 (by decide)
  simp [exCy, Cy.cells] at c0 c1 c2 c3 c4
  clear hrow hr hk1
  go_wp2_with fail
  refine (sLine_any exCy _ ⟨rfl, rfl, rfl, rfl, rfl⟩ (HT.out.keep HK1.out)).mono ?_
  rintro e w2 ⟨rfl, hk2⟩
  rw [HX.out]
  have HK2 := Lib.hid (HK1.out.trans hk2)
  go_wp2_with fail
  go_ret
  exact ⟨rfl, HK2.out⟩
end Go.Proofs.YtcopkhhgcgfelaaDoor
