/- What Count, Reg, Cell and Fields tell of a graph. -/
import Derived.Test.YtkjplkkjdlanhaaGreatDoorDoAny
import Derived.Test.YtkjplkkjdlanhaaGreatDoorClone
namespace Go.Proofs.YtkjplkkjdlanhaaGreatDoor
open Go.RowKit Go.Sort

def regP (m : Nat) (R : List (List Int)) (mi r : Int) : Int := if mi < 0 ∨ (m : Int) ≤ mi ∨ r < 0 ∨ ((R.getD mi.toNat []).length : Int) ≤ r then 0 else rdn R mi.toNat r.toNat
def cellP (m : Nat) (R : List (List Int)) (i : Int) : Int := if i < 0 ∨ ((R.getD m []).length : Int) ≤ i then 0 else rdn R m i.toNat
def cntP (m : Nat) (R : List (List Int)) : Nat := R.length - (m + 1)
def fldP (m : Nat) (R : List (List Int)) (id : Int) : List Int := if id < 1 ∨ (cntP m R : Int) < id then [] else R.getD (m + id.toNat) []

section
variable {F : Nat → Prop} {B : Nat} {c : Conf} {m : Nat} {vs : List Value} {vr vc vo : Value} {R : List (List Int)} {w : World}

theorem GRep.nobjs (h : GRep F B c m vs vr vc vo R w) : ∃ a cap, vo = .slice a (cntP m R) cap := by
  obtain ⟨a, cap, e, _⟩ := own_form h.objs
  exact ⟨a, cap, e⟩

set_option maxRecDepth 4000 in
set_option maxHeartbeats 1000000 in
theorem count_any (h : GRep F B c m vs vr vc vo R w) : Calls Tryz.prog 35 #[.pointer (some ⟨B, 0, none⟩)] w fun e w' => e = .returned (.int .i64 (cntP m R : Int)) ∧ w' = w := by
  obtain ⟨a, cap, rfl⟩ := h.nobjs
  have cB : w.cell? ⟨B, 9, none⟩ = some (.slice a (cntP m R) cap) := h.blk.cell 9 rfl
  clear h
  go_enter Tryz.func35, Tryz.ntmps35
  go_wp2_with fail
  go_ret
  exact ⟨rfl, rfl⟩

set_option maxRecDepth 4000 in
set_option maxHeartbeats 1000000 in
theorem reg_any (h : GRep F B c m vs vr vc vo R w) (mi r : Int) : Calls Tryz.prog 30 #[.pointer (some ⟨B, 0, none⟩), .int .i64 mi, .int .i64 r] w fun e w' => e = .returned (.int .i64 (regP m R mi r)) ∧ w' = w := by
  obtain ⟨ar, capr, hvr⟩ := h.nregs
  have cB : w.cell? ⟨B, 7, none⟩ = some (.slice ar m capr) := by rw [← hvr]; exact h.blk.cell 7 rfl
  by_cases h1 : mi < 0
  · have HE : Hid (regP m R mi r = 0) := by unfold Hid regP; exact if_pos (.inl h1)
    have d1 : decide (mi < 0) = true := decide_eq_true h1
    clear h h1
    go_enter Tryz.func30, Tryz.ntmps30
    go_wp2_with fail
    go_ret
    exact ⟨by rw [HE.out]; rfl, rfl⟩
  by_cases h2 : (m : Int) ≤ mi
  · have HE : Hid (regP m R mi r = 0) := by unfold Hid regP; exact if_pos (.inr (.inl h2))
    have d1 : decide (mi < 0) = false := decide_eq_false h1
    have d2 : decide ((m : Int) ≤ mi) = true := decide_eq_true h2
    clear h h1 h2
    go_enter Tryz.func30, Tryz.ntmps30
    go_wp2_with fail
    go_ret
    exact ⟨by rw [HE.out]; rfl, rfl⟩
  by_cases h3 : r < 0
  · have HE : Hid (regP m R mi r = 0) := by unfold Hid regP; exact if_pos (.inr (.inr (.inl h3)))
    have d1 : decide (mi < 0) = false := decide_eq_false h1
    have d2 : decide ((m : Int) ≤ mi) = false := decide_eq_false h2
    have d3 : decide (r < 0) = true := decide_eq_true h3
    clear h h1 h2 h3
    go_enter Tryz.func30, Tryz.ntmps30
    go_wp2_with fail
    go_ret
    exact ⟨by rw [HE.out]; rfl, rfl⟩
  obtain ⟨k, rfl⟩ : ∃ k : Nat, mi = k := ⟨mi.toNat, by omega⟩
  obtain ⟨j, rfl⟩ : ∃ j : Nat, r = j := ⟨r.toNat, by omega⟩
  have hk : k < m := by omega
  have hkR : k < R.length := by have := h.lt; omega
  obtain ⟨v, hv, -⟩ := h.rowAt k hkR
  obtain ⟨zs, hz⟩ : ∃ zs, R[k]? = some zs := ⟨_, List.getElem?_eq_getElem hkR⟩
  obtain ⟨gr, capr', e, cR⟩ := h.reg hk hv
  rw [hvr] at e
  injection e with e1 _ e2
  subst e1 e2
  have hgd := getD_some hz
  have d1 : decide ((k : Int) < 0) = false := decide_eq_false h1
  have d2 : decide (m ≤ k) = false := decide_eq_false (by omega)
  have d2' : ¬ (m ≤ k) := by omega
  have d3 : decide ((j : Int) < 0) = false := decide_eq_false h3
  have hkz : (k : Int) < (m : Int) := by omega
  by_cases h4 : (zs.length : Int) ≤ (j : Int)
  · have HE : Hid (regP m R k j = 0) := by unfold Hid regP; rw [Int.toNat_natCast, hgd]; exact if_pos (.inr (.inr (.inr h4)))
    obtain ⟨av, cv, rfl, _⟩ := own_form (h.row k v zs hv hz)
    have d4 : decide (zs.length ≤ j) = true := decide_eq_true (by omega)
    clear h h1 h2 h3 h4 hgd hz hv hvr
    go_enter Tryz.func30, Tryz.ntmps30
    go_wp2_with fail
    go_ret
    exact ⟨by rw [HE.out]; rfl, rfl⟩
  · have hj : j < zs.length := by omega
    have HE : Hid (regP m R k j = zs.getD j 0) := by
      unfold Hid regP
      rw [Int.toNat_natCast, Int.toNat_natCast, hgd, rdn_some hz]
      exact if_neg (by omega)
    obtain ⟨g, cap, rfl, hn, _, hc⟩ := h.open_ hv hz (by omega)
    have cj := (hc j hj).1
    rw [HE.out]
    generalize zs.getD j 0 = x at *
    have d4 : decide (zs.length ≤ j) = false := decide_eq_false (by omega)
    have d4' : ¬ (zs.length ≤ j) := by omega
    have hjz : (j : Int) < (zs.length : Int) := by omega
    clear h h1 h2 h3 h4 hgd hz hv hvr hc hn HE
    go_enter Tryz.func30, Tryz.ntmps30
    go_wp2_with fail
    go_ret
    exact ⟨rfl, rfl⟩

set_option maxRecDepth 4000 in
set_option maxHeartbeats 1000000 in
theorem cell_any (h : GRep F B c m vs vr vc vo R w) (i : Int) : Calls Tryz.prog 33 #[.pointer (some ⟨B, 0, none⟩), .int .i64 i] w fun e w' => e = .returned (.int .i64 (cellP m R i)) ∧ w' = w := by
  obtain ⟨cs, hcs⟩ : ∃ cs, R[m]? = some cs := ⟨_, List.getElem?_eq_getElem h.lt⟩
  have hgd := getD_some hcs
  obtain ⟨av, cv, rfl, _⟩ := own_form (h.row m vc cs h.mid hcs)
  have cB : w.cell? ⟨B, 8, none⟩ = some (.slice av cs.length cv) := h.blk.cell 8 rfl
  by_cases h1 : i < 0
  · have HE : Hid (cellP m R i = 0) := by unfold Hid cellP; exact if_pos (.inl h1)
    have d1 : decide (i < 0) = true := decide_eq_true h1
    clear h h1 hgd hcs
    go_enter Tryz.func33, Tryz.ntmps33
    go_wp2_with fail
    go_ret
    exact ⟨by rw [HE.out]; rfl, rfl⟩
  obtain ⟨j, rfl⟩ : ∃ j : Nat, i = j := ⟨i.toNat, by omega⟩
  have d1 : decide ((j : Int) < 0) = false := decide_eq_false h1
  by_cases h4 : (cs.length : Int) ≤ (j : Int)
  · have HE : Hid (cellP m R j = 0) := by unfold Hid cellP; rw [hgd]; exact if_pos (.inr h4)
    have d4 : decide (cs.length ≤ j) = true := decide_eq_true (by omega)
    clear h h1 h4 hgd hcs
    go_enter Tryz.func33, Tryz.ntmps33
    go_wp2_with fail
    go_ret
    exact ⟨by rw [HE.out]; rfl, rfl⟩
  · have hj : j < cs.length := by omega
    have HE : Hid (cellP m R j = cs.getD j 0) := by
      unfold Hid cellP
      rw [Int.toNat_natCast, hgd, rdn_some hcs]
      exact if_neg (by omega)
    obtain ⟨g, cap, e, hn, _, hc⟩ := h.open_ h.mid hcs (by omega)
    injection e with e1 _ e2
    subst e1 e2
    have cj := (hc j hj).1
    rw [HE.out]
    generalize cs.getD j 0 = x at *
    have d4 : decide (cs.length ≤ j) = false := decide_eq_false (by omega)
    have d4' : ¬ (cs.length ≤ j) := by omega
    have hjz : (j : Int) < (cs.length : Int) := by omega
    clear h h1 h4 hgd hcs hc hn HE
    go_enter Tryz.func33, Tryz.ntmps33
    go_wp2_with fail
    go_ret
    exact ⟨rfl, rfl⟩
end
end Go.Proofs.YtkjplkkjdlanhaaGreatDoor
