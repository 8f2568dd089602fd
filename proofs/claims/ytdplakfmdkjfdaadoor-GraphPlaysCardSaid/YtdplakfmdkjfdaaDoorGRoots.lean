/- Roots: what registers and cells have. -/
import Derived.Test.YtdplakfmdkjfdaaDoorSorted
import Derived.Test.YtdplakfmdkjfdaaDoorAppAt
import Derived.Laws.OwnMore
namespace Go.Proofs.YtdplakfmdkjfdaaDoor
open Go.RowKit Go.Sort
attribute [local go_sem ↓] app9_of

def rootsAll (m : Nat) (R : List (List Int)) (k : Nat) : List Int := R.getD m [] ++ (R.take k).flatten
def rootsL (m : Nat) (R : List (List Int)) : List Int := sortL (rootsAll m R m)

theorem good_cells {c : Conf} {m : Nat} {R : List (List Int)} (h : Good c m R) : (R.getD m []).length ≤ 100 := by
  rw [getD_some (List.getElem?_eq_getElem h.lt)]
  exact h.sz _ _ (List.getElem?_eq_getElem h.lt)
theorem rootsAll_succ {m k : Nat} {R : List (List Int)} {zs : List Int} (h : R[k]? = some zs) : rootsAll m R (k + 1) = rootsAll m R k ++ zs := by
  have hk := (List.getElem?_eq_some_iff.1 h).1
  have he : R[k] = zs := (List.getElem?_eq_some_iff.1 h).2
  unfold rootsAll
  rw [List.take_succ_eq_append_getElem hk, he]
  simp
theorem rootsAll_len {c : Conf} {m : Nat} {R : List (List Int)} (h : Good c m R) : ∀ k, k ≤ m → (rootsAll m R k).length ≤ 100 + k * 100
  | 0, _ => by have := good_cells h; simp [rootsAll]; simpa using this
  | k + 1, hk => by
    have hml := h.lt
    have h1 : R[k]? = some R[k] := List.getElem?_eq_getElem (by omega)
    rw [rootsAll_succ h1, List.length_append]
    have h2 := rootsAll_len h k (by omega)
    have h3 := h.sz _ _ h1
    rw [Nat.succ_mul]
    omega

set_option maxRecDepth 4000 in
set_option maxHeartbeats 4000000 in
theorem roots_any {F : Nat → Prop} {B : Nat} {c : Conf} {m : Nat} {R : List (List Int)} {w : World} (hg : GSt F B c m R w) (hm : m ≤ 1000) : Calls Tryd.prog 27 #[.pointer (some ⟨B, 0, none⟩)] w fun e w' =>
    ∃ v, e = .returned v ∧ w'.ownsRow w.heap.size 3 1 v (rootsL m R).length ((rootsL m R).map (Value.int .i64)) ∧ Keep none_ w w' := by
  obtain ⟨⟨vs, vr, vc, vo, h⟩, hgood⟩ := hg
  obtain ⟨cs, hcs⟩ : ∃ cs, R[m]? = some cs := ⟨_, List.getElem?_eq_getElem h.lt⟩
  have hgd := getD_some hcs
  have ho := h.row m vc cs h.mid hcs
  have hcl := hgood.sz _ _ hcs
  have HC := Lib.hid (clone_row ho (by omega))
  have cB8 : w.cell? ⟨B, 8, none⟩ = some vc := h.blk.cell 8 rfl
  have hB7 := h.blk.cell 7 rfl
  obtain ⟨ar, capr, rfl⟩ := h.nregs
  have HRL := Lib.hid (rootsAll_len hgood)
  have HLT := Lib.hid hgood.lt
  have HH := Lib.hid h
  have HG := Lib.hid hgood
  have HGD := Lib.hid hgd
  have HB7 := Lib.hid hB7
  clear h hgood ho hcl hgd hcs hB7
  go_enter Tryd.func27, Tryd.ntmps27
  go_wp2_with fail
  refine HC.out.mono ?_
  rintro e w1 ⟨v1, rfl, ho1, hn1, hk1⟩
  have HK1 := Lib.hid hk1
  have HO1 : Hid (w1.ownsRow w.heap.size 3 1 v1 (rootsAll m R 0).length ((rootsAll m R 0).map (Value.int .i64))) := by
    have e : rootsAll m R 0 = cs := by unfold rootsAll; rw [HGD.out]; simp
    rw [e]
    exact own_high ho1 hn1
  have cB7 := HK1.out.still HB7.out
  clear ho1 hn1 hk1 HC cB8
  go_wp2_with fail
  go_loopg [3, 18] m (fun g v i wr => ∃ (k : Nat) (u : Value), g + k = m ∧ i = .int .i64 k ∧ v = u ∧ Hid (wr.ownsRow w.heap.size 3 1 u (rootsAll m R k).length ((rootsAll m R k).map (Value.int .i64))) ∧ Hid (Keep none_ w wr))
  case atStart => exact ⟨0, _, by omega, rfl, rfl, HO1, HK1⟩
  case round =>
    clear HO1 HK1 cB7
    obtain ⟨k, u, hgk, rfl, hu, HO, HK⟩ := hrel
    subst hu
    by_cases hlt : k < m
    · obtain ⟨x, hx, -⟩ := HH.out.rowAt k (by have := HLT.out; omega)
      obtain ⟨zs, hzs⟩ : ∃ zs, R[k]? = some zs := ⟨_, List.getElem?_eq_getElem (by have := HLT.out; omega)⟩
      obtain ⟨gr, capr', e, cR⟩ := HH.out.reg hlt hx
      cases e
      have cRk := HK.out.still cR
      have hrow := own_still (HH.out.row k x zs hx hzs) HK.out
      have hzl := HG.out.sz _ _ hzs
      have hrl := HRL.out k (by omega)
      obtain ⟨v2, w2, hrun, ho2, hgr⟩ := app_own HO.out hrow (by omega) HK.out.size
      have hk2 := keep_grown hgr HK.out (own_above HO.out)
      rw [← List.map_append, ← rootsAll_succ hzs] at ho2
      have e9 : (rootsAll m R k).length + zs.length = (rootsAll m R (k + 1)).length := by rw [rootsAll_succ hzs]; simp
      rw [e9] at ho2
      have HO2 := Lib.hid ho2
      have HK2 := Lib.hid hk2
      have hkI : (k : Int) < (m : Int) := by omega
      have hk0 : (0 : Int) ≤ (k : Int) := by omega
      clear cR hrow hzl hrl ho2 hgr hk2 e9 hzs hx
      go_wp2_with fail
      go_roundg (gk - 1)
      case measure => omega
      case rel => exact ⟨k + 1, _, by omega, by go_num, rfl, HO2, HK2⟩
    · obtain rfl : k = m := by omega
      have HO' := HO.out
      obtain ⟨aa, cap, rfl, _⟩ := own_form (own_low HO' (Nat.zero_le _))
      have HSO := Lib.hid (sorted_any aa _ cap (rootsAll k R k) wr (own_low HO' (Nat.zero_le _)) (by have := HRL.out k (Nat.le_refl _); omega))
      have HAB := Lib.hid (own_above HO')
      clear HO'
      go_wp2_with fail
      refine HSO.out.mono ?_
      rintro e w2 ⟨rfl, ho2, hk2⟩
      go_wp2_with fail
      go_ret
      refine ⟨_, rfl, own_high ho2 (fun b hb => HAB.out b (by cases aa with | none => cases hb | some x => exact hb)), ?_⟩
      exact HK.out.trans' hk2 (fun i hi he => by have := HAB.out i he; omega)
end Go.Proofs.YtdplakfmdkjfdaaDoor
