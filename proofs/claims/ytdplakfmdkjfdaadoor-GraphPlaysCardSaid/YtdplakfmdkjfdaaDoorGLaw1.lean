/- What Fields tells of a graph; the law's example. -/
import Derived.Test.YtdplakfmdkjfdaaDoorGCopy2
import Derived.Test.YtdplakfmdkjfdaaDoorGPlain2
namespace Go.Proofs.YtdplakfmdkjfdaaDoor
open Go.RowKit Go.Sort

set_option maxRecDepth 4000 in
set_option maxHeartbeats 1000000 in
theorem fields_any {F : Nat → Prop} {B : Nat} {c : Conf} {m : Nat} {vs : List Value} {vr vc vo : Value} {R : List (List Int)} {w : World} (h : GRep F B c m vs vr vc vo R w) (hR : R.length ≤ 1000) (hrow : ∀ zs ∈ R, zs.length ≤ 1000000) (id : Int) :
    Calls Tryd.prog 20 #[.pointer (some ⟨B, 0, none⟩), .int .i64 id] w fun e w' => ∃ v', e = .returned v' ∧ w'.ownsRow 0 3 1 v' (fldP m R id).length ((fldP m R id).map (Value.int .i64)) ∧ Keep none_ w w' := by
  have HCNT := Lib.hid (count_any h)
  by_cases h1 : id < 1
  · have HE : Hid (fldP m R id = []) := by unfold Hid fldP; exact if_pos (.inl h1)
    have d1 : decide (id < 1) = true := decide_eq_true h1
    clear h h1 hrow hR
    go_enter Tryd.func20, Tryd.ntmps20
    go_wp2_with fail
    go_ret
    exact ⟨_, rfl, by rw [HE.out]; exact World.ownsRow_nil _ _ _ _, Keep.refl _ _⟩
  have d1 : decide (id < 1) = false := decide_eq_false h1
  by_cases h2 : (cntP m R : Int) < id
  · have HE : Hid (fldP m R id = []) := by unfold Hid fldP; exact if_pos (.inr h2)
    have d2 : decide ((cntP m R : Int) < id) = true := decide_eq_true h2
    clear h h1 h2 hrow hR
    generalize cntP m R = n at *
    go_enter Tryd.func20, Tryd.ntmps20
    go_wp2_with (go_at_call 21; refine HCNT.out.mono ?_; rintro e w1 ⟨rfl, rfl⟩)
    go_ret
    exact ⟨_, rfl, by rw [HE.out]; exact World.ownsRow_nil _ _ _ _, Keep.refl _ _⟩
  · have d2 : decide ((cntP m R : Int) < id) = false := decide_eq_false h2
    obtain ⟨q, rfl⟩ : ∃ q : Nat, id = (q : Int) + 1 := ⟨(id - 1).toNat, by omega⟩
    have hq : q < cntP m R := by omega
    have hqR : m + 1 + q < R.length := by unfold cntP at hq; omega
    obtain ⟨v, hv, -⟩ := h.rowAt (m + 1 + q) hqR
    obtain ⟨fs, hf⟩ : ∃ fs, R[m + 1 + q]? = some fs := ⟨_, List.getElem?_eq_getElem hqR⟩
    have ho := h.row _ v fs hv hf
    obtain ⟨go, capo, hvo, _, co⟩ := h.obj hv
    have HE : Hid (fldP m R ((q : Int) + 1) = fs) := by
      unfold Hid fldP
      rw [if_neg (by omega)]
      have e : m + ((q : Int) + 1).toNat = m + 1 + q := by omega
      rw [e]; exact getD_some hf
    rw [HE.out]
    have HC := Lib.hid (clone_row ho (hrow fs (List.mem_of_getElem? hf)))
    have cB : w.cell? ⟨B, 9, none⟩ = some (.slice (some ⟨go, 0, none⟩) (cntP m R) capo) := by have := h.blk.cell 9 rfl; rw [hvo] at this; exact this
    have hqz : (q : Int) < (cntP m R : Int) := by omega
    have hq6 : (q : Int) < 1000 := by unfold cntP at hqz; omega
    clear h h1 h2 hrow hR hq hqR hv hf ho hvo HE
    generalize cntP m R = n at *
    go_enter Tryd.func20, Tryd.ntmps20
    go_wp2_with (first
      | (go_at_call 21; refine HCNT.out.mono ?_; rintro e w1 ⟨rfl, rfl⟩)
      | (go_at_call 48; refine HC.out.mono ?_; rintro e w1 ⟨v', rfl, ho1, hn1, hk1⟩))
    go_ret
    exact ⟨_, rfl, ho1, hk1⟩

def cfg0 : Conf := ⟨1, 16, 1, 2, 0, 1, 1⟩

set_option maxRecDepth 4000 in
set_option maxHeartbeats 4000000 in
theorem awake18_any (w : World) (hT : Tabs w) : Calls Tryd.prog 15 #[] w fun e w' => e = .returned (.bool true) ∧ Keep none_ w w' := by
  have HT := Lib.hid hT
  clear hT
  have HN := Lib.hid (new_any cfg0 w HT.out (by decide) 1 2 0 rfl rfl rfl)
  have g0 : Good cfg0 1 (rows0 1 2 0) := Good.rows0 (m := 1) rfl rfl (by decide) (by decide)
  have e1 : gDoP cfg0 1 (rows0 1 2 0) 0 ⟨1, 0, 1, 0⟩ = ([[1, 0], [], [0]], 1, 0) := by decide
  have e2 : gDoP cfg0 1 [[1, 0], [], [0]] 0 ⟨3, 0, 0, 0⟩ = ([[1, 0], [], [1]], 0, 0) := by decide
  have e3 : gDoP cfg0 1 [[1, 0], [], [1]] 0 ⟨2, 1, 0, 0⟩ = ([[1, 1], [], [1]], 1, 0) := by decide
  have g1 := (g0.do_ 0 ⟨1, 0, 1, 0⟩).1
  rw [e1] at g1
  have g2 := (g1.do_ 0 ⟨3, 0, 0, 0⟩).1
  rw [e2] at g2
  have HG := Lib.hid (And.intro g0 (And.intro g1 g2))
  have HE := Lib.hid (And.intro e1 (And.intro e2 e3))
  clear g0 g1 g2 e1 e2 e3
  go_enter Tryd.func15, Tryd.ntmps15
  go_wp2_with fail
  refine HN.out.mono ?_
  rintro e w1 ⟨B, rfl, ⟨vs, vr, vc, vo, h1⟩, hk1⟩
  have HR1 := Lib.hid h1
  have HK1 := Lib.hid hk1
  clear h1 hk1
  go_wp2_with fail
  have hd1 := do_any HR1.out (fun k hk => Nat.le_trans HK1.out.size hk) HG.out.1 (by decide) 0 ⟨1, 0, 1, 0⟩ (HT.out.keep HK1.out)
  rw [HE.out.1] at hd1
  refine hd1.mono ?_
  rintro e w2 ⟨rfl, ⟨vs2, vo2, -, h2⟩, hk2⟩
  have HR2 := Lib.hid h2
  have HK2 : Hid (Keep none_ w w2) := HK1.out.trans' hk2 (fun i hi h => by omega)
  clear h2 hk2 hd1
  go_wp2_with fail
  have hd2 := do_any HR2.out (fun k hk => Nat.le_trans HK2.out.size hk) HG.out.2.1 (by decide) 0 ⟨3, 0, 0, 0⟩ (HT.out.keep HK2.out)
  rw [HE.out.2.1] at hd2
  refine hd2.mono ?_
  rintro e w3 ⟨rfl, ⟨vs3, vo3, -, h3⟩, hk3⟩
  have HR3 := Lib.hid h3
  have HK3 : Hid (Keep none_ w w3) := HK2.out.trans' hk3 (fun i hi h => by omega)
  clear h3 hk3 hd2
  go_wp2_with fail
  have hd3 := do_any HR3.out (fun k hk => Nat.le_trans HK3.out.size hk) HG.out.2.2 (by decide) 0 ⟨2, 1, 0, 0⟩ (HT.out.keep HK3.out)
  rw [HE.out.2.2] at hd3
  refine hd3.mono ?_
  rintro e w4 ⟨rfl, ⟨vs4, vo4, -, h4⟩, hk4⟩
  have HK4 : Hid (Keep none_ w w4) := HK3.out.trans' hk4 (fun i hi h => by omega)
  clear h4 hk4 hd3
  go_wp2_with fail
  go_ret
  exact ⟨rfl, HK4.out⟩
end Go.Proofs.YtdplakfmdkjfdaaDoor
