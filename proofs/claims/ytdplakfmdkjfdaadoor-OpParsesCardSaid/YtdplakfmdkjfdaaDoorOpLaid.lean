/- What the Op statements say of package variables, and the world's shape, give what the walks ask. -/
import Derived.Test.YtdplakfmdkjfdaaDoorOpAwake
import Derived.Shelf.Vars
import Derived.LaidLaws
import Derived.MakeChecks
import Derived.Stop.LaidErr
namespace Go.Proofs.YtdplakfmdkjfdaaDoor
open Go.RowKit

theorem tabs_of2 {r1 r2 : List (String × DataW Unit)} {w : World} (h : laidMet Tryd.prog (("dustpan/config.limits", Rows.laid_dustpan_config_limits) :: r1) w) (h2 : laidMet Tryd.prog (("dustpan/op.kinds", Rows.laid_dustpan_op_kinds) :: r2) w) : Tabs w := by
  constructor
  · obtain ⟨ps, ⟨g, t, cs, fuel, p, q, hg, ht, hvar, hd, _, _⟩, _⟩ := h
    obtain rfl : 1 = g := Option.some.inj ((show Tryd.prog.globalNamed "dustpan/config.limits" = some 1 by kernel_rfl).symm.trans hg)
    obtain rfl : 119 = t := Option.some.inj ((show (Tryd.prog.globals[1]?).map (·.type) = some 119 by kernel_rfl).symm.trans ht)
    obtain ⟨cs, rfl⟩ : ∃ l : List Value, cs = l.toArray := ⟨cs.toList, by simp⟩
    obtain ⟨hl, _, m, hel⟩ := arr_parts (s := 2) Tryd.tabU1 (by kernel_rfl) (by kernel_rfl) hd
    have key : cs = limL.map (Value.int .i64) := by
      obtain ⟨q0, h0⟩ := hel 0 _ rfl
      obtain ⟨q1, h1⟩ := hel 1 _ rfl
      obtain ⟨q2, h2⟩ := hel 2 _ rfl
      obtain ⟨q3, h3⟩ := hel 3 _ rfl
      obtain ⟨q4, h4⟩ := hel 4 _ rfl
      obtain ⟨q5, h5⟩ := hel 5 _ rfl
      obtain ⟨q6, h6⟩ := hel 6 _ rfl
      have e0 := pair_ints Tryd.tabU2 Tryd.tabU6 (by kernel_rfl) (by kernel_rfl) h0
      have e1 := pair_ints Tryd.tabU2 Tryd.tabU6 (by kernel_rfl) (by kernel_rfl) h1
      have e2 := pair_ints Tryd.tabU2 Tryd.tabU6 (by kernel_rfl) (by kernel_rfl) h2
      have e3 := pair_ints Tryd.tabU2 Tryd.tabU6 (by kernel_rfl) (by kernel_rfl) h3
      have e4 := pair_ints Tryd.tabU2 Tryd.tabU6 (by kernel_rfl) (by kernel_rfl) h4
      have e5 := pair_ints Tryd.tabU2 Tryd.tabU6 (by kernel_rfl) (by kernel_rfl) h5
      have e6 := pair_ints Tryd.tabU2 Tryd.tabU6 (by kernel_rfl) (by kernel_rfl) h6
      clear h0 h1 h2 h3 h4 h5 h6 hel hd hvar
      match cs, hl with
      | [a0, a1, a2, a3, a4, a5, a6, a7, a8, a9, a10, a11, a12, a13], _ =>
        simp at e0 e1 e2 e3 e4 e5 e6
        simp [limL, e0, e1, e2, e3, e4, e5, e6]
    intro i r hr
    rw [World.var?_cell (P := Tryd.prog) hg hvar i, key]
    simp [hr]
  · obtain ⟨ps, ⟨g, t, cs, fuel, p, q, hg, ht, hvar, hd, _, _⟩, _⟩ := h2
    obtain rfl : 0 = g := Option.some.inj ((show Tryd.prog.globalNamed "dustpan/op.kinds" = some 0 by kernel_rfl).symm.trans hg)
    obtain rfl : 93 = t := Option.some.inj ((show (Tryd.prog.globals[0]?).map (·.type) = some 93 by kernel_rfl).symm.trans ht)
    obtain ⟨cs, rfl⟩ : ∃ l : List Value, cs = l.toArray := ⟨cs.toList, by simp⟩
    obtain ⟨hl, _, m, hel⟩ := arr_parts (s := 2) Tryd.tabU3 (by kernel_rfl) (by kernel_rfl) hd
    have key : cs = kindL.map (fun s => Value.string ⟨s.toArray⟩) := by
      obtain ⟨q0, h0⟩ := hel 0 _ rfl
      obtain ⟨q1, h1⟩ := hel 1 _ rfl
      obtain ⟨q2, h2⟩ := hel 2 _ rfl
      obtain ⟨q3, h3⟩ := hel 3 _ rfl
      obtain ⟨q4, h4⟩ := hel 4 _ rfl
      obtain ⟨q5, h5⟩ := hel 5 _ rfl
      obtain ⟨q6, h6⟩ := hel 6 _ rfl
      obtain ⟨q7, h7⟩ := hel 7 _ rfl
      obtain ⟨q8, h8⟩ := hel 8 _ rfl
      have e0 := pair_strs Tryd.tabU4 Tryd.tabU5 (by kernel_rfl) (by kernel_rfl) h0
      have e1 := pair_strs Tryd.tabU4 Tryd.tabU5 (by kernel_rfl) (by kernel_rfl) h1
      have e2 := pair_strs Tryd.tabU4 Tryd.tabU5 (by kernel_rfl) (by kernel_rfl) h2
      have e3 := pair_strs Tryd.tabU4 Tryd.tabU5 (by kernel_rfl) (by kernel_rfl) h3
      have e4 := pair_strs Tryd.tabU4 Tryd.tabU5 (by kernel_rfl) (by kernel_rfl) h4
      have e5 := pair_strs Tryd.tabU4 Tryd.tabU5 (by kernel_rfl) (by kernel_rfl) h5
      have e6 := pair_strs Tryd.tabU4 Tryd.tabU5 (by kernel_rfl) (by kernel_rfl) h6
      have e7 := pair_strs Tryd.tabU4 Tryd.tabU5 (by kernel_rfl) (by kernel_rfl) h7
      have e8 := pair_strs Tryd.tabU4 Tryd.tabU5 (by kernel_rfl) (by kernel_rfl) h8
      clear h0 h1 h2 h3 h4 h5 h6 h7 h8 hel hd hvar
      match cs, hl with
      | [a0, a1, a2, a3, a4, a5, a6, a7, a8, a9, a10, a11, a12, a13, a14, a15, a16, a17], _ =>
        simp at e0 e1 e2 e3 e4 e5 e6 e7 e8
        simp [kindL, e0, e1, e2, e3, e4, e5, e6, e7, e8]
    intro i s hs
    rw [World.var?_cell (P := Tryd.prog) hg hvar i, key]
    simp [hs]

theorem errAt_of {n nm : String} {d : DataW Unit} {r : List (String × DataW Unit)} {w : World} {g : Nat} (h : laidMet Tryd.prog ((n, .iface nm d) :: r) w) (hg : Tryd.prog.globalNamed n = some g) (ht : (Tryd.prog.globals[g]?).map (·.type) = some 99) : ErrAt g w := by
  obtain ⟨ps, ⟨g0, t, cs, fuel, p, q, hg0, ht0, hvar, hd, _, _⟩, _⟩ := h
  obtain rfl : g = g0 := Option.some.inj (hg.symm.trans hg0)
  obtain rfl : 99 = t := Option.some.inj (ht.symm.trans ht0)
  obtain ⟨cs, rfl⟩ : ∃ l : List Value, cs = l.toArray := ⟨cs.toList, by simp⟩
  obtain ⟨_, u, v, rfl, _, _⟩ := iface_of_trod Tryd.underlying99 hd
  exact ⟨.iface u v, by rw [World.var?_cell (P := Tryd.prog) hg hvar 0]; rfl, .inr ⟨u, v, rfl⟩⟩

def opLaid : List (String × DataW Unit) := Rows.opChecksRow.laid
theorem opT_of {w : World} (hL : laidMetH Tryd.prog opLaid w) (hS : w.ShapedOpen Tryd.prog) : OpT w := by
  unfold opLaid at hL
  rw [MakeChecks.laidMetH_plain _ _ _ (by kernel_rfl)] at hL
  have h2 := laidMet.tail (laidMet.tail hL)
  have h3 := laidMet.tail h2
  have h4 := laidMet.tail (laidMet.tail h3)
  have h5 := laidMet.tail h4
  have h6 := laidMet.tail h5
  refine ⟨tabs_of2 h2 h6, ?_, errAt_of h5 (by kernel_rfl) (by kernel_rfl), errAt_of h4 (by kernel_rfl) (by kernel_rfl), ?_⟩
  · exact Lib.tabIs_of_head (g := 5) (t := 171) (e := 115) (n := 20) (by kernel_rfl) (by kernel_rfl) Tryd.underlying171 Tryd.underlying115 (by kernel_rfl) (by kernel_rfl) h3
  · exact cell_of_shapedOpen_int (t := 3) (zero := #[.int .i64 0]) hS (of_decide_eq_true (by kernel_rfl)) (by kernel_rfl) (by kernel_rfl) (by kernel_rfl) (by kernel_rfl) Tryd.underlying3
end Go.Proofs.YtdplakfmdkjfdaaDoor
