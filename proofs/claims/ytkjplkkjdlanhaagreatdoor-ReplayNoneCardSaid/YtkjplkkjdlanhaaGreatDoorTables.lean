/- The program's two tables: what the statements' condition says of them, cell by cell. -/
import Derived.Test.YtkjplkkjdlanhaaGreatDoorRows
import Derived.Test.YtkjplkkjdlanhaaGreatDoorMem
import Derived.Lib.LaidTab
import Derived.OpenShut
import Derived.Lib.Hide
import Derived.WalkKit
import Derived.MakeChecks
import Derived.Stop.LaidErr
namespace Go.Proofs.YtkjplkkjdlanhaaGreatDoor
open Go.RowKit

section
variable {H : Type} {enc : TypeId × Value → H} {P : Program} {w : World} {base : Nat} {sp : Nat → Bool} {held : Bool}
/-- An array, element by element. -/
theorem arr_parts {fuel n s : Nat} {t e : TypeId} {cs : List Value} {ds : List (DataW H)} {p : List MemPlace} (ht : P.underlying t = some (.array n e)) (hc : P.cellsOf e = s) (hct : P.cellsOf t = n * s)
    (h : DataW.trod enc P w base sp held fuel t cs = some (.agg ds, p)) : cs.length = n * s ∧ ds.length = n ∧ ∃ m, ∀ i d, ds[i]? = some d → ∃ q, DataW.trod enc P w base sp held m e ((cs.drop (i * s)).take s) = some (d, q) := by
  obtain ⟨xs, m, rfl, hx, hl, hn, hel⟩ := DataW.trod_array ht h
  simp only [Prod.mk.injEq, DataW.agg.injEq] at hx
  obtain ⟨rfl, _⟩ := hx
  refine ⟨by rw [hl, hct], by simpa using hn, m, fun i d hd => ?_⟩
  rw [List.getElem?_map, Option.map_eq_some_iff] at hd
  obtain ⟨x, hx, rfl⟩ := hd
  have hi : i < n := by rw [← hn]; exact (List.getElem?_eq_some_iff.1 hx).1
  have := hel i hi
  rw [hc, hx] at this
  exact ⟨x.2, this⟩
theorem pair_ints {fuel : Nat} {t e : TypeId} {k : IntKind} {cs : List Value} {a b : Int} {p : List MemPlace} (ht : P.underlying t = some (.array 2 e)) (he : P.underlying e = some (.int k)) (hce : P.cellsOf e = 1) (hct : P.cellsOf t = 2)
    (h : DataW.trod enc P w base sp held fuel t cs = some (.agg [.lit (.int k a), .lit (.int k b)], p)) : cs = [.int k a, .int k b] :=
  Lib.cells_of_tab (zs := [a, b]) ht he hce hct h
theorem one_str {fuel : Nat} {e : TypeId} {cs : List Value} {a : List UInt8} {p : List MemPlace} (he : P.underlying e = some .string) (h : DataW.trod enc P w base sp held fuel e cs = some (.lit (.string a), p)) : cs = [.string ⟨a.toArray⟩] := by
  obtain ⟨s, rfl, hx, _⟩ := DataW.trod_string he h
  simp only [Prod.mk.injEq, DataW.lit.injEq, Lit.string.injEq] at hx
  obtain ⟨rfl, _⟩ := hx
  simp
theorem pair_strs {fuel : Nat} {t e : TypeId} {cs : List Value} {a b : List UInt8} {p : List MemPlace} (ht : P.underlying t = some (.array 2 e)) (he : P.underlying e = some .string) (hce : P.cellsOf e = 1) (hct : P.cellsOf t = 2)
    (h : DataW.trod enc P w base sp held fuel t cs = some (.agg [.lit (.string a), .lit (.string b)], p)) : cs = [.string ⟨a.toArray⟩, .string ⟨b.toArray⟩] := by
  obtain ⟨hl, _, m, hel⟩ := arr_parts (s := 1) ht hce (by rw [hct]) h
  obtain ⟨q, h0⟩ := hel 0 _ rfl
  obtain ⟨q', h1⟩ := hel 1 _ rfl
  have e0 := one_str he h0
  have e1 := one_str he h1
  match cs, hl with
  | [x, y], _ =>
    simp at e0 e1
    rw [e0, e1]
end

def limL : List Int := [1, 4096, 16, 256, 1, 8, 1, 64, 0, 64, 1, 256, 1, 4096]
def kindL : List (List UInt8) := [[], [], [97, 108, 108, 111, 99], [114, 115], [108, 111, 97, 100], [114, 114, 102], [115, 116, 111, 114, 101], [114, 102, 114], [103, 101, 116], [114, 99], [115, 101, 116], [99, 114], [100, 114, 111, 112], [114], [109, 111, 118, 101], [114, 114], [115, 97, 102, 101], []]

/-- The tables' cells. -/
structure Tabs (w : World) : Prop where
  lim : ∀ i r, limL[i]? = some r → w.cell? ⟨0, i, none⟩ = some (.int .i64 r)
  kind : ∀ i s, kindL[i]? = some s → w.cell? ⟨1, i, none⟩ = some (.string ⟨s.toArray⟩)

theorem Tabs.keep {w w' : World} (h : Tabs w) (k : Keep none_ w w') : Tabs w' := ⟨fun i r hr => k.still (h.lim i r hr), fun i s hs => k.still (h.kind i s hs)⟩

theorem Tryz.tabU1 : Tryz.prog.underlying 121 = some (.array 7 96) := by kernel_rfl
theorem Tryz.tabU2 : Tryz.prog.underlying 96 = some (.array 2 3) := by kernel_rfl
theorem Tryz.tabU3 : Tryz.prog.underlying 155 = some (.array 9 154) := by kernel_rfl
theorem Tryz.tabU4 : Tryz.prog.underlying 154 = some (.array 2 9) := by kernel_rfl
theorem Tryz.tabU5 : Tryz.prog.underlying 9 = some .string := by kernel_rfl
theorem Tryz.tabU6 : Tryz.prog.underlying 3 = some (.int .i64) := by kernel_rfl

theorem lim_of {rest : List (String × DataW Unit)} {w : World} (h : laidMet Tryz.prog (("dustpan/config.limits", Rows.laid_dustpan_config_limits) :: rest) w) : ∀ i r, limL[i]? = some r → w.cell? ⟨0, i, none⟩ = some (.int .i64 r) := by
  · obtain ⟨ps, ⟨g, t, cs, fuel, p, q, hg, ht, hvar, hd, _, _⟩, _⟩ := h
    obtain rfl : 0 = g := Option.some.inj ((show Tryz.prog.globalNamed "dustpan/config.limits" = some 0 by kernel_rfl).symm.trans hg)
    obtain rfl : 121 = t := Option.some.inj ((show (Tryz.prog.globals[0]?).map (·.type) = some 121 by kernel_rfl).symm.trans ht)
    obtain ⟨cs, rfl⟩ : ∃ l : List Value, cs = l.toArray := ⟨cs.toList, by simp⟩
    obtain ⟨hl, _, m, hel⟩ := arr_parts (s := 2) Tryz.tabU1 (by kernel_rfl) (by kernel_rfl) hd
    have key : cs = limL.map (Value.int .i64) := by
      obtain ⟨q0, h0⟩ := hel 0 _ rfl
      obtain ⟨q1, h1⟩ := hel 1 _ rfl
      obtain ⟨q2, h2⟩ := hel 2 _ rfl
      obtain ⟨q3, h3⟩ := hel 3 _ rfl
      obtain ⟨q4, h4⟩ := hel 4 _ rfl
      obtain ⟨q5, h5⟩ := hel 5 _ rfl
      obtain ⟨q6, h6⟩ := hel 6 _ rfl
      have e0 := pair_ints Tryz.tabU2 Tryz.tabU6 (by kernel_rfl) (by kernel_rfl) h0
      have e1 := pair_ints Tryz.tabU2 Tryz.tabU6 (by kernel_rfl) (by kernel_rfl) h1
      have e2 := pair_ints Tryz.tabU2 Tryz.tabU6 (by kernel_rfl) (by kernel_rfl) h2
      have e3 := pair_ints Tryz.tabU2 Tryz.tabU6 (by kernel_rfl) (by kernel_rfl) h3
      have e4 := pair_ints Tryz.tabU2 Tryz.tabU6 (by kernel_rfl) (by kernel_rfl) h4
      have e5 := pair_ints Tryz.tabU2 Tryz.tabU6 (by kernel_rfl) (by kernel_rfl) h5
      have e6 := pair_ints Tryz.tabU2 Tryz.tabU6 (by kernel_rfl) (by kernel_rfl) h6
      clear h0 h1 h2 h3 h4 h5 h6 hel hd hvar
      match cs, hl with
      | [a0, a1, a2, a3, a4, a5, a6, a7, a8, a9, a10, a11, a12, a13], _ =>
        simp at e0 e1 e2 e3 e4 e5 e6
        simp [limL, e0, e1, e2, e3, e4, e5, e6]
    intro i r hr
    rw [World.var?_cell (P := Tryz.prog) hg hvar i, key]
    simp [hr]
theorem kind_of {rest : List (String × DataW Unit)} {w : World} (h2 : laidMet Tryz.prog (("dustpan/op.kinds", Rows.laid_dustpan_op_kinds) :: rest) w) : ∀ i s, kindL[i]? = some s → w.cell? ⟨1, i, none⟩ = some (.string ⟨s.toArray⟩) := by
  · obtain ⟨ps, ⟨g, t, cs, fuel, p, q, hg, ht, hvar, hd, _, _⟩, _⟩ := h2
    obtain rfl : 1 = g := Option.some.inj ((show Tryz.prog.globalNamed "dustpan/op.kinds" = some 1 by kernel_rfl).symm.trans hg)
    obtain rfl : 155 = t := Option.some.inj ((show (Tryz.prog.globals[1]?).map (·.type) = some 155 by kernel_rfl).symm.trans ht)
    obtain ⟨cs, rfl⟩ : ∃ l : List Value, cs = l.toArray := ⟨cs.toList, by simp⟩
    obtain ⟨hl, _, m, hel⟩ := arr_parts (s := 2) Tryz.tabU3 (by kernel_rfl) (by kernel_rfl) hd
    have key : cs = kindL.map (fun s => Value.string ⟨s.toArray⟩) := by
      obtain ⟨q0, h0⟩ := hel 0 _ rfl
      obtain ⟨q1, h1⟩ := hel 1 _ rfl
      obtain ⟨q2, h2⟩ := hel 2 _ rfl
      obtain ⟨q3, h3⟩ := hel 3 _ rfl
      obtain ⟨q4, h4⟩ := hel 4 _ rfl
      obtain ⟨q5, h5⟩ := hel 5 _ rfl
      obtain ⟨q6, h6⟩ := hel 6 _ rfl
      obtain ⟨q7, h7⟩ := hel 7 _ rfl
      obtain ⟨q8, h8⟩ := hel 8 _ rfl
      have e0 := pair_strs Tryz.tabU4 Tryz.tabU5 (by kernel_rfl) (by kernel_rfl) h0
      have e1 := pair_strs Tryz.tabU4 Tryz.tabU5 (by kernel_rfl) (by kernel_rfl) h1
      have e2 := pair_strs Tryz.tabU4 Tryz.tabU5 (by kernel_rfl) (by kernel_rfl) h2
      have e3 := pair_strs Tryz.tabU4 Tryz.tabU5 (by kernel_rfl) (by kernel_rfl) h3
      have e4 := pair_strs Tryz.tabU4 Tryz.tabU5 (by kernel_rfl) (by kernel_rfl) h4
      have e5 := pair_strs Tryz.tabU4 Tryz.tabU5 (by kernel_rfl) (by kernel_rfl) h5
      have e6 := pair_strs Tryz.tabU4 Tryz.tabU5 (by kernel_rfl) (by kernel_rfl) h6
      have e7 := pair_strs Tryz.tabU4 Tryz.tabU5 (by kernel_rfl) (by kernel_rfl) h7
      have e8 := pair_strs Tryz.tabU4 Tryz.tabU5 (by kernel_rfl) (by kernel_rfl) h8
      clear h0 h1 h2 h3 h4 h5 h6 h7 h8 hel hd hvar
      match cs, hl with
      | [a0, a1, a2, a3, a4, a5, a6, a7, a8, a9, a10, a11, a12, a13, a14, a15, a16, a17], _ =>
        simp at e0 e1 e2 e3 e4 e5 e6 e7 e8
        simp [kindL, e0, e1, e2, e3, e4, e5, e6, e7, e8]
    intro i s hs
    rw [World.var?_cell (P := Tryz.prog) hg hvar i, key]
    simp [hs]
theorem tabs_of {w : World} (h : laidMetH Tryz.prog [("dustpan/config.limits", Rows.laid_dustpan_config_limits), ("dustpan/op.kinds", Rows.laid_dustpan_op_kinds)] w) : Tabs w := by
  rw [MakeChecks.laidMetH_plain _ _ _ (by kernel_rfl)] at h
  exact ⟨lim_of h, kind_of (laidMet.tail h)⟩
end Go.Proofs.YtkjplkkjdlanhaaGreatDoor
