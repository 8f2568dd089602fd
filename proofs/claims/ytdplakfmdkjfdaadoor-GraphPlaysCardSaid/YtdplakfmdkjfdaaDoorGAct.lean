/- The deeds of a law, one behind the other; a graph in memory with what holds of its rows. -/
import Derived.Test.YtdplakfmdkjfdaaDoorGLaw1
import Derived.Test.YtdplakfmdkjfdaaDoorRecAt
import Derived.Test.YtdplakfmdkjfdaaDoorSame01
namespace Go.Proofs.YtdplakfmdkjfdaaDoor
open Go.RowKit

theorem list_of {α : Type} {f : α → List Value} {P : α → Prop} {Q : List Value → Prop} (h : ∀ r, Q r → ∃ e, r = f e ∧ P e) : ∀ rs : List (List Value), (∀ r ∈ rs, Q r) → ∃ es : List α, rs = es.map f ∧ ∀ e ∈ es, P e
  | [], _ => ⟨[], rfl, fun _ h => by cases h⟩
  | r :: rs, hq => by
    obtain ⟨e, rfl, he⟩ := h r (hq r (by simp))
    obtain ⟨es, rfl, hes⟩ := list_of h rs (fun r hr => hq r (by simp [hr]))
    exact ⟨e :: es, rfl, fun x hx => by
      rcases List.mem_cons.1 hx with rfl | hx
      · exact he
      · exact hes x hx⟩

/-- A mutator's number and an operation. -/
structure DeedR where
  m : Int
  o : OpR
def DeedR.cells (d : DeedR) : List Value := [.int .i64 d.m, .int .i64 d.o.k, .int .i64 d.o.a, .int .i64 d.o.b, .int .i64 d.o.c]
theorem deed_of {r : List Value} (h : FlatOk [.int .i64, .int .i64, .int .i64, .int .i64, .int .i64] r) : ∃ d : DeedR, r = d.cells ∧ True := by
  obtain ⟨v0, h0, x0, rfl, y0⟩ := h.at_ 0 _ rfl
  obtain ⟨v1, h1, x1, rfl, y1⟩ := h.at_ 1 _ rfl
  obtain ⟨v2, h2, x2, rfl, y2⟩ := h.at_ 2 _ rfl
  obtain ⟨v3, h3, x3, rfl, y3⟩ := h.at_ 3 _ rfl
  obtain ⟨v4, h4, x4, rfl, y4⟩ := h.at_ 4 _ rfl
  have hl := h.len
  match r, hl with
  | [a0, a1, a2, a3, a4], _ =>
    simp at h0 h1 h2 h3 h4
    exact ⟨⟨x0, x1, x2, x3, x4⟩, by simp [DeedR.cells, h0, h1, h2, h3, h4], trivial⟩
theorem deedCells {w : World} {a : Option Addr} {n : Nat} {l : List DeedR} (h : RecAt w a n 5 (l.map DeedR.cells)) (i : Nat) (hi : i < n) : ∃ b off, a = some ⟨b, off, none⟩ ∧ ∃ d : DeedR, l[i]? = some d ∧ w.cell? ⟨b, off + i * 5, none⟩ = some (.int .i64 d.m) ∧ w.cell? ⟨b, off + i * 5 + 1, none⟩ = some (.int .i64 d.o.k) ∧ w.cell? ⟨b, off + i * 5 + 2, none⟩ = some (.int .i64 d.o.a) ∧ w.cell? ⟨b, off + i * 5 + 3, none⟩ = some (.int .i64 d.o.b) ∧ w.cell? ⟨b, off + i * 5 + 4, none⟩ = some (.int .i64 d.o.c) := by
  obtain ⟨b, off, e, hc⟩ := h.at_ (by omega)
  have hl := h.len
  simp at hl
  have h1 : l[i]? = some (l[i]'(by omega)) := List.getElem?_eq_getElem _
  have h2 := hc i (l[i]'(by omega)).cells (by simp [h1])
  exact ⟨b, off, e, _, h1, h2 0 _ rfl, h2 1 _ rfl, h2 2 _ rfl, h2 3 _ rfl, h2 4 _ rfl⟩

/-- A graph in memory, and what holds of its rows. -/
structure GSt (F : Nat → Prop) (B : Nat) (c : Conf) (m : Nat) (R : List (List Int)) (w : World) : Prop where
  rep : ∃ vs vr vc vo, GRep F B c m vs vr vc vo R w
  good : Good c m R

section
variable {F F' : Nat → Prop} {B : Nat} {c : Conf} {m : Nat} {R : List (List Int)} {w w' : World}
theorem GSt.keep {S : Nat → Prop} (h : GSt F B c m R w) (k : Keep S w w') (hs : ∀ i, F i → ¬ S i) : GSt F B c m R w' := by
  obtain ⟨⟨vs, vr, vc, vo, h1⟩, h2⟩ := h
  exact ⟨⟨vs, vr, vc, vo, h1.keep k hs⟩, h2⟩
theorem GSt.still (h : GSt F B c m R w) (k : Keep none_ w w') : GSt F B c m R w' := h.keep k (fun _ _ f => f)
theorem GSt.mono (h : GSt F B c m R w) (hF : ∀ k, F k → F' k) : GSt F' B c m R w := by
  obtain ⟨⟨vs, vr, vc, vo, h1⟩, h2⟩ := h
  exact ⟨⟨vs, vr, vc, vo, h1.mono hF⟩, h2⟩
theorem GSt.there (h : GSt F B c m R w) : GSt (fun k => F k ∧ k < w.heap.size) B c m R w := by
  obtain ⟨⟨vs, vr, vc, vo, h1⟩, h2⟩ := h
  exact ⟨⟨vs, vr, vc, vo, h1.there⟩, h2⟩
theorem GSt.fB (h : GSt F B c m R w) : F B := by
  obtain ⟨⟨vs, vr, vc, vo, h1⟩, h2⟩ := h
  exact h1.fB
theorem GSt.row (h : GSt F B c m R w) : ∀ zs ∈ R, zs.length ≤ 1000000 := fun zs hz => by
  obtain ⟨i, hi⟩ := List.mem_iff_getElem?.1 hz
  exact Nat.le_trans (h.good.sz i zs hi) (by decide)

theorem gdo_any (h : GSt F B c m R w) (hF : ∀ k, w.heap.size ≤ k → F k) (hR : R.length ≤ 1000) (mi : Int) (o : OpR) (hT : Tabs w) :
    Calls Tryd.prog 18 #[.pointer (some ⟨B, 0, none⟩), .int .i64 mi, .agg o.cells.toArray] w fun e w' => e = .returned (.tuple #[.int .i64 (gDoP c m R mi o).2.1, .int .i64 (gDoP c m R mi o).2.2]) ∧ GSt F B c m (gDoP c m R mi o).1 w' ∧ Keep F w w' := by
  obtain ⟨⟨vs, vr, vc, vo, h1⟩, h2⟩ := h
  refine (do_any h1 hF h2 hR mi o hT).mono ?_
  rintro e w' ⟨he, ⟨vs', vo', -, h3⟩, hk⟩
  exact ⟨he, ⟨⟨_, _, _, _, h3⟩, (h2.do_ mi o).1⟩, hk⟩
theorem gcopy_any (h : GSt F B c m R w) (hm : m ≤ 1000) (hR : R.length ≤ 1000) :
    Calls Tryd.prog 17 #[.pointer (some ⟨B, 0, none⟩)] w fun e w' => ∃ B', e = .returned (.pointer (some ⟨B', 0, none⟩)) ∧ GSt (fun k => w.heap.size ≤ k) B' c m R w' ∧ Keep none_ w w' := by
  have hrow := h.row
  obtain ⟨⟨vs, vr, vc, vo, h1⟩, h2⟩ := h
  refine (copy_any h1 hm hR hrow).mono ?_
  rintro e w' ⟨B', he, h3, hk⟩
  exact ⟨B', he, ⟨h3, h2⟩, hk⟩
theorem gcount_any (h : GSt F B c m R w) : Calls Tryd.prog 21 #[.pointer (some ⟨B, 0, none⟩)] w fun e w' => e = .returned (.int .i64 (cntP m R : Int)) ∧ w' = w := by
  obtain ⟨⟨vs, vr, vc, vo, h1⟩, h2⟩ := h
  exact count_any h1
theorem greg_any (h : GSt F B c m R w) (mi r : Int) : Calls Tryd.prog 19 #[.pointer (some ⟨B, 0, none⟩), .int .i64 mi, .int .i64 r] w fun e w' => e = .returned (.int .i64 (regP m R mi r)) ∧ w' = w := by
  obtain ⟨⟨vs, vr, vc, vo, h1⟩, h2⟩ := h
  exact reg_any h1 mi r
theorem gcell_any (h : GSt F B c m R w) (i : Int) : Calls Tryd.prog 22 #[.pointer (some ⟨B, 0, none⟩), .int .i64 i] w fun e w' => e = .returned (.int .i64 (cellP m R i)) ∧ w' = w := by
  obtain ⟨⟨vs, vr, vc, vo, h1⟩, h2⟩ := h
  exact cell_any h1 i
theorem fld_len (h : Good c m R) (id : Int) : (fldP m R id).length ≤ 100 := by
  unfold fldP
  split
  · exact Nat.zero_le _
  · rename_i h1
    by_cases h2 : m + id.toNat < R.length
    · rw [getD_some (List.getElem?_eq_getElem h2)]
      exact h.sz _ _ (List.getElem?_eq_getElem h2)
    · rw [List.getD_eq_getElem?_getD, List.getElem?_eq_none (by omega)]
      exact Nat.zero_le _
/-- Fields: a row of numbers. -/
theorem gfields_any (h : GSt F B c m R w) (hR : R.length ≤ 1000) (id : Int) : Calls Tryd.prog 20 #[.pointer (some ⟨B, 0, none⟩), .int .i64 id] w fun e w' => ∃ a cap, e = .returned (.slice a (fldP m R id).length cap) ∧ IntCells .i64 w' a (fldP m R id).length (fldP m R id) ∧ Keep none_ w w' := by
  have hrow := h.row
  obtain ⟨⟨vs, vr, vc, vo, h1⟩, h2⟩ := h
  refine (fields_any h1 hR hrow id).mono ?_
  rintro e w' ⟨v', rfl, ho, hk⟩
  obtain ⟨a, cap, rfl, _, _, _, hc⟩ := own_form ho
  refine ⟨a, cap, rfl, ⟨rfl, fun h0 => ?_⟩, hk⟩
  obtain ⟨x, hx⟩ : ∃ x, (fldP m R id)[0]? = some x := ⟨_, List.getElem?_eq_getElem h0⟩
  obtain ⟨g, rfl, _⟩ := hc 0 (.int .i64 x) (by simp [hx])
  refine ⟨g, 0, rfl, fun j hj => ?_⟩
  have hj2 : (fldP m R id)[j]? = some ((fldP m R id).getD j 0) := by rw [List.getD_eq_getElem?_getD, List.getElem?_eq_getElem hj]; rfl
  obtain ⟨g', e, h3, _⟩ := hc j (.int .i64 ((fldP m R id).getD j 0)) (by rw [List.getElem?_map, hj2]; rfl)
  injection e with e
  injection e with e
  subst e
  simpa using h3
end

/-- A config laid into a config's box. -/
theorem conf_put {W : World} {C : Nat} {c : Conf} (h : Blk W C c.cells 23) (q0 q1 q2 q3 q4 q5 q6 : Int) : ∃ W', W' = ((((((W.setCell ⟨C, 0, none⟩ (.int .i64 q0)).setCell ⟨C, 1, none⟩ (.int .i64 q1)).setCell ⟨C, 2, none⟩ (.int .i64 q2)).setCell ⟨C, 3, none⟩ (.int .i64 q3)).setCell ⟨C, 4, none⟩ (.int .i64 q4)).setCell ⟨C, 5, none⟩ (.int .i64 q5)).setCell ⟨C, 6, none⟩ (.int .i64 q6) ∧
    Blk W' C [.int .i64 q0, .int .i64 q1, .int .i64 q2, .int .i64 q3, .int .i64 q4, .int .i64 q5, .int .i64 q6] 23 ∧ Keep (only C) W W' :=
  ⟨_, rfl, ((((((h.set 0 (.int .i64 q0)).set 1 (.int .i64 q1)).set 2 (.int .i64 q2)).set 3 (.int .i64 q3)).set 4 (.int .i64 q4)).set 5 (.int .i64 q5)).set 6 (.int .i64 q6),
    ((((((((Keep.refl (only C) W).put 0 (.int .i64 q0)).put 1 (.int .i64 q1)).put 2 (.int .i64 q2)).put 3 (.int .i64 q3)).put 4 (.int .i64 q4)).put 5 (.int .i64 q5)).put 6 (.int .i64 q6))⟩

/-- A small config. -/
theorem little_ok (c : Conf) : c.little.ok = true := by
  obtain ⟨b, w, m, r, cc, l, s⟩ := c
  have e : ∀ (p q : Prop) [Decidable p] [Decidable q], p → q → (decide p && decide q) = true := fun p q _ _ hp hq => by rw [decide_eq_true hp, decide_eq_true hq]; rfl
  have e2 : ∀ (x : Bool) (q : Prop) [Decidable q], x = true → q → (x && decide q) = true := fun x q _ hp hq => by rw [hp, decide_eq_true hq]; rfl
  unfold Conf.ok Conf.little
  simp only
  exact e2 _ _ (e2 _ _ (e2 _ _ (e2 _ _ (e2 _ _ (e _ _ (by omega) (by omega)) (by omega)) (by omega)) (by omega)) (by omega)) (by omega)
theorem little_nums (c : Conf) : ∃ m r n : Nat, c.little.m = m ∧ c.little.r = r ∧ c.little.c = n ∧ 1 ≤ m ∧ m ≤ 4 ∧ 1 ≤ r ∧ r ≤ 5 ∧ n ≤ 3 := by
  obtain ⟨b, w, m, r, cc, l, s⟩ := c
  exact ⟨(1 + m % 4).toNat, (1 + r % 5).toNat, (cc % 4).toNat, by simp only [Conf.little]; omega, by simp only [Conf.little]; omega, by simp only [Conf.little]; omega, by omega, by omega, by omega, by omega, by omega⟩
theorem gnew_any (c : Conf) (w : World) (hT : Tabs w) (hok : c.ok = true) (m r n : Nat) (hm : c.m = m) (hr : c.r = r) (hn : c.c = n) : Calls Tryd.prog 16 #[.agg c.cells.toArray] w fun e w' => ∃ B, e = .returned (.tuple #[.pointer (some ⟨B, 0, none⟩), .int .i64 0]) ∧
    GSt (fun k => w.heap.size ≤ k) B c m (rows0 m r n) w' ∧ Keep none_ w w' := by
  refine (new_any c w hT hok m r n hm hr hn).mono ?_
  rintro e w' ⟨B, he, h1, hk⟩
  have hbd : r ≤ 64 ∧ n ≤ 64 := by
    simp [Conf.ok] at hok
    omega
  exact ⟨B, he, ⟨h1, Good.rows0 hr hn (by omega) (by omega)⟩, hk⟩
/-- What a law's loop of deeds keeps: a graph that is new since a world, of not too many rows. -/
def Ran (V : World) (B : Nat) (c : Conf) (m k : Nat) (W : World) : Prop := (∃ R, GSt (fun i => V.heap.size ≤ i) B c m R W ∧ R.length ≤ m + 1 + k) ∧ Keep none_ V W
theorem Ran.do_ {V W : World} {B : Nat} {c : Conf} {m k : Nat} (h : Ran V B c m k W) (hk : m + 1 + k ≤ 1000) (hT : Tabs V) (mi : Int) (o : OpR) :
    Calls Tryd.prog 18 #[.pointer (some ⟨B, 0, none⟩), .int .i64 mi, .agg o.cells.toArray] W.drew fun e w' => ∃ a f : Int, e = .returned (.tuple #[.int .i64 a, .int .i64 f]) ∧ Ran V B c m (k + 1) w' := by
  obtain ⟨⟨R, h1, h2⟩, h3⟩ := h
  refine (gdo_any (h1.still ((Keep.refl _ _).drew)) (fun i hi => Nat.le_trans h3.size hi) (by omega) mi o (hT.keep h3.drew)).mono ?_
  rintro e w' ⟨rfl, h4, h5⟩
  have := (h1.good.do_ mi o).2
  exact ⟨_, _, rfl, ⟨_, h4, by omega⟩, h3.drew.trans' h5 (fun i hi h => by omega)⟩
/-- A deed on a graph that has a copy: the copy stays. -/
theorem twin_do {s : Nat} {W W5 W6 : World} {B B2 : Nat} {c : Conf} {m : Nat} {R R2 : List (List Int)} (h1 : GSt (fun i => s ≤ i) B c m R W) (hs : s ≤ W.heap.size) (hk : Keep none_ W W5) (h2 : GSt (fun i => W.heap.size ≤ i) B2 c m R2 W5) (hk6 : Keep none_ W5 W6)
    (hR : R.length ≤ 1000) (mi : Int) (o : OpR) (hT : Tabs W5) : Calls Tryd.prog 18 #[.pointer (some ⟨B, 0, none⟩), .int .i64 mi, .agg o.cells.toArray] W6 fun e w' =>
      e = .returned (.tuple #[.int .i64 (gDoP c m R mi o).2.1, .int .i64 (gDoP c m R mi o).2.2]) ∧ GSt (fun i => s ≤ i) B c m (gDoP c m R mi o).1 w' ∧ GSt (fun i => W.heap.size ≤ i) B2 c m R2 w' ∧ Keep (fun i => s ≤ i) W5 w' := by
  have h3 : GSt (fun i => (s ≤ i ∧ i < W.heap.size) ∨ W6.heap.size ≤ i) B c m R W6 := (h1.there.still (hk.trans hk6)).mono (fun k hk => .inl hk)
  refine (gdo_any h3 (fun k hk => .inr hk) hR mi o (hT.keep hk6)).mono ?_
  rintro e w' ⟨he, h4, hk'⟩
  have hz := hk.size
  have hz6 := hk6.size
  refine ⟨he, h4.mono (fun k hk => by omega), ?_, (Keep.mono (T := fun i => s ≤ i) hk6 (fun _ _ f => f.elim)).trans' hk' (fun i hi h => by omega)⟩
  have h5 := (h2.there.still hk6).keep hk' (fun i hi h => by omega)
  exact h5.mono (fun k hk => hk.1)
end Go.Proofs.YtdplakfmdkjfdaaDoor
