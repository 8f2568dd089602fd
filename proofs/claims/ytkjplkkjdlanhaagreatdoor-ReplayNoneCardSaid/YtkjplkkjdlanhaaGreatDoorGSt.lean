/- A graph in memory with what holds of its rows: what its functions tell. -/
import Derived.Test.YtkjplkkjdlanhaaGreatDoorGCopy2
import Derived.Test.YtkjplkkjdlanhaaGreatDoorGPlain2
namespace Go.Proofs.YtkjplkkjdlanhaaGreatDoor
open Go.RowKit

/-- A graph in memory, and what holds of its rows. -/
structure GSt (F : Nat → Prop) (B : Nat) (c : Conf) (m : Nat) (R : List (List Int)) (w : World) : Prop where
  rep : ∃ vs vr vc vo, GRep F B c m vs vr vc vo R w
  good : Good c m R

section
variable {F F' : Nat → Prop} {B : Nat} {c : Conf} {m : Nat} {R : List (List Int)} {w w' : World}
theorem GSt.keep {S : Nat → Prop} (h : GSt F B c m R w) (k : Keep S w w') (hs : ∀ i, F i → ¬ S i) : GSt F B c m R w' := by
  obtain ⟨⟨vs, vr, vc, vo, h1⟩, h2⟩ := h
  exact ⟨⟨vs, vr, vc, vo, h1.keep k hs⟩, h2⟩
theorem GSt.still (h : GSt F B c m R w) (k : Keep none_ w w') : GSt F B c m R w' := h.keep k (fun _ _ f => f)
theorem GSt.mono (h : GSt F B c m R w) (hF : ∀ k, F k → F' k) : GSt F' B c m R w := by
  obtain ⟨⟨vs, vr, vc, vo, h1⟩, h2⟩ := h
  exact ⟨⟨vs, vr, vc, vo, h1.mono hF⟩, h2⟩
theorem GSt.there (h : GSt F B c m R w) : GSt (fun k => F k ∧ k < w.heap.size) B c m R w := by
  obtain ⟨⟨vs, vr, vc, vo, h1⟩, h2⟩ := h
  exact ⟨⟨vs, vr, vc, vo, h1.there⟩, h2⟩
theorem GSt.fB (h : GSt F B c m R w) : F B := by
  obtain ⟨⟨vs, vr, vc, vo, h1⟩, h2⟩ := h
  exact h1.fB
theorem GSt.row (h : GSt F B c m R w) : ∀ zs ∈ R, zs.length ≤ 1000000 := fun zs hz => by
  obtain ⟨i, hi⟩ := List.mem_iff_getElem?.1 hz
  exact Nat.le_trans (h.good.sz i zs hi) (by decide)

theorem gdo_any (h : GSt F B c m R w) (hF : ∀ k, w.heap.size ≤ k → F k) (hR : R.length ≤ 1000) (mi : Int) (o : OpR) (hT : Tabs w) :
    Calls Tryz.prog 25 #[.pointer (some ⟨B, 0, none⟩), .int .i64 mi, .agg o.cells.toArray] w fun e w' => e = .returned (.tuple #[.int .i64 (gDoP c m R mi o).2.1, .int .i64 (gDoP c m R mi o).2.2]) ∧ GSt F B c m (gDoP c m R mi o).1 w' ∧ Keep F w w' := by
  obtain ⟨⟨vs, vr, vc, vo, h1⟩, h2⟩ := h
  refine (do_any h1 hF h2 hR mi o hT).mono ?_
  rintro e w' ⟨he, ⟨vs', vo', -, h3⟩, hk⟩
  exact ⟨he, ⟨⟨_, _, _, _, h3⟩, (h2.do_ mi o).1⟩, hk⟩
theorem gcopy_any (h : GSt F B c m R w) (hm : m ≤ 1000) (hR : R.length ≤ 1000) :
    Calls Tryz.prog 26 #[.pointer (some ⟨B, 0, none⟩)] w fun e w' => ∃ B', e = .returned (.pointer (some ⟨B', 0, none⟩)) ∧ GSt (fun k => w.heap.size ≤ k) B' c m R w' ∧ Keep none_ w w' := by
  have hrow := h.row
  obtain ⟨⟨vs, vr, vc, vo, h1⟩, h2⟩ := h
  refine (copy_any h1 hm hR hrow).mono ?_
  rintro e w' ⟨B', he, h3, hk⟩
  exact ⟨B', he, ⟨h3, h2⟩, hk⟩
theorem gcount_any (h : GSt F B c m R w) : Calls Tryz.prog 35 #[.pointer (some ⟨B, 0, none⟩)] w fun e w' => e = .returned (.int .i64 (cntP m R : Int)) ∧ w' = w := by
  obtain ⟨⟨vs, vr, vc, vo, h1⟩, h2⟩ := h
  exact count_any h1
theorem greg_any (h : GSt F B c m R w) (mi r : Int) : Calls Tryz.prog 30 #[.pointer (some ⟨B, 0, none⟩), .int .i64 mi, .int .i64 r] w fun e w' => e = .returned (.int .i64 (regP m R mi r)) ∧ w' = w := by
  obtain ⟨⟨vs, vr, vc, vo, h1⟩, h2⟩ := h
  exact reg_any h1 mi r
theorem gcell_any (h : GSt F B c m R w) (i : Int) : Calls Tryz.prog 33 #[.pointer (some ⟨B, 0, none⟩), .int .i64 i] w fun e w' => e = .returned (.int .i64 (cellP m R i)) ∧ w' = w := by
  obtain ⟨⟨vs, vr, vc, vo, h1⟩, h2⟩ := h
  exact cell_any h1 i
end

/-- A config laid into a config's box. -/
theorem conf_put {W : World} {C : Nat} {c : Conf} (h : Blk W C c.cells 23) (q0 q1 q2 q3 q4 q5 q6 : Int) : ∃ W', W' = ((((((W.setCell ⟨C, 0, none⟩ (.int .i64 q0)).setCell ⟨C, 1, none⟩ (.int .i64 q1)).setCell ⟨C, 2, none⟩ (.int .i64 q2)).setCell ⟨C, 3, none⟩ (.int .i64 q3)).setCell ⟨C, 4, none⟩ (.int .i64 q4)).setCell ⟨C, 5, none⟩ (.int .i64 q5)).setCell ⟨C, 6, none⟩ (.int .i64 q6) ∧
    Blk W' C [.int .i64 q0, .int .i64 q1, .int .i64 q2, .int .i64 q3, .int .i64 q4, .int .i64 q5, .int .i64 q6] 23 ∧ Keep (only C) W W' :=
  ⟨_, rfl, ((((((h.set 0 (.int .i64 q0)).set 1 (.int .i64 q1)).set 2 (.int .i64 q2)).set 3 (.int .i64 q3)).set 4 (.int .i64 q4)).set 5 (.int .i64 q5)).set 6 (.int .i64 q6),
    ((((((((Keep.refl (only C) W).put 0 (.int .i64 q0)).put 1 (.int .i64 q1)).put 2 (.int .i64 q2)).put 3 (.int .i64 q3)).put 4 (.int .i64 q4)).put 5 (.int .i64 q5)).put 6 (.int .i64 q6))⟩

/-- A small config. -/
theorem little_ok (c : Conf) : c.little.ok = true := by
  obtain ⟨b, w, m, r, cc, l, s⟩ := c
  have e : ∀ (p q : Prop) [Decidable p] [Decidable q], p → q → (decide p && decide q) = true := fun p q _ _ hp hq => by rw [decide_eq_true hp, decide_eq_true hq]; rfl
  have e2 : ∀ (x : Bool) (q : Prop) [Decidable q], x = true → q → (x && decide q) = true := fun x q _ hp hq => by rw [hp, decide_eq_true hq]; rfl
  unfold Conf.ok Conf.little
  simp only
  exact e2 _ _ (e2 _ _ (e2 _ _ (e2 _ _ (e2 _ _ (e _ _ (by omega) (by omega)) (by omega)) (by omega)) (by omega)) (by omega)) (by omega)
theorem little_nums (c : Conf) : ∃ m r n : Nat, c.little.m = m ∧ c.little.r = r ∧ c.little.c = n ∧ 1 ≤ m ∧ m ≤ 4 ∧ 1 ≤ r ∧ r ≤ 5 ∧ n ≤ 3 := by
  obtain ⟨b, w, m, r, cc, l, s⟩ := c
  exact ⟨(1 + m % 4).toNat, (1 + r % 5).toNat, (cc % 4).toNat, by simp only [Conf.little]; omega, by simp only [Conf.little]; omega, by simp only [Conf.little]; omega, by omega, by omega, by omega, by omega, by omega⟩
theorem gnew_any (c : Conf) (w : World) (hT : Tabs w) (hok : c.ok = true) (m r n : Nat) (hm : c.m = m) (hr : c.r = r) (hn : c.c = n) : Calls Tryz.prog 15 #[.agg c.cells.toArray] w fun e w' => ∃ B, e = .returned (.tuple #[.pointer (some ⟨B, 0, none⟩), .int .i64 0]) ∧
    GSt (fun k => w.heap.size ≤ k) B c m (rows0 m r n) w' ∧ Keep none_ w w' := by
  refine (new_any c w hT hok m r n hm hr hn).mono ?_
  rintro e w' ⟨B, he, h1, hk⟩
  have hbd : r ≤ 64 ∧ n ≤ 64 := by
    simp [Conf.ok] at hok
    omega
  exact ⟨B, he, ⟨h1, Good.rows0 hr hn (by omega) (by omega)⟩, hk⟩
end Go.Proofs.YtkjplkkjdlanhaaGreatDoor
