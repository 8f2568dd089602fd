/- Plain facts on events and cycles, with no program in sight. -/
import Derived.Test.YtcopkhhgcgfelaaDoorArgs
namespace Go.Proofs.YtcopkhhgcgfelaaDoor
open Go.RowKit

structure Ev where
  pick : Int
  who : Int
  kind : Int
  op : Int
  code : Int
  value : Int
def Ev.cells (e : Ev) : List Value := [.int .i64 e.pick, .int .i64 e.who, .int .i64 e.kind, .int .i64 e.op, .int .i64 e.code, .int .i64 e.value]
def Ev.wf (e : Ev) : Prop := (Lit.int .i64 e.pick).wf = true ∧ (Lit.int .i64 e.who).wf = true ∧ (Lit.int .i64 e.kind).wf = true ∧ (Lit.int .i64 e.op).wf = true ∧ (Lit.int .i64 e.code).wf = true ∧ (Lit.int .i64 e.value).wf = true
structure Cy where
  number : Int
  start : Int
  marked : Int
  rested : Int
  freed : Int
def Cy.cells (c : Cy) : List Value := [.int .i64 c.number, .int .i64 c.start, .int .i64 c.marked, .int .i64 c.rested, .int .i64 c.freed]
def Cy.wf (e : Cy) : Prop := (Lit.int .i64 e.number).wf = true ∧ (Lit.int .i64 e.start).wf = true ∧ (Lit.int .i64 e.marked).wf = true ∧ (Lit.int .i64 e.rested).wf = true ∧ (Lit.int .i64 e.freed).wf = true

def ints5 : List Leaf := [.int .i64, .int .i64, .int .i64, .int .i64, .int .i64]
def ints6 : List Leaf := [.int .i64, .int .i64, .int .i64, .int .i64, .int .i64, .int .i64]
theorem ev_of {r : List Value} (h : FlatOk [.int .i64, .int .i64, .int .i64, .int .i64, .int .i64, .int .i64] r) : ∃ e : Ev, r = e.cells ∧ e.wf := by
  obtain ⟨_, h0, a0, rfl, w0⟩ := h.at_ 0 (.int .i64) rfl
  obtain ⟨_, h1, a1, rfl, w1⟩ := h.at_ 1 (.int .i64) rfl
  obtain ⟨_, h2, a2, rfl, w2⟩ := h.at_ 2 (.int .i64) rfl
  obtain ⟨_, h3, a3, rfl, w3⟩ := h.at_ 3 (.int .i64) rfl
  obtain ⟨_, h4, a4, rfl, w4⟩ := h.at_ 4 (.int .i64) rfl
  obtain ⟨_, h5, a5, rfl, w5⟩ := h.at_ 5 (.int .i64) rfl
  refine ⟨⟨a0, a1, a2, a3, a4, a5⟩, ?_, w0, w1, w2, w3, w4, w5⟩
  have hl := h.len
  match r, hl with
  | [x0, x1, x2, x3, x4, x5], _ => simp at h0 h1 h2 h3 h4 h5; subst h0 h1 h2 h3 h4 h5; rfl
theorem cy_of {r : List Value} (h : FlatOk [.int .i64, .int .i64, .int .i64, .int .i64, .int .i64] r) : ∃ e : Cy, r = e.cells ∧ e.wf := by
  obtain ⟨_, h0, a0, rfl, w0⟩ := h.at_ 0 (.int .i64) rfl
  obtain ⟨_, h1, a1, rfl, w1⟩ := h.at_ 1 (.int .i64) rfl
  obtain ⟨_, h2, a2, rfl, w2⟩ := h.at_ 2 (.int .i64) rfl
  obtain ⟨_, h3, a3, rfl, w3⟩ := h.at_ 3 (.int .i64) rfl
  obtain ⟨_, h4, a4, rfl, w4⟩ := h.at_ 4 (.int .i64) rfl
  refine ⟨⟨a0, a1, a2, a3, a4⟩, ?_, w0, w1, w2, w3, w4⟩
  have hl := h.len
  match r, hl with
  | [x0, x1, x2, x3, x4], _ => simp at h0 h1 h2 h3 h4; subst h0 h1 h2 h3 h4; rfl
theorem list_of {α : Type} {f : α → List Value} {P : α → Prop} {Q : List Value → Prop} (h : ∀ r, Q r → ∃ e, r = f e ∧ P e) : ∀ rs : List (List Value), (∀ r ∈ rs, Q r) → ∃ es : List α, rs = es.map f ∧ ∀ e ∈ es, P e
  | [], _ => ⟨[], rfl, fun _ h => by cases h⟩
  | r :: rs, hq => by
    obtain ⟨e, rfl, he⟩ := h r (hq r (by simp))
    obtain ⟨es, rfl, hes⟩ := list_of h rs (fun r hr => hq r (by simp [hr]))
    exact ⟨e :: es, rfl, fun x hx => by
      rcases List.mem_cons.1 hx with rfl | hx
      · exact he
      · exact hes x hx⟩

/-! ### The longest -/
def lgStep (s : Int × Bool) (c : Cy) : Int × Bool := if 0 ≤ c.rested ∧ (s.2 = false ∨ s.1 < c.rested - c.start) then (c.rested - c.start, true) else s
def longest (l : List Cy) : Int × Bool := l.foldl lgStep (0, false)
def Cy.near (c : Cy) : Prop := c.rested ≤ 1152921504606846976 ∧ c.start ≤ 1152921504606846976 ∧ -1152921504606846976 ≤ c.start
theorem lg_snoc (l : List Cy) (k : Nat) (h : k < l.length) : longest (l.take (k + 1)) = lgStep (longest (l.take k)) l[k] := by
  rw [List.take_succ_eq_append_getElem h, longest, longest, List.foldl_append]; rfl

/-! ### Cycles -/
structure CS where
  out : List Cy
  marked : Bool
  rested : Bool
def upd (c : Cy) (m r : Bool) (e : Ev) : Cy × Bool × Bool :=
  if e.kind = 3 ∧ m = false then ({ c with marked := e.pick }, true, r)
  else if e.kind = 4 ∧ r = false then ({ c with rested := e.pick }, m, true)
  else if e.kind = 5 ∧ r = false then ({ c with freed := c.freed + 1 }, m, r)
  else (c, m, r)
def c0 (e : Ev) : Cy := ⟨e.value, e.pick, -1, -1, 0⟩
def CS.step (s : CS) (e : Ev) : CS :=
  if e.kind = 2 then ⟨s.out ++ [c0 e], false, false⟩
  else match s.out.getLast? with
    | none => s
    | some c => ⟨s.out.dropLast ++ [(upd c s.marked s.rested e).1], (upd c s.marked s.rested e).2.1, (upd c s.marked s.rested e).2.2⟩
def cyc (l : List Ev) : CS := l.foldl CS.step ⟨[], false, false⟩
theorem cyc_snoc (l : List Ev) (k : Nat) (h : k < l.length) : cyc (l.take (k + 1)) = (cyc (l.take k)).step l[k] := by
  rw [List.take_succ_eq_append_getElem h, cyc, cyc, List.foldl_append]; rfl

/-- A cycle's own events, one by one. -/
def own1 (s : Cy × Bool × Bool) (e : Ev) : Cy × Bool × Bool := upd s.1 s.2.1 s.2.2 e
def ownOf (c : Cy) (l : List Ev) : Cy × Bool × Bool := (l.takeWhile fun e => e.kind != 2).foldl own1 (c, false, false)
def refc : List Ev → List Cy
  | [] => []
  | e :: l => if e.kind = 2 then (ownOf (c0 e) l).1 :: refc l else refc l

theorem steps_some (l : List Ev) : ∀ (o : List Cy) (c : Cy) (m r : Bool), (l.foldl CS.step ⟨o ++ [c], m, r⟩).out = o ++ (((l.takeWhile fun e => e.kind != 2).foldl own1 (c, m, r)).1 :: refc l) := by
  induction l with
  | nil => intro o c m r; rfl
  | cons e l ih =>
    intro o c m r
    rw [List.foldl_cons]
    by_cases h : e.kind = 2
    · have e1 : CS.step ⟨o ++ [c], m, r⟩ e = ⟨(o ++ [c]) ++ [c0 e], false, false⟩ := by simp [CS.step, h]
      rw [e1, ih]
      simp [h, refc, ownOf]
    · have e1 : CS.step ⟨o ++ [c], m, r⟩ e = ⟨o ++ [(upd c m r e).1], (upd c m r e).2.1, (upd c m r e).2.2⟩ := by simp [CS.step, h]
      rw [e1, ih]
      simp [h, refc, own1]
theorem steps_none (l : List Ev) : (l.foldl CS.step ⟨[], false, false⟩).out = refc l := by
  induction l with
  | nil => rfl
  | cons e l ih =>
    rw [List.foldl_cons]
    by_cases h : e.kind = 2
    · have e1 : CS.step ⟨[], false, false⟩ e = ⟨[] ++ [c0 e], false, false⟩ := by simp [CS.step, h]
      rw [e1, steps_some]
      simp [refc, ownOf, h]
    · have e1 : CS.step ⟨[], false, false⟩ e = ⟨[], false, false⟩ := by simp [CS.step, h]
      rw [e1, ih]
      simp [refc, h]
theorem cyc_ref (l : List Ev) : (cyc l).out = refc l := steps_none l

/-! ### Sums -/
structure Sm where
  ops : Int
  errs : Int
  allocs : Int
  freed : Int
  cycles : Int
  full : Int
def b1 (b : Bool) : Int := if b then 1 else 0
theorem b1_bd (b : Bool) : 0 ≤ b1 b ∧ b1 b ≤ 1 := by cases b <;> simp [b1]
/-- Is an event of an alloc? The programs as lists of operations' kinds. -/
def isAl (pp : List (List Int)) (e : Ev) : Bool := decide (0 ≤ e.who) && (decide (e.who < pp.length) && (decide (0 ≤ e.op) && (decide (e.op < (pp.getD e.who.toNat []).length) && ((pp.getD e.who.toNat []).getD e.op.toNat 0 == 1))))
def Sm.step (pp : List (List Int)) (s : Sm) (e : Ev) : Sm :=
  { ops := s.ops + b1 (e.kind == 1), errs := s.errs + b1 (e.kind == 1 && e.code != 0), allocs := s.allocs + b1 (e.kind == 1 && (e.code == 0 && isAl pp e)), freed := s.freed + b1 (e.kind == 5), cycles := s.cycles + b1 (e.kind == 2), full := s.full + b1 (e.kind == 1 && e.code == 10) }
def tot (pp : List (List Int)) (l : List Ev) : Sm := l.foldl (Sm.step pp) ⟨0, 0, 0, 0, 0, 0⟩
theorem tot_snoc (pp : List (List Int)) (l : List Ev) (k : Nat) (h : k < l.length) : tot pp (l.take (k + 1)) = (tot pp (l.take k)).step pp l[k] := by
  rw [List.take_succ_eq_append_getElem h, tot, tot, List.foldl_append]; rfl
def Sm.upto (s : Sm) (n : Int) : Prop := 0 ≤ s.ops ∧ s.ops ≤ n ∧ 0 ≤ s.errs ∧ s.errs ≤ n ∧ 0 ≤ s.allocs ∧ s.allocs ≤ n ∧ 0 ≤ s.freed ∧ s.freed ≤ n ∧ 0 ≤ s.cycles ∧ s.cycles ≤ n ∧ 0 ≤ s.full ∧ s.full ≤ n
theorem tot_upto (pp : List (List Int)) (l : List Ev) (k : Nat) (h : k ≤ l.length) : (tot pp (l.take k)).upto k := by
  induction k with
  | zero => simp [tot, Sm.upto]
  | succ k ih =>
    have := ih (by omega)
    rw [tot_snoc pp l k (by omega)]
    obtain ⟨h1, h2, h3, h4, h5, h6, h7, h8, h9, h10, h11, h12⟩ := this
    have g1 := b1_bd (l[k].kind == 1); have g2 := b1_bd (l[k].kind == 1 && l[k].code != 0); have g3 := b1_bd (l[k].kind == 1 && (l[k].code == 0 && isAl pp l[k]))
    have g4 := b1_bd (l[k].kind == 5); have g5 := b1_bd (l[k].kind == 2); have g6 := b1_bd (l[k].kind == 1 && l[k].code == 10)
    simp only [Sm.upto, Sm.step]
    omega
def Sm.add (a b : Sm) : Sm := ⟨a.ops + b.ops, a.errs + b.errs, a.allocs + b.allocs, a.freed + b.freed, a.cycles + b.cycles, a.full + b.full⟩
theorem tot_steps (pp : List (List Int)) (l : List Ev) : ∀ s : Sm, l.foldl (Sm.step pp) s = s.add (tot pp l) := by
  induction l with
  | nil => intro s; simp [tot, Sm.add]
  | cons e l ih =>
    intro s
    rw [tot, List.foldl_cons, List.foldl_cons, ih, ih (Sm.step pp ⟨0, 0, 0, 0, 0, 0⟩ e)]
    simp only [Sm.add, Sm.step]
    congr 1 <;> omega
theorem tot_append (pp : List (List Int)) (a b : List Ev) : tot pp (a ++ b) = (tot pp a).add (tot pp b) := by
  rw [tot, List.foldl_append, tot_steps]; rfl

/-! ### Codes -/
/-- How many operations ended with the code j. -/
def cnt (l : List Ev) (j : Nat) : Nat := (l.filter fun e => e.kind == 1 && e.code == (j : Int)).length
theorem cnt_append (a b : List Ev) (j : Nat) : cnt (a ++ b) j = cnt a j + cnt b j := by simp [cnt]
theorem cnt_le (l : List Ev) (j : Nat) : cnt l j ≤ l.length := List.length_filter_le _ _
theorem cnt_snoc (l : List Ev) (k : Nat) (h : k < l.length) (j : Nat) : cnt (l.take (k + 1)) j = cnt (l.take k) j + if l[k].kind = 1 ∧ l[k].code = (j : Int) then 1 else 0 := by
  rw [List.take_succ_eq_append_getElem h, cnt_append]
  congr 1
  by_cases e : l[k].kind = 1 ∧ l[k].code = (j : Int)
  · rw [if_pos e]; simp [cnt, e.1, e.2]
  · rw [if_neg e]; simp only [cnt, List.length_eq_zero_iff, List.filter_eq_nil_iff]
    intro x hx
    simp at hx; subst hx
    simpa using e
end Go.Proofs.YtcopkhhgcgfelaaDoor
