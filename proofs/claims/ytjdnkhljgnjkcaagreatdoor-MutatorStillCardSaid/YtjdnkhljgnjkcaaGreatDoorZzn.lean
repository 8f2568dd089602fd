/- Parts of a walk, put together by a small program of mine from texts of their own: Op3 MutPlain GPlain MutOk MutEval Clone. -/
import Derived.Test.YtjdnkhljgnjkcaaGreatDoorZzm
import Derived.Laws.EntriesVeiled
import Derived.Test.YtjdnkhljgnjkcaaGreatDoorZzh
import Derived.Test.YtjdnkhljgnjkcaaGreatDoorZzl
import Derived.Test.YtjdnkhljgnjkcaaGreatDoorRows
import Derived.Test.YtjdnkhljgnjkcaaGreatDoorZzc
import Derived.Lib.SliceRun
import Derived.Lib.Hide
/- What Check tells of an operation, by a config. -/
namespace Go.Proofs.YtjdnkhljgnjkcaaGreatDoor
open Go.RowKit Go.Sort

def numOf (o : OpR) (j : Nat) : Int := if j = 0 then o.a else if j = 1 then o.b else o.c
def chkN (c : Conf) (o : OpR) : Nat → Int
  | 0 => 0
  | j + 1 => letterStep c (chkN c o j) ((useL o.k).getD j 0) (numOf o j)
def chk (c : Conf) (o : OpR) : Int := if c.ok && isKind o.k then chkN c o (useL o.k).length else 1

/-- What lies in Check's boxes behind j letters. -/
structure CkI (c : Conf) (o : OpR) (C B O V : Nat) (j : Nat) (W : World) : Prop where
  hc : Blk W C c.cells 23
  hb : Blk W B o.cells 61
  ho : Blk W O [.int .i64 (chkN c o j)] 25
  hv : Blk W V [.func (.func 173) #[] #[.pointer (some ⟨O, 0, none⟩)]] 208

theorem CkI.later {c : Conf} {o : OpR} {C B O V j : Nat} {W W' : World} (h : CkI c o C B O V j W) (k : Keep none_ W W') : CkI c o C B O V j W' :=
  ⟨k.blk h.hc (fun f => f), k.blk h.hb (fun f => f), k.blk h.ho (fun f => f), k.blk h.hv (fun f => f)⟩
theorem CkI.step {c : Conf} {o : OpR} {C B O V j : Nat} {W : World} {l : UInt8} (h : CkI c o C B O V j W) (hl : (useL o.k)[j]? = some l) (hC : C ≠ O) (hB : B ≠ O) (hV : V ≠ O) :
    Calls Tryz.prog 175 (#[.int .u8 l.toNat, .pointer (some ⟨B, j + 1, none⟩)] ++ #[.pointer (some ⟨V, 0, none⟩), .pointer (some ⟨C, 0, none⟩)]) W fun x W' => x = .returned (.tuple #[]) ∧ CkI c o C B O V (j + 1) W' ∧ Keep (only O) W W' := by
  have hj3 : j < 3 := Nat.lt_of_lt_of_le (List.getElem?_eq_some_iff.1 hl).1 (useL_len o.k)
  have hn : W.cell? ⟨B, j + 1, none⟩ = some (.int .i64 (numOf o j)) := by
    refine h.hb.cell (j + 1) ?_
    rcases (by omega : j = 0 ∨ j = 1 ∨ j = 2) with rfl | rfl | rfl <;> rfl
  refine (letter_any c l (numOf o j) (chkN c o j) B (j + 1) O V C W h.ho h.hv h.hc hn).mono ?_
  rintro x W' ⟨rfl, hb, hk⟩
  have e : chkN c o (j + 1) = letterStep c (chkN c o j) l (numOf o j) := by
    rw [chkN, List.getD_eq_getElem?_getD, hl]; rfl
  exact ⟨rfl, ⟨hk.blk h.hc hC, hk.blk h.hb hB, by rw [e]; exact hb, hk.blk h.hv hV⟩, hk⟩

set_option maxRecDepth 4000 in
set_option maxHeartbeats 4000000 in
theorem check_any (c : Conf) (o : OpR) (w : World) (hT : Tabs w) : Calls Tryz.prog 141 #[.agg c.cells.toArray, .agg o.cells.toArray] w fun e w' => e = .returned (.int .i64 (chk c o)) ∧ Keep none_ w w' := by
  obtain ⟨W0, hW0⟩ : ∃ W', W' = (w.alloc (.cells c.cells.toArray 23)).alloc (.cells o.cells.toArray 61) := ⟨_, rfl⟩
  have HC0 : Hid (Blk W0 w.heap.size c.cells 23) := by rw [hW0]; exact (Blk.new w _ _).alloc _
  have HO0 : Hid (Blk W0 (w.heap.size + 1) o.cells 61) := by rw [hW0]; have h := Blk.new (w.alloc (.cells c.cells.toArray 23)) o.cells 61; simp only [World.size_alloc] at h; exact h
  have HK0 : Hid (Keep none_ w W0) := by rw [hW0]; exact ((Keep.refl _ _).alloc _).alloc _
  have HT := Lib.hid (hT.keep HK0.out)
  have HR := Lib.hid (right_any c W0 HT.out)
  have HIS := Lib.hid (is_any o.k)
  clear hT
  have k0 : W0.cell? ⟨w.heap.size, 0, none⟩ = some (.int .i64 c.b) := HC0.out.cell 0 rfl
  have k1 : W0.cell? ⟨w.heap.size, 1, none⟩ = some (.int .i64 c.w) := HC0.out.cell 1 rfl
  have k2 : W0.cell? ⟨w.heap.size, 2, none⟩ = some (.int .i64 c.m) := HC0.out.cell 2 rfl
  have k3 : W0.cell? ⟨w.heap.size, 3, none⟩ = some (.int .i64 c.r) := HC0.out.cell 3 rfl
  have k4 : W0.cell? ⟨w.heap.size, 4, none⟩ = some (.int .i64 c.c) := HC0.out.cell 4 rfl
  have k5 : W0.cell? ⟨w.heap.size, 5, none⟩ = some (.int .i64 c.l) := HC0.out.cell 5 rfl
  have k6 : W0.cell? ⟨w.heap.size, 6, none⟩ = some (.int .i64 c.s) := HC0.out.cell 6 rfl
  have hcc : c.cells.toArray = #[.int .i64 c.b, .int .i64 c.w, .int .i64 c.m, .int .i64 c.r, .int .i64 c.c, .int .i64 c.l, .int .i64 c.s] := rfl
  have hoc : o.cells.toArray = #[.int .i64 o.k, .int .i64 o.a, .int .i64 o.b, .int .i64 o.c] := rfl
  rw [hcc, hoc] at hW0 ⊢
  rw [hcc] at HR
  clear hcc hoc
  go_enter Tryz.func141, Tryz.ntmps141
  go_wp2_with fail
  rw [← hW0]
  clear hW0 k0 k1 k2 k3 k4 k5 k6
  refine HR.out.mono ?_
  rintro e w1 ⟨rfl, hk1⟩
  have HC1 := Lib.hid (hk1.blk HC0.out (fun f => f))
  have HO1 := Lib.hid (hk1.blk HO0.out (fun f => f))
  have HK1 := Lib.hid (HK0.out.trans hk1)
  have HT1 := Lib.hid (HT.out.keep hk1)
  have HSZ : Hid (w.heap.size + 2 ≤ w1.heap.size) := by have h := HO1.out.lt; unfold Hid; omega
  clear hk1 HC0 HO0 HK0 HT HR
  cases hok : c.ok with
  | false =>
    have HE : Hid (chk c o = 1) := by simp [Hid, chk, hok]
    clear hok
    go_wp2_with fail
    go_ret
    exact ⟨by rw [HE.out]; rfl, HK1.out⟩
  | true =>
    cases hik : isKind o.k with
    | false =>
      have HE : Hid (chk c o = 1) := by simp [Hid, chk, hik]
      have d0 : w1.cell? ⟨w.heap.size + 1, 0, none⟩ = some (.int .i64 o.k) := HO1.out.cell 0 rfl
      rw [hik] at HIS
      clear hok hik
      go_wp2_with (go_at_call 172; refine (HIS.out _).mono ?_; rintro e w1 ⟨rfl, rfl⟩)
      go_ret
      exact ⟨by rw [HE.out]; rfl, HK1.out⟩
    | true =>
      have HE : Hid (chk c o = chkN c o (useL o.k).length) := by simp [Hid, chk, hok, hik]
      have d0 : w1.cell? ⟨w.heap.size + 1, 0, none⟩ = some (.int .i64 o.k) := HO1.out.cell 0 rfl
      rw [hik] at HIS
      clear hok hik
      have hmf : ∀ (fn : Fn) (first cap : Array Value) (w : World), (Instr.makeFunc fn first cap).run Tryz.prog w = .ok (.func fn first cap) w := fun _ _ _ _ => rfl
      obtain ⟨W2, hW2⟩ : ∃ W', W' = (w1.alloc (.cells #[.int .i64 0] 25)).alloc (.cells #[.func (.func 173) #[] #[.pointer (some ⟨w1.heap.size, 0, none⟩)]] 208) := ⟨_, rfl⟩
      have hk2 : Keep none_ w1 W2 := by rw [hW2]; exact ((Keep.refl _ _).alloc _).alloc _
      have hO2 : Blk W2 w1.heap.size [.int .i64 0] 25 := by rw [hW2]; exact (Blk.new w1 _ _).alloc _
      have hV2 : Blk W2 (w1.heap.size + 1) [.func (.func 173) #[] #[.pointer (some ⟨w1.heap.size, 0, none⟩)]] 208 := by rw [hW2]; have h := Blk.new (w1.alloc (.cells #[.int .i64 0] 25)) [.func (.func 173) #[] #[.pointer (some ⟨w1.heap.size, 0, none⟩)]] 208; simp only [World.size_alloc] at h; exact h
      have hI : CkI c o w.heap.size (w.heap.size + 1) w1.heap.size (w1.heap.size + 1) 0 W2 := ⟨hk2.blk HC1.out (fun f => f), hk2.blk HO1.out (fun f => f), hO2, hV2⟩
      have hsz := HSZ.out
      have HEACH := Lib.hid (each_any 175 #[.pointer (some ⟨w1.heap.size + 1, 0, none⟩), .pointer (some ⟨w.heap.size, 0, none⟩)] (only w1.heap.size) (CkI c o w.heap.size (w.heap.size + 1) w1.heap.size (w1.heap.size + 1)) (w.heap.size + 1) o.k W2 (HT1.out.keep hk2) (hk2.still d0) hI
        (fun args w => by simp [callFunc, Tryz.func175, go_sem]; rfl) (fun j W W' h k => h.later k) (fun i hi => by unfold only at hi; have := hV2.lt; omega)
        (fun j l W hl h k => h.step hl (by omega) (by omega) (by omega)))
      have HK2 := Lib.hid (HK1.out.trans hk2)
      clear hk2 hO2 hV2 hI hsz
      go_wp2_with (go_at_call 172; refine (HIS.out _).mono ?_; rintro e w1 ⟨rfl, rfl⟩)
      rw [← hW2]
      clear hW2
      refine HEACH.out.mono ?_
      rintro e w3 ⟨rfl, hI3, hk3⟩
      have c3 := hI3.ho.cell 0 rfl
      have hK := HK2.out.trans' hk3 (fun i hi h => absurd hi (by unfold only at h; have := HSZ.out; omega))
      clear hI3 hk3
      go_wp2_with fail
      go_ret
      exact ⟨by rw [HE.out]; rfl, hK⟩
end Go.Proofs.YtjdnkhljgnjkcaaGreatDoor

/- A mutator, plainly: what each of its steps makes of what is shared, and of it. Without a program. -/
namespace Go.Proofs.YtjdnkhljgnjkcaaGreatDoor

/-! ### What is shared -/
structure Ev where
  who : Nat
  kind : Nat
  op : Nat
  code : Int
  value : Nat
deriving DecidableEq
structure Sh where
  H : HS
  B : Bd
  Q : Qu
  flag : Bool
  boxes : List (List Nat)
/-- What overwrites a word: a field, a cell. -/
inductive RD where
  | field (base : Nat) (f : Int) (v : Nat)
  | cell (i : Int) (v : Nat)
/-- A mutator's next step. -/
inductive MD where
  | nil
  | start (o : OpR)
  | once (k : Int)
  | note (v c : Nat) (t : MD)
  | add (v : Nat) (t : MD)
  | pour (c : Nat) (t : MD)
  | paint (c : Nat) (fresh : Bool) (t : MD)
  | raise (t : MD)
  | field (base : Nat) (f : Int) (t : MD)
  | load (o : OpR) (base : Nat)
  | get (o : OpR)
  | lay (v : Nat) (rd : RD)
  | last (rd : RD)
  | alloc (o : OpR) (k : Nat)
  | assign (o : OpR) (k : Nat)
  | carve (o : OpR) (all : List Nat)
  | claim (o : OpR) (k : Nat)
  | again (o : OpR) (k : Nat)
  | sweep (sl : List Nat) (c : Nat) (t : MD)
  | fill (o : OpR) (a : Nat)
  | zero (o : OpR) (a i : Nat)
structure MS where
  id : Nat
  c : Conf
  regs : List Nat
  buf : List Nat
  mode : Nat
  color : Nat
  want : Nat
  prog : List OpR
  res : List (Int × Nat)
  next : MD
  held : Nat
  spent : Nat
  most0 : Nat
  most1 : Nat
  ans : Bool
/-- What a step makes: what is shared, the mutator, the next step, what is told. -/
structure StepR where
  s : Sh
  m : MS
  next : MD
  ev : Option Ev
def Sh.box (s : Sh) (i : Nat) : List Nat := s.boxes.getD i []
def noteD (v c : Nat) (t : MD) : MD := if v = 0 then t else .note v c t
def MS.pourD (m : MS) (c : Nat) (t : MD) : MD := if m.buf = [] then t else .pour c t
def MS.layD (m : MS) (v : Nat) (rd : RD) : MD := if m.mode = 0 then .last rd else .lay v rd
def MS.did (m : MS) (code : Int) (v : Nat) : MS := { m with held := 0, res := m.res ++ [(code, v)] }
def MS.ev (m : MS) (code : Int) (v : Nat) : Ev := ⟨m.id, 1, m.res.length, code, v⟩
def didR (s : Sh) (m : MS) (code : Int) (v : Nat) : StepR := ⟨s, m.did code v, .nil, some (m.ev code v)⟩
def gotR (s : Sh) (m : MS) (r : Int) (v : Nat) : StepR := didR s { m with regs := m.regs.set r.toNat v } 0 v
def fieldR (s : Sh) (m : MS) (base : Nat) (f : Int) (t : MD) : StepR := if base = 0 then didR s m 6 0 else ⟨s, m, .field base f t, none⟩
def MS.reg (m : MS) (r : Int) : Nat := m.regs.getD r.toNat 0
def carveD (o : OpR) (all : List Nat) : MD := if all.length = 1 then .fill o (all.getD 0 0) else .carve o all
def startR (s : Sh) (m : MS) (o : OpR) : StepR :=
  if chk m.c o ≠ 0 then didR s m (chk m.c o) 0
  else if o.k = 1 then ⟨s, m, .alloc o (ofK o.b), none⟩
  else if o.k = 2 then fieldR s m (m.reg o.b) o.c (.load o (m.reg o.b))
  else if o.k = 3 then fieldR s m (m.reg o.a) o.b (m.layD (m.reg o.c) (.field (m.reg o.a) o.b (m.reg o.c)))
  else if o.k = 4 then ⟨s, m, .get o, none⟩
  else if o.k = 5 then ⟨s, m, m.layD (m.reg o.b) (.cell o.a (m.reg o.b)), none⟩
  else if o.k = 6 then didR s { m with regs := m.regs.set o.a.toNat 0 } 0 0
  else if o.k = 7 then gotR s m o.a (m.reg o.b)
  else didR s m 0 0
def onceM (m : MS) (k : Int) : MS :=
  if k = 1 then { m with buf := [], mode := 2, want := 1 - m.color }
  else if k = 2 then m
  else if k = 3 then { m with color := m.want }
  else if k = 5 then { m with mode := 1 }
  else { m with buf := [], mode := 0 }
def RD.read (H : HS) : RD → Nat
  | .field base f _ => H.loadP base f
  | .cell i _ => H.cellP i
def RD.write (H : HS) : RD → HS
  | .field base f v => H.storeP base f v
  | .cell i v => H.setP i v
def headN (l : List Nat) : Nat := l.headD 0
/-- One step. -/
def stepM (s : Sh) (m : MS) : MD → StepR
  | .nil => ⟨s, m, .nil, none⟩
  | .start o => startR s m o
  | .once k => ⟨{ s with B := s.B.ansB m.id }, onceM m k, .nil, none⟩
  | .note v c t =>
    if !s.H.bn v || s.H.colorP v == c then ⟨s, m, t, none⟩
    else if m.buf.length = m.c.l.toNat then ⟨s, m, m.pourD c (.add v t), none⟩
    else ⟨s, { m with buf := m.buf ++ [v] }, t, none⟩
  | .add v t => if m.buf.length = m.c.l.toNat then ⟨s, m, t, none⟩ else ⟨s, { m with buf := m.buf ++ [v] }, t, none⟩
  | .pour c t => if s.box m.id = [] then ⟨{ s with boxes := s.boxes.set m.id m.buf }, { m with buf := [] }, t, none⟩ else ⟨s, m, .paint c false t, none⟩
  | .paint c fresh t =>
    ⟨{ s with H := s.H.paintP (headN m.buf) c }, { m with buf := m.buf.tail },
      if m.buf.tail ≠ [] then .paint c (fresh || s.H.paints (headN m.buf) c) t else if (fresh || s.H.paints (headN m.buf) c) = true then .raise t else t, none⟩
  | .raise t => ⟨{ s with flag := true }, m, t, none⟩
  | .field base f t => if f < 0 ∨ ((s.H.fieldsP base).1 : Int) ≤ f then didR s m 7 0 else ⟨s, m, t, none⟩
  | .load o base => gotR s m o.a (s.H.loadP base o.c)
  | .get o => gotR s m o.a (s.H.cellP o.b)
  | .lay v rd => ⟨s, { m with held := rd.read s.H }, noteD (rd.read s.H) m.want (if m.mode = 2 then noteD v m.want (.last rd) else .last rd), none⟩
  | .last rd => didR { s with H := rd.write s.H } m 0 0
  | .alloc o k => if (s.H.takeP k).2.1 = 0 then ⟨{ s with H := (s.H.takeP k).2.2 }, m, .fill o (s.H.takeP k).1, none⟩ else ⟨s, m, .assign o k, none⟩
  | .assign o k => if (s.H.assignP k).2.1 = 0 then ⟨{ s with H := (s.H.assignP k).2.2 }, m, carveD o (s.H.assignP k).1, none⟩ else ⟨s, m, .claim o k, none⟩
  | .carve o all => ⟨{ s with H := s.H.putP (all.getD (all.length - 1) 0) }, m, carveD o (all.take (all.length - 1)), none⟩
  | .claim o k =>
    match s.Q.rw k with
    | [] => ⟨s, m, .again o k, none⟩
    | x :: _ => ⟨{ s with Q := s.Q.take k }, m, .sweep (s.H.slots x.toNat) m.color (.again o k), none⟩
  | .again o k => if (s.H.takeP k).2.1 = 0 then ⟨{ s with H := (s.H.takeP k).2.2 }, m, .fill o (s.H.takeP k).1, none⟩ else didR s m 10 0
  | .sweep sl c t =>
    match sl with
    | [] => ⟨{ s with Q := if s.Q.opn = 0 then s.Q else s.Q.doneQ }, m, t, none⟩
    | a :: r => if !s.H.bn a || s.H.colorP a == c then ⟨s, m, .sweep r c t, none⟩ else ⟨{ s with H := s.H.freeP a }, m, .sweep r c t, some ⟨m.id, 5, 0, 0, a⟩⟩
  | .fill o a => ⟨{ s with H := s.H.beginP a o.b }, m, .zero o a 0, none⟩
  | .zero o a i => if (i : Int) = o.b then gotR { s with H := s.H.bearP a m.color } m o.a a else ⟨{ s with H := s.H.storeP a i 0 }, m, .zero o a (i + 1), none⟩
/-- Notes of registers, ahead of the last step of an answer of Scan. -/
def scanD (want : Nat) : List Nat → MD
  | [] => .once 3
  | v :: l => noteD v want (scanD want l)
/-- The first step of what is to be done. -/
def beginD (s : Sh) (m : MS) : MD :=
  if s.B.pend m.id then
    if s.B.kind = 3 then scanD m.want m.regs
    else if s.B.kind = 5 then m.pourD m.want (.once 5)
    else .once s.B.kind
  else match m.prog[m.res.length]? with
    | some o => .start o
    | none => .nil
def MS.most (m : MS) : MS := if m.ans then { m with most1 := max m.most1 m.spent } else { m with most0 := max m.most0 m.spent }
def isNil : MD → Bool
  | .nil => true
  | _ => false
/-- A pick. -/
def pickM (s : Sh) (m : MS) : Sh × MS × Option Ev :=
  if isNil m.next then (s, { m with spent := 1, ans := s.B.pend m.id, next := beginD s m }, none)
  else
    let r := stepM s { m with spent := m.spent + 1 } m.next
    (r.s, if isNil r.next then { r.m with next := .nil }.most else { r.m with next := r.next }, r.ev)
end Go.Proofs.YtjdnkhljgnjkcaaGreatDoor

/- The graph's deeds, without a program: what an operation makes of the rows, and what it tells. -/
namespace Go.Proofs.YtjdnkhljgnjkcaaGreatDoor
open Go.RowKit

def rdn (R : List (List Int)) (i j : Nat) : Int := (R.getD i []).getD j 0
def wrn (R : List (List Int)) (i j : Nat) (x : Int) : List (List Int) := R.set i ((R.getD i []).set j x)

/-- The deed of a kind, of mutator k: the rows behind it, what it tells, its error. -/
def gdo (m : Nat) (R : List (List Int)) (k : Nat) (o : OpR) : List (List Int) × Int × Int :=
  if o.k = 1 then (wrn (R ++ [List.replicate o.b.toNat 0]) k o.a.toNat ((R.length - m : Nat) : Int), ((R.length - m : Nat) : Int), 0)
  else if o.k = 2 then
    if rdn R k o.b.toNat = 0 then (R, 0, 6)
    else if o.c < 0 ∨ ((R.getD (m + (rdn R k o.b.toNat).toNat) []).length : Int) ≤ o.c then (R, 0, 7)
    else (wrn R k o.a.toNat (rdn R (m + (rdn R k o.b.toNat).toNat) o.c.toNat), rdn R (m + (rdn R k o.b.toNat).toNat) o.c.toNat, 0)
  else if o.k = 3 then
    if rdn R k o.a.toNat = 0 then (R, 0, 6)
    else if o.b < 0 ∨ ((R.getD (m + (rdn R k o.a.toNat).toNat) []).length : Int) ≤ o.b then (R, 0, 7)
    else (wrn R (m + (rdn R k o.a.toNat).toNat) o.b.toNat (rdn R k o.c.toNat), 0, 0)
  else if o.k = 4 then (wrn R k o.a.toNat (rdn R m o.b.toNat), rdn R m o.b.toNat, 0)
  else if o.k = 5 then (wrn R m o.a.toNat (rdn R k o.b.toNat), 0, 0)
  else if o.k = 6 then (wrn R k o.a.toNat 0, 0, 0)
  else if o.k = 7 then (wrn R k o.a.toNat (rdn R k o.b.toNat), rdn R k o.b.toNat, 0)
  else (R, 0, 0)
def gDoP (c : Conf) (m : Nat) (R : List (List Int)) (mi : Int) (o : OpR) : List (List Int) × Int × Int :=
  if mi < 0 ∨ (m : Int) ≤ mi then (R, 0, 4) else if chk c o ≠ 0 then (R, 0, chk c o) else gdo m R mi.toNat o

/-- What holds of the rows always. -/
structure Good (c : Conf) (m : Nat) (R : List (List Int)) : Prop where
  lt : m < R.length
  reg : ∀ i : Nat, i < m → ∀ zs : List Int, R[i]? = some zs → (zs.length : Int) = c.r
  cell : ∀ zs : List Int, R[m]? = some zs → (zs.length : Int) = c.c
  val : ∀ (i : Nat) (zs : List Int) (j : Nat), R[i]? = some zs → j < zs.length → ∃ q : Nat, zs.getD j 0 = q ∧ q ≤ R.length - (m + 1)
  sz : ∀ (i : Nat) (zs : List Int), R[i]? = some zs → zs.length ≤ 100

theorem Good.set {c : Conf} {m : Nat} {R : List (List Int)} (h : Good c m R) {i : Nat} {zs : List Int} (hz : R[i]? = some zs) (j q : Nat) (hq : q ≤ R.length - (m + 1)) : Good c m (R.set i (zs.set j (q : Int))) := by
  have hil := (List.getElem?_eq_some_iff.1 hz).1
  have key : ∀ (i' : Nat) (ys : List Int), (R.set i (zs.set j (q : Int)))[i']? = some ys → (∃ zs', R[i']? = some zs' ∧ ys.length = zs'.length) := by
    intro i' ys hy
    by_cases e : i = i'
    · subst e
      rw [List.getElem?_set_self hil] at hy
      cases hy
      exact ⟨zs, hz, by simp⟩
    · rw [List.getElem?_set_ne e] at hy
      exact ⟨ys, hy, rfl⟩
  refine ⟨by simpa using h.lt, fun i' hi ys hy => ?_, fun ys hy => ?_, fun i' ys j' hy hj => ?_, fun i' ys hy => (by obtain ⟨zs', h1, h2⟩ := key i' ys hy; rw [h2]; exact h.sz i' zs' h1)⟩
  · obtain ⟨zs', h1, h2⟩ := key i' ys hy
    rw [h2]; exact h.reg i' hi zs' h1
  · obtain ⟨zs', h1, h2⟩ := key m ys hy
    rw [h2]; exact h.cell zs' h1
  · rw [List.length_set]
    by_cases e : i = i'
    · subst e
      rw [List.getElem?_set_self hil] at hy
      cases hy
      simp only [List.length_set] at hj
      by_cases e2 : j = j'
      · subst e2
        exact ⟨q, by simp [hj], hq⟩
      · obtain ⟨q', h1, h2⟩ := h.val i zs j' hz hj
        refine ⟨q', ?_, h2⟩
        rw [← h1]
        simp [List.getD_eq_getElem?_getD, List.getElem?_set_ne e2]
    · rw [List.getElem?_set_ne e] at hy
      exact h.val i' ys j' hy hj
theorem Good.add {c : Conf} {m : Nat} {R : List (List Int)} (h : Good c m R) (b : Nat) (hb : b ≤ 100) : Good c m (R ++ [List.replicate b 0]) := by
  have hl := h.lt
  have key : ∀ (i : Nat) (ys : List Int), (R ++ [List.replicate b (0 : Int)])[i]? = some ys → (i < R.length ∧ R[i]? = some ys) ∨ ys = List.replicate b 0 ∧ i = R.length := by
    intro i ys hy
    by_cases hi : i < R.length
    · rw [List.getElem?_append_left hi] at hy; exact .inl ⟨hi, hy⟩
    · have := (List.getElem?_eq_some_iff.1 hy).1
      simp at this
      have e : i = R.length := by omega
      subst e
      rw [List.getElem?_append_right (Nat.le_refl _)] at hy
      simp at hy
      exact .inr ⟨hy.symm, rfl⟩
  refine ⟨by simp; omega, fun i hi ys hy => ?_, fun ys hy => ?_, fun i ys j hy hj => ?_, fun i ys hy => (by rcases key i ys hy with ⟨_, h1⟩ | ⟨rfl, _⟩; exact h.sz i ys h1; simpa using hb)⟩
  · rcases key i ys hy with ⟨_, h1⟩ | ⟨_, h1⟩
    · exact h.reg i hi ys h1
    · omega
  · rcases key m ys hy with ⟨_, h1⟩ | ⟨_, h1⟩
    · exact h.cell ys h1
    · omega
  · rcases key i ys hy with ⟨_, h1⟩ | ⟨rfl, h1⟩
    · obtain ⟨q, h2, h3⟩ := h.val i ys j h1 hj
      exact ⟨q, h2, by simp; omega⟩
    · refine ⟨0, ?_, Nat.zero_le _⟩
      simp at hj
      simp [hj]

/-! ### What a right operation keeps to -/
theorem wrong_zero {cur n below e : Int} (he : e ≠ 0) (h : wrongStep cur n below e = 0) : cur = 0 ∧ 0 ≤ n ∧ n < below := by
  unfold wrongStep at h
  split at h
  · exact absurd h he
  · rename_i h1
    subst h
    simp at h1
    omega
theorem chk_kind {c : Conf} {o : OpR} (h : chk c o = 0) : isKind o.k = true ∧ chkN c o (useL o.k).length = 0 := by
  unfold chk at h
  split at h
  · rename_i h1
    simp at h1
    exact ⟨h1.2, h⟩
  · simp at h
theorem chk_cases {c : Conf} {o : OpR} (h : chk c o = 0) :
    (o.k = 1 ∧ (0 ≤ o.a ∧ o.a < c.r) ∧ (0 ≤ o.b ∧ o.b < 16)) ∨ (o.k = 2 ∧ (0 ≤ o.a ∧ o.a < c.r) ∧ (0 ≤ o.b ∧ o.b < c.r)) ∨ (o.k = 3 ∧ (0 ≤ o.a ∧ o.a < c.r) ∧ (0 ≤ o.c ∧ o.c < c.r)) ∨
    (o.k = 4 ∧ (0 ≤ o.a ∧ o.a < c.r) ∧ (0 ≤ o.b ∧ o.b < c.c)) ∨ (o.k = 5 ∧ (0 ≤ o.a ∧ o.a < c.c) ∧ (0 ≤ o.b ∧ o.b < c.r)) ∨ (o.k = 6 ∧ (0 ≤ o.a ∧ o.a < c.r)) ∨ (o.k = 7 ∧ (0 ≤ o.a ∧ o.a < c.r) ∧ (0 ≤ o.b ∧ o.b < c.r)) ∨ o.k = 8 := by
  obtain ⟨h1, h2⟩ := chk_kind h
  obtain ⟨k, a, b, d⟩ := o
  simp only at *
  simp [isKind] at h1
  have e : k = 1 ∨ k = 2 ∨ k = 3 ∨ k = 4 ∨ k = 5 ∨ k = 6 ∨ k = 7 ∨ k = 8 := by omega
  rcases e with rfl | rfl | rfl | rfl | rfl | rfl | rfl | rfl
  · have e : useL 1 = [114, 115] := rfl
    simp only [e, List.length_cons, List.length_nil, chkN, letterStep, numOf] at h2
    simp at h2
    obtain ⟨h3, h4⟩ := wrong_zero (by decide) h2
    have h5 := (wrong_zero (by decide) h3).2
    exact .inl ⟨rfl, h5, h4⟩
  · have e : useL 2 = [114, 114, 102] := rfl
    simp only [e, List.length_cons, List.length_nil, chkN, letterStep, numOf] at h2
    simp at h2
    obtain ⟨h3, h4⟩ := wrong_zero (by decide) h2
    have h5 := (wrong_zero (by decide) h3).2
    exact .inr (.inl ⟨rfl, h5, h4⟩)
  · have e : useL 3 = [114, 102, 114] := rfl
    simp only [e, List.length_cons, List.length_nil, chkN, letterStep, numOf] at h2
    simp at h2
    obtain ⟨h3, h4⟩ := wrong_zero (by decide) h2
    have h5 := (wrong_zero (by decide) h3).2
    exact .inr (.inr (.inl ⟨rfl, h5, h4⟩))
  · have e : useL 4 = [114, 99] := rfl
    simp only [e, List.length_cons, List.length_nil, chkN, letterStep, numOf] at h2
    simp at h2
    obtain ⟨h3, h4⟩ := wrong_zero (by decide) h2
    have h5 := (wrong_zero (by decide) h3).2
    exact .inr (.inr (.inr (.inl ⟨rfl, h5, h4⟩)))
  · have e : useL 5 = [99, 114] := rfl
    simp only [e, List.length_cons, List.length_nil, chkN, letterStep, numOf] at h2
    simp at h2
    obtain ⟨h3, h4⟩ := wrong_zero (by decide) h2
    have h5 := (wrong_zero (by decide) h3).2
    exact .inr (.inr (.inr (.inr (.inl ⟨rfl, h5, h4⟩))))
  · have e : useL 6 = [114] := rfl
    simp only [e, List.length_cons, List.length_nil, chkN, letterStep, numOf] at h2
    simp at h2
    have h5 := (wrong_zero (by decide) h2).2
    exact .inr (.inr (.inr (.inr (.inr (.inl ⟨rfl, h5⟩)))))
  · have e : useL 7 = [114, 114] := rfl
    simp only [e, List.length_cons, List.length_nil, chkN, letterStep, numOf] at h2
    simp at h2
    obtain ⟨h3, h4⟩ := wrong_zero (by decide) h2
    have h5 := (wrong_zero (by decide) h3).2
    exact .inr (.inr (.inr (.inr (.inr (.inr (.inl ⟨rfl, h5, h4⟩))))))
  · exact .inr (.inr (.inr (.inr (.inr (.inr (.inr rfl))))))

theorem getD_some {R : List (List Int)} {i : Nat} {zs : List Int} (h : R[i]? = some zs) : R.getD i [] = zs := by rw [List.getD_eq_getElem?_getD, h]; rfl
theorem rdn_some {R : List (List Int)} {i : Nat} {zs : List Int} (h : R[i]? = some zs) (j : Nat) : rdn R i j = zs.getD j 0 := by unfold rdn; rw [getD_some h]
theorem wrn_some {R : List (List Int)} {i : Nat} {zs : List Int} (h : R[i]? = some zs) (j : Nat) (x : Int) : wrn R i j x = R.set i (zs.set j x) := by unfold wrn; rw [getD_some h]
end Go.Proofs.YtjdnkhljgnjkcaaGreatDoor

/- What a mutator's next step needs, and that it stays so from pick to pick. Without a program. -/
namespace Go.Proofs.YtjdnkhljgnjkcaaGreatDoor

def OpOk (R : Nat) (o : OpR) : Prop := 0 ≤ o.a ∧ o.a < R
def AlOk (R : Nat) (o : OpR) : Prop := OpOk R o ∧ 0 ≤ o.b ∧ o.b ≤ 15
/-- What a step needs of a mutator that has R registers. -/
def MDok (R : Nat) : MD → Prop
  | .nil => True
  | .start _ => True
  | .once _ => True
  | .note _ _ t => MDok R t
  | .add _ t => MDok R t
  | .pour _ t => MDok R t
  | .paint _ _ t => MDok R t
  | .raise t => MDok R t
  | .field _ _ t => MDok R t
  | .load o _ => OpOk R o
  | .get o => OpOk R o
  | .lay _ _ => True
  | .last _ => True
  | .alloc o k => AlOk R o ∧ k < 4
  | .assign o k => AlOk R o ∧ k < 4
  | .carve o _ => AlOk R o
  | .claim o k => AlOk R o ∧ k < 4
  | .again o k => AlOk R o ∧ k < 4
  | .sweep _ _ t => MDok R t
  | .fill o _ => AlOk R o
  | .zero o _ i => AlOk R o ∧ (i : Int) ≤ o.b
/-- What waits in the queue is a block that has a class. -/
def QOk (s : Sh) : Prop := ∀ k : Nat, ∀ x ∈ s.Q.rw k, 0 ≤ x ∧ s.H.K.getD x.toNat 0 ≠ 0
theorem QOk.heap {s : Sh} {H : HS} (h : QOk s) (hK : ∀ x, s.H.K.getD x 0 ≠ 0 → H.K.getD x 0 ≠ 0) : QOk { s with H := H } := fun k x hx => ⟨(h k x hx).1, hK _ (h k x hx).2⟩
section
variable {H : HS}
theorem takeP_K (k : Nat) : (H.takeP k).2.2.K = H.K := by unfold HS.takeP; split <;> rfl
theorem putP_K (a : Nat) : (H.putP a).K = H.K := by
  unfold HS.putP
  split
  · rfl
  · split <;> rfl
theorem beginP_K (a : Nat) (f : Int) : (H.beginP a f).K = H.K := by
  unfold HS.beginP
  split
  · rfl
  · split <;> rfl
theorem bearP_K (a c : Nat) : (H.bearP a c).K = H.K := by unfold HS.bearP; split <;> rfl
theorem freeP_K (a : Nat) : (H.freeP a).K = H.K := by
  unfold HS.freeP
  split
  · rw [putP_K]; rfl
  · rfl
theorem storeP_K (a : Nat) (f : Int) (v : Nat) : (H.storeP a f v).K = H.K := by unfold HS.storeP; split <;> rfl
theorem setP_K (i : Int) (v : Nat) : (H.setP i v).K = H.K := by unfold HS.setP; split <;> rfl
theorem paintP_K (a c : Nat) : (H.paintP a c).K = H.K := by unfold HS.paintP; split <;> rfl
theorem assignP_K (k x : Nat) (h : H.K.getD x 0 ≠ 0) : (H.assignP k).2.2.K.getD x 0 ≠ 0 := by
  unfold HS.assignP
  split
  · exact h
  · rename_i B hB
    show (H.K.set B (k + 1)).getD x 0 ≠ 0
    by_cases e : B = x
    · subst e
      have hlt : B < H.K.length := by
        rcases Nat.lt_or_ge B H.K.length with h1 | h1
        · exact h1
        · rw [List.getD_eq_getElem?_getD, List.getElem?_eq_none h1] at h; exact absurd rfl h
      rw [lset_same hlt]; omega
    · rw [lset_ne e]; exact h
theorem rdw_K (rd : RD) : (rd.write H).K = H.K := by
  cases rd with
  | field b f v => exact storeP_K b f v
  | cell i v => exact setP_K i v
end
theorem QOk.same {s : Sh} {H : HS} (h : QOk s) (hK : H.K = s.H.K) : QOk { s with H := H } := h.heap (fun x hx => by rw [hK]; exact hx)
theorem getD_set_sub {l : List (List Int)} {i j : Nat} {r : List Int} {x : Int} (hr : ∀ y ∈ r, y ∈ l.getD i []) (h : x ∈ (l.set i r).getD j []) : ∃ k, x ∈ l.getD k [] := by
  rw [List.getD_eq_getElem?_getD] at h
  by_cases e : i = j
  · subst e
    by_cases hlt : i < l.length
    · rw [List.getElem?_set_self hlt] at h
      exact ⟨i, hr _ h⟩
    · rw [List.set_eq_of_length_le (by omega), ← List.getD_eq_getElem?_getD] at h
      exact ⟨i, h⟩
  · rw [List.getElem?_set_ne e, ← List.getD_eq_getElem?_getD] at h
    exact ⟨j, h⟩
theorem QOk.take {s : Sh} (h : QOk s) (k : Nat) : QOk { s with Q := s.Q.take k } := fun j x hx => by
  obtain ⟨i, hi⟩ := getD_set_sub (l := s.Q.rows) (i := (k : Int).toNat) (j := j) (r := (s.Q.row k).drop 1) (fun y hy => List.mem_of_mem_drop hy) hx
  exact h i x hi
theorem QOk.done {s : Sh} (h : QOk s) : QOk { s with Q := s.Q.doneQ } := fun k x hx => h k x hx
/-- What holds of a mutator that has been picked N times at most, as far as its steps need it. -/
structure Pok (N : Nat) (s : Sh) (m : MS) : Prop where
  color : m.color < 2
  want : m.want < 2
  opn : s.Q.opn ≤ N
  res : m.res.length ≤ N
  q : QOk s
  sp : m.spent ≤ N
  rl : (m.regs.length : Int) = m.c.r
  nx : MDok m.regs.length m.next
/-- What a step keeps. -/
structure SK (N : Nat) (m : MS) (r : StepR) : Prop where
  color : r.m.color < 2
  want : r.m.want < 2
  opn : r.s.Q.opn ≤ N + 1
  res : r.m.res.length ≤ N + 1
  q : QOk r.s
  nx : MDok r.m.regs.length r.next
  c : r.m.c = m.c
  id : r.m.id = m.id
  prog : r.m.prog = m.prog
  rlen : r.m.regs.length = m.regs.length
  spent : r.m.spent = m.spent
section
variable {N : Nat} {s : Sh} {m : MS}
/-- What a step needs. -/
structure Sok (N : Nat) (s : Sh) (m : MS) : Prop where
  color : m.color < 2
  want : m.want < 2
  opn : s.Q.opn ≤ N
  res : m.res.length ≤ N
  q : QOk s
  rl : (m.regs.length : Int) = m.c.r
theorem Sok.didR (h : Sok N s m) {s' : Sh} (code : Int) (v : Nat) (ho : s'.Q.opn ≤ N + 1) (hq : QOk s') : SK N m (didR s' m code v) :=
  ⟨h.color, h.want, ho, by have := h.res; show (m.res ++ [(code, v)]).length ≤ N + 1; simp; omega, hq, trivial, rfl, rfl, rfl, rfl, rfl⟩
theorem Sok.gotR (h : Sok N s m) {s' : Sh} (r : Int) (v : Nat) (ho : s'.Q.opn ≤ N + 1) (hq : QOk s') : SK N m (gotR s' m r v) :=
  ⟨h.color, h.want, ho, by have := h.res; show (m.res ++ [((0 : Int), v)]).length ≤ N + 1; simp; omega, hq, trivial, rfl, rfl, rfl, by show (m.regs.set r.toNat v).length = _; simp, rfl⟩
theorem Sok.next (h : Sok N s m) {s' : Sh} {d : MD} {ev : Option Ev} (ho : s'.Q.opn ≤ N + 1) (hq : QOk s') (hd : MDok m.regs.length d) : SK N m ⟨s', m, d, ev⟩ :=
  ⟨h.color, h.want, ho, by have := h.res; show m.res.length ≤ N + 1; omega, hq, hd, rfl, rfl, rfl, rfl, rfl⟩
theorem Sok.opn1 (h : Sok N s m) : s.Q.opn ≤ N + 1 := by have := h.opn; omega
theorem ofK_lt (f : Int) : ofK f < 4 := by unfold ofK; (repeat' split) <;> omega
theorem pourD_ok {R : Nat} {c : Nat} {t : MD} (h : MDok R t) : MDok R (m.pourD c t) := by
  unfold MS.pourD
  split <;> exact h
theorem noteD_ok {R : Nat} {v c : Nat} {t : MD} (h : MDok R t) : MDok R (noteD v c t) := by
  unfold noteD
  split <;> exact h
theorem layD_ok {R : Nat} {v : Nat} {rd : RD} : MDok R (m.layD v rd) := by
  unfold MS.layD
  split <;> trivial
theorem carveD_ok {R : Nat} {o : OpR} {all : List Nat} (h : AlOk R o) : MDok R (carveD o all) := by
  unfold carveD
  split <;> exact h
theorem start_ok (h : Sok N s m) (o : OpR) : SK N m (startR s m o) := by
  have d := fun code v => h.didR (s' := s) code v h.opn1 h.q
  unfold startR
  split
  · exact d _ _
  rename_i hc
  have hc' : chk m.c o = 0 := by simpa using hc
  have ha : o.k = 1 → AlOk m.regs.length o := fun e => by
    rcases chk_cases hc' with ⟨hk, ha, hb⟩ | ⟨hk, ha, hb⟩ | ⟨hk, ha, hb⟩ | ⟨hk, ha, hb⟩ | ⟨hk, ha, hb⟩ | ⟨hk, ha⟩ | ⟨hk, ha, hb⟩ | hk
    · exact ⟨⟨ha.1, by rw [h.rl]; exact ha.2⟩, hb.1, by omega⟩
    all_goals omega
  have hr : o.k = 2 ∨ o.k = 4 → OpOk m.regs.length o := fun e => by
    rcases chk_cases hc' with ⟨hk, ha, hb⟩ | ⟨hk, ha, hb⟩ | ⟨hk, ha, hb⟩ | ⟨hk, ha, hb⟩ | ⟨hk, ha, hb⟩ | ⟨hk, ha⟩ | ⟨hk, ha, hb⟩ | hk
    · omega
    · exact ⟨ha.1, by rw [h.rl]; exact ha.2⟩
    · omega
    · exact ⟨ha.1, by rw [h.rl]; exact ha.2⟩
    all_goals omega
  have fd : ∀ base f t, MDok m.regs.length t → SK N m (fieldR s m base f t) := fun base f t ht => by
    unfold fieldR
    split
    · exact d _ _
    · exact h.next h.opn1 h.q ht
  split
  · rename_i e; exact h.next h.opn1 h.q ⟨ha e, ofK_lt _⟩
  split
  · rename_i e; exact fd _ _ _ (hr (.inl e))
  split
  · exact fd _ _ _ layD_ok
  split
  · rename_i e; exact h.next h.opn1 h.q (hr (.inr e))
  split
  · exact h.next h.opn1 h.q layD_ok
  split
  · exact ⟨h.color, h.want, h.opn1, by have := h.res; show (m.res ++ [((0 : Int), 0)]).length ≤ N + 1; simp; omega, h.q, trivial, rfl, rfl, rfl, by show (m.regs.set _ _).length = _; simp, rfl⟩
  split
  · exact h.gotR _ _ h.opn1 h.q
  · exact d _ _
theorem step_ok (h : Sok N s m) (d : MD) (hd : MDok m.regs.length d) : SK N m (stepM s m d) := by
  have q := h.q
  have o1 := h.opn1
  cases d with
  | nil => exact h.next o1 q trivial
  | start o => exact start_ok h o
  | once k =>
    have hw := h.want
    have hc := h.color
    have hr := h.res
    have hb : QOk { s with B := s.B.ansB m.id } := fun k x hx => q k x hx
    simp only [stepM, onceM]
    repeat' split
    all_goals exact ⟨by simp only <;> omega, by simp only <;> omega, o1, by simp only <;> omega, hb, trivial, rfl, rfl, rfl, rfl, rfl⟩
  | note v c t =>
    simp only [stepM]
    repeat' split
    · exact h.next o1 q hd
    · exact h.next o1 q (pourD_ok hd)
    · exact ⟨h.color, h.want, o1, by have := h.res; simp only; omega, q, hd, rfl, rfl, rfl, rfl, rfl⟩
  | add v t =>
    simp only [stepM]
    split
    · exact h.next o1 q hd
    · exact ⟨h.color, h.want, o1, by have := h.res; simp only; omega, q, hd, rfl, rfl, rfl, rfl, rfl⟩
  | pour c t =>
    simp only [stepM]
    split
    · exact ⟨h.color, h.want, o1, by have := h.res; simp only; omega, fun k x hx => q k x hx, hd, rfl, rfl, rfl, rfl, rfl⟩
    · exact h.next o1 q hd
  | paint c f t =>
    simp only [stepM]
    refine ⟨h.color, h.want, o1, by have := h.res; simp only; omega, q.same (paintP_K _ _), ?_, rfl, rfl, rfl, rfl, rfl⟩
    repeat' split
    all_goals exact hd
  | raise t => exact h.next o1 (fun k x hx => q k x hx) hd
  | field base f t =>
    simp only [stepM]
    split
    · exact h.didR _ _ o1 q
    · exact h.next o1 q hd
  | load o base => exact h.gotR _ _ o1 q
  | get o => exact h.gotR _ _ o1 q
  | lay v rd =>
    simp only [stepM]
    refine ⟨h.color, h.want, o1, by have := h.res; simp only; omega, q, ?_, rfl, rfl, rfl, rfl, rfl⟩
    refine noteD_ok ?_
    split
    · exact noteD_ok trivial
    · trivial
  | last rd => exact h.didR _ _ o1 (q.same (rdw_K rd))
  | alloc o k =>
    simp only [stepM]
    split
    · exact h.next o1 (q.same (takeP_K k)) hd.1
    · exact h.next o1 q hd
  | assign o k =>
    simp only [stepM]
    split
    · exact h.next o1 (q.heap (fun x hx => assignP_K k x hx)) (carveD_ok hd.1)
    · exact h.next o1 q hd
  | carve o all => exact h.next o1 (q.same (putP_K _)) (carveD_ok hd)
  | claim o k =>
    simp only [stepM]
    split
    · exact h.next o1 q hd
    · exact h.next (by have := h.opn; show s.Q.opn + 1 ≤ N + 1; omega) (q.take k) hd
  | again o k =>
    simp only [stepM]
    split
    · exact h.next o1 (q.same (takeP_K k)) hd.1
    · exact h.didR _ _ o1 q
  | sweep sl c t =>
    cases sl with
    | nil =>
      simp only [stepM]
      refine h.next ?_ ?_ hd
      · show (if s.Q.opn = 0 then s.Q else s.Q.doneQ).opn ≤ N + 1
        split
        · exact o1
        · show s.Q.opn - 1 ≤ N + 1; omega
      · show QOk { s with Q := if s.Q.opn = 0 then s.Q else s.Q.doneQ }
        split
        · exact q
        · exact q.done
    | cons a r =>
      simp only [stepM]
      split
      · exact h.next o1 q hd
      · exact h.next o1 (q.same (freeP_K a)) hd
  | fill o a => exact h.next o1 (q.same (beginP_K _ _)) ⟨hd, hd.2.1⟩
  | zero o a i =>
    obtain ⟨hd1, hd2⟩ := hd
    simp only [stepM]
    split
    · exact h.gotR _ _ o1 (q.same (bearP_K _ _))
    · refine h.next o1 (q.same (storeP_K _ _ _)) ⟨hd1, ?_⟩
      push_cast; omega
theorem Pok.sok (h : Pok N s m) : Sok N s m := ⟨h.color, h.want, h.opn, h.res, h.q, h.rl⟩
theorem scan_ok {R c : Nat} : ∀ l : List Nat, MDok R (scanD c l)
  | [] => trivial
  | _ :: l => noteD_ok (scan_ok l)
theorem begin_ok {R : Nat} : MDok R (beginD s m) := by
  unfold beginD
  split
  · split
    · exact scan_ok _
    · split
      · exact pourD_ok trivial
      · trivial
  · split <;> trivial
/-- A pick keeps what steps need. -/
theorem pick_ok (h : Pok N s m) : Pok (N + 1) (pickM s m).1 (pickM s m).2.1 ∧ (pickM s m).2.1.c = m.c ∧ (pickM s m).2.1.id = m.id ∧ (pickM s m).2.1.prog = m.prog ∧ (pickM s m).2.1.regs.length = m.regs.length := by
  unfold pickM
  split
  · exact ⟨⟨h.color, h.want, by have := h.opn; simp only; omega, by have := h.res; simp only; omega, h.q, by simp only; omega, h.rl, begin_ok⟩, rfl, rfl, rfl, rfl⟩
  · have hs : Sok N s { m with spent := m.spent + 1 } := ⟨h.color, h.want, h.opn, h.res, h.q, h.rl⟩
    have r := step_ok hs m.next h.nx
    have sp : (stepM s { m with spent := m.spent + 1 } m.next).m.spent ≤ N + 1 := by rw [r.spent]; have := h.sp; simp only; omega
    have rl : ((stepM s { m with spent := m.spent + 1 } m.next).m.regs.length : Int) = (stepM s { m with spent := m.spent + 1 } m.next).m.c.r := by rw [r.rlen, r.c]; exact h.rl
    generalize stepM s { m with spent := m.spent + 1 } m.next = R at *
    have rn := r.nx
    simp only
    split
    · unfold MS.most
      split
      · exact ⟨⟨r.color, r.want, r.opn, r.res, r.q, sp, rl, trivial⟩, r.c, r.id, r.prog, r.rlen⟩
      · exact ⟨⟨r.color, r.want, r.opn, r.res, r.q, sp, rl, trivial⟩, r.c, r.id, r.prog, r.rlen⟩
    · exact ⟨⟨r.color, r.want, r.opn, r.res, r.q, sp, rl, rn⟩, r.c, r.id, r.prog, r.rlen⟩
end
end Go.Proofs.YtjdnkhljgnjkcaaGreatDoor

/- What is shared, and a mutator, as at first; many picks; the document's example, plainly. -/
namespace Go.Proofs.YtjdnkhljgnjkcaaGreatDoor

def Sh.new (c : Conf) (b ww nc n : Nat) : Sh := ⟨HS.new c b ww nc, Bd.new (n : Int), ⟨[[], [], [], []], 0⟩, false, List.replicate n []⟩
def MS.new (c : Conf) (id : Nat) (prog : List OpR) : MS := ⟨id, c, List.replicate c.r.toNat 0, [], 0, 0, 0, prog, [], .nil, 0, 0, 0, 0, false⟩
theorem QOk.new (c : Conf) (b ww nc n : Nat) : QOk (Sh.new c b ww nc n) := fun k x hx => by
  have : ([[], [], [], []] : List (List Int)).getD k [] = [] := by
    match k with
    | 0 => rfl
    | 1 => rfl
    | 2 => rfl
    | 3 => rfl
    | k + 4 => rfl
  unfold Qu.rw Sh.new at hx
  simp only at hx
  rw [this] at hx
  cases hx
theorem Pok.first {s : Sh} {c : Conf} (id : Nat) (prog : List OpR) (hq : QOk s) (ho : s.Q.opn = 0) (hr : 0 ≤ c.r) : Pok 0 s (MS.new c id prog) :=
  ⟨(by show 0 < 2; decide), (by show 0 < 2; decide), by omega, by simp [MS.new], hq, Nat.le_refl _, by simp only [MS.new, List.length_replicate]; omega, trivial⟩
/-- So many picks of a mutator, alone. -/
def pickN : Nat → Sh → MS → Sh × MS
  | 0, s, m => (s, m)
  | n + 1, s, m => ((pickM (pickN n s m).1 (pickN n s m).2).1, (pickM (pickN n s m).1 (pickN n s m).2).2.1)
def doneM (m : MS) : Bool := isNil m.next && decide (m.res.length = m.prog.length)
theorem pickN_ok {N : Nat} {s : Sh} {m : MS} (h : Pok N s m) : ∀ n, Pok (N + n) (pickN n s m).1 (pickN n s m).2 ∧ (pickN n s m).2.c = m.c ∧ (pickN n s m).2.id = m.id ∧ (pickN n s m).2.prog = m.prog ∧ (pickN n s m).2.regs.length = m.regs.length
  | 0 => ⟨h, rfl, rfl, rfl, rfl⟩
  | n + 1 => by
    obtain ⟨h1, h2, h3, h4, h5⟩ := pickN_ok h n
    obtain ⟨g1, g2, g3, g4, g5⟩ := pick_ok h1
    exact ⟨g1, g2.trans h2, g3.trans h3, g4.trans h4, g5.trans h5⟩
/-- The document's example. -/
def awC : Conf := ⟨1, 16, 1, 2, 0, 1, 1⟩
def awS : Sh := Sh.new awC 1 16 0 1
def awM : MS := MS.new awC 0 [⟨1, 0, 1, 0⟩, ⟨7, 1, 0, 0⟩]
theorem aw_res : (pickN 16 awS awM).2.res = [(0, 1), (0, 1)] := by decide +kernel
theorem aw_done : ∀ i, i < 17 → doneM (pickN i awS awM).2 = decide (i = 16) := by decide +kernel
end Go.Proofs.YtjdnkhljgnjkcaaGreatDoor

/- What slices.Clone makes of a slice of ints. -/
namespace Go.Proofs.YtjdnkhljgnjkcaaGreatDoor
open Go.RowKit

theorem Tryz.infoI : (Tryz.prog.info? 3).map (fun i => (i.zero, i.size, i.bytes)) = some (some (.int .i64 0), 1, 8) := by kernel_rfl

set_option maxRecDepth 10000 in
set_option maxHeartbeats 400000 in
theorem cloneI_cells (a : Option Addr) (n c : Nat) (xs : List Value) (w : World) (h : Cells w a n xs) (hnil : a = none → c = 0) (hm : n ≤ 4000000000000) (h1 : ∀ u ∈ xs, u.oneCell' = true) :
    Calls Tryz.prog 55 #[.slice a n c] w fun e w' => ∃ v', e = .returned v' ∧ w'.ownsRow w.heap.size 3 1 v' n xs ∧ Keep none_ w w' := by
  obtain ⟨rfl, hc⟩ := h
  cases a with
  | none =>
    have h0 : xs = [] := by
      cases xs with
      | nil => rfl
      | cons x xs => obtain ⟨b, off, e, _⟩ := hc (by simp); cases e
    subst h0
    obtain rfl := hnil rfl
    simp only [List.length_nil]
    clear hc hm hnil h1
    have hn := fun w => Lib.run_eql_slice_nil (P := Tryz.prog) w 40 3 none 0 0 0 0 Tryz.underlying40
    go_enter Tryz.func55, Tryz.ntmps55
    go_wp2
    go_ret
    exact ⟨_, rfl, World.ownsRow_nil _ _ _ _, Keep.refl _ _⟩
  | some ad =>
    have hn := fun w => Lib.run_eql_slice_nil (P := Tryz.prog) w 40 3 (some ad) xs.length c 0 0 Tryz.underlying40
    obtain ⟨i0, hi1, hi2, hi3, hi4⟩ := info_parts Tryz.infoI
    have hw0 : ∀ w : World, (w.alloc (.cells #[] 3)).ownsRow w.heap.size 3 1 (.slice (some ⟨w.heap.size, 0, none⟩) 0 0) 0 [] := fun w => World.ownsRow_made w #[] 0 (Nat.le_refl _) (by decide) rfl
    have hcell : ∀ (j : Nat) (u : Value), xs[j]? = some u → (w.alloc (.cells #[] 3)).cell? (ad.add j) = some u := fun j u hj => by
      have hjl := (List.getElem?_eq_some_iff.1 hj).1
      obtain ⟨b, off, e, hx⟩ := hc (by omega)
      injection e with e
      subst e
      have hcl := hx j u hj
      have ea : (⟨b, off, none⟩ : Addr).add j = ⟨b, off + j, none⟩ := by simp only [Addr.add]; split <;> simp_all
      rw [ea, World.cell?_alloc_lt _ _ _ (World.block_lt_of_cell? _ _ hcl)]
      exact hcl
    have HC := Lib.hid hcell
    have HU := Lib.hid h1
    clear hcell hc h1
    go_enter Tryz.func55, Tryz.ntmps55
    go_wp2_with (at_builtin; refine wpList_append_own _ rfl _ _ 40 rfl w.heap.size 3 i0 (.int .i64 0) 1 8 Tryz.underlying40 hi1 hi2 hi3 hi4 rfl (by decide) _ _ _ rfl (hw0 w) ad xs.length c xs rfl (by simp) HC.out HU.out (by unfold maxLen; omega) (by omega) (by simp) ?_; intro v' w1 hown hgr _)
    have hown' : w1.ownsRow w.heap.size 3 1 v' xs.length xs := by simpa using hown
    have hkeep : Keep none_ w w1 := ((Keep.refl none_ w).alloc _).grown hgr (fun k e hk => absurd hk (by have e' : w.heap.size = k := Option.some.inj e; omega))
    clear hown hgr
    go_wp2
    go_ret
    exact ⟨_, rfl, hown', hkeep⟩

end Go.Proofs.YtjdnkhljgnjkcaaGreatDoor
