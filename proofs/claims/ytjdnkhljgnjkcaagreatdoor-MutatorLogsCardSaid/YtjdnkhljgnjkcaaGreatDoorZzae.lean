/- Parts of a walk, put together by a small program of mine from texts of their own: LawMLogs. -/
import Derived.Test.YtjdnkhljgnjkcaaGreatDoorZzac
import Derived.BigRegion
import Derived.Test.YtjdnkhljgnjkcaaGreatDoorZzad
/- The walk of MutatorLogs. -/
namespace Go.Proofs.YtjdnkhljgnjkcaaGreatDoor
open Go.RowKit
attribute [local go_sem] Oper.semAt_some
attribute [local go_sem ↓] app9_of

/-- The law's small config. -/
theorem lg_conf (c : Conf) : ∃ ww st, ww < 20 ∧ st < 4 ∧ (⟨1, c.little.w, 1, 2, 1, 4, c.little.s⟩ : Conf) = lgC (16 + ww) (1 + st) := by
  obtain ⟨b, w, m, r, cc, l, s⟩ := c
  refine ⟨(w % 20).toNat, (s % 4).toNat, by omega, by omega, ?_⟩
  simp only [Conf.little, lgC, Conf.mk.injEq]
  refine ⟨trivial, ?_, trivial, trivial, trivial, trivial, ?_⟩ <;> (push_cast; omega)
theorem lgC_ok {ww st : Nat} (h1 : ww < 20) (h2 : st < 4) : (lgC (16 + ww) (1 + st)).ok = true := by
  have e : ∀ (p q : Prop) [Decidable p] [Decidable q], p → q → (decide p && decide q) = true := fun p q _ _ hp hq => by rw [decide_eq_true hp, decide_eq_true hq]; rfl
  have e2 : ∀ (x : Bool) (q : Prop) [Decidable q], x = true → q → (x && decide q) = true := fun x q _ hp hq => by rw [hp, decide_eq_true hq]; rfl
  unfold Conf.ok lgC
  simp only
  exact e2 _ _ (e2 _ _ (e2 _ _ (e2 _ _ (e2 _ _ (e _ _ (by omega) (by omega)) (by omega)) (by omega)) (by omega)) (by omega)) (by omega)
/-- Facts of the two objects, plainly. -/
theorem lg_slots : ∀ ww, ww < 20 → ∀ st, st < 4 →
    (((HS.new (lgC (16 + ww) (1 + st)) 1 (16 + ww) 1).takeP 0).2.1 ≠ 0 ∧ ((HS.new (lgC (16 + ww) (1 + st)) 1 (16 + ww) 1).assignP 0).2.1 = 0 ∧ 2 ≤ ((HS.new (lgC (16 + ww) (1 + st)) 1 (16 + ww) 1).assignP 0).1.length ∧ ((HS.new (lgC (16 + ww) (1 + st)) 1 (16 + ww) 1).assignP 0).1.length ≤ 256) ∧
    ((((HS.new (lgC (16 + ww) (1 + st)) 1 (16 + ww) 1).slotP 0).2.2.beginP ((HS.new (lgC (16 + ww) (1 + st)) 1 (16 + ww) 1).slotP 0).1 1).storeL ((HS.new (lgC (16 + ww) (1 + st)) 1 (16 + ww) 1).slotP 0).1 1).bearE ((HS.new (lgC (16 + ww) (1 + st)) 1 (16 + ww) 1).slotP 0).1 0 = 0 ∧
    ((lgH0 (16 + ww) (1 + st)).takeP 0).2.1 = 0 ∧ ((((lgH0 (16 + ww) (1 + st)).slotP 0).2.2.beginP ((lgH0 (16 + ww) (1 + st)).slotP 0).1 1).storeL ((lgH0 (16 + ww) (1 + st)).slotP 0).1 1).bearE ((lgH0 (16 + ww) (1 + st)).slotP 0).1 0 = 0 ∧
    ((HS.new (lgC (16 + ww) (1 + st)) 1 (16 + ww) 1).slotP 0).2.1 = 0 ∧ ((lgH0 (16 + ww) (1 + st)).slotP 0).2.1 = 0 ∧ (lgH1 (16 + ww) (1 + st)).setE 0 1 = 0 ∧ (lgA (16 + ww) (1 + st)).1.H.setE 0 3 = 0 := by decide +kernel
section
variable {w W W' : World} {G : Geo} {g : MG} {s : Sh} {m : MS}
/-- An object made, what is shared being alone. -/
theorem ShS.make (h : ShS w W G s) (hS : Sizes W) (he : (s.H.slotP 0).2.1 = 0)
    (ht : (s.H.takeP 0).2.1 = 0 ∨ ((s.H.takeP 0).2.1 ≠ 0 ∧ (s.H.assignP 0).2.1 = 0 ∧ 2 ≤ (s.H.assignP 0).1.length ∧ (s.H.assignP 0).1.length ≤ 256))
    (hb : ((((s.H.slotP 0).2.2.beginP (s.H.slotP 0).1 1).storeL (s.H.slotP 0).1 1).bearE (s.H.slotP 0).1 0) = 0) :
    Calls Tryz.prog 25 #[.pointer (some ⟨G.D 0, 0, none⟩), .int .i64 1, .int .i64 0] W fun e w' => e = .returned (.tuple #[.int .i64 ((s.H.makeP 1 0).1 : Int), .int .i64 0]) ∧ ShS w w' G { s with H := (s.H.makeP 1 0).2 } := by
  have e0 : ofK ((1 : Nat) : Int) = 0 := by decide
  refine h.heap (fun _ => trivial) (fun hh => ?_)
  have h9 := hMake_of (D := G.D) (H := s.H) 1 0 (by decide) (by decide) W (by rw [e0]; exact he) hS (by
    rw [e0]
    rcases ht with h1 | ⟨h1, h2, h3, h4⟩
    · exact hSlot_take hh 0 (by decide) h1
    · exact hSlot_assign hh 0 (by decide) h1 h2 h3 h4) (by rw [e0]; exact hb)
  exact h9
theorem ShS.setCell (h : ShS w W G s) (i : Int) (v : Nat) : Calls Tryz.prog 26 #[.pointer (some ⟨G.D 0, 0, none⟩), .int .i64 i, .int .i64 (v : Int)] W fun e w' => e = .returned (.int .i64 (s.H.setE i v : Int)) ∧ ShS w w' G { s with H := s.H.setP i v } :=
  h.heap (fun _ => trivial) (fun hh => hSetCell_any hh i v)
end
def sliceLen : Value → Nat
  | .slice _ n _ => n
  | _ => 0
theorem lgQ_0 (ww st : Nat) : lgQ ww st 0 = ({ (lgA ww st).1 with H := (lgA ww st).1.H.setP 0 3 }, (lgA ww st).2) := by unfold lgQ lgB; rfl
theorem lgQ_1 (ww st i : Nat) : lgQ ww st (i + 1) = pickTill (fun s _ => s.B.all) 199 { (lgQ ww st i).1 with B := (lgQ ww st i).1.B.askB (lgK i : Int) } (lgQ ww st i).2 := by rw [lgQ]
theorem lgE_eq (ww st i : Nat) : lgE ww st i = pickTill (fun _ m => doneM m) 199 (lgQ ww st i).1 (lgQ ww st i).2 := by unfold lgE; rfl
theorem lg_cr : ∀ ww, ww < 20 → ∀ st, st < 4 → 0 ≤ (lgS (16 + ww) (1 + st)).H.c.r := by decide +kernel
theorem QOk.empty {s : Sh} (h : s.Q = ⟨[[], [], [], []], 0⟩) : QOk s := fun k x hx => by
  have : ([[], [], [], []] : List (List Int)).getD k [] = [] := by
    match k with
    | 0 => rfl
    | 1 => rfl
    | 2 => rfl
    | 3 => rfl
    | k + 4 => rfl
  unfold Qu.rw at hx
  rw [h] at hx
  simp only at hx
  rw [this] at hx
  cases hx
theorem lg_pok0 {ww st : Nat} (h1 : ww < 20) (h2 : st < 4) : Pok 0 (lgS (16 + ww) (1 + st)) (lgM (16 + ww) (1 + st)) :=
  Pok.first 0 _ (QOk.empty rfl) rfl (lg_cr ww h1 st h2)
theorem Pok.setP {N : Nat} {s : Sh} {m : MS} (h : Pok N s m) (i : Int) (v : Nat) : Pok N { s with H := s.H.setP i v } m := ⟨h.color, h.want, h.opn, h.res, h.q.same (setP_K i v), h.sp, h.rl, h.nx⟩
theorem Pok.ask {N : Nat} {s : Sh} {m : MS} (h : Pok N s m) (k : Int) : Pok N { s with B := s.B.askB k } m := ⟨h.color, h.want, h.opn, h.res, fun j x hx => h.q j x hx, h.sp, h.rl, h.nx⟩
theorem Pok.more {N M : Nat} {s : Sh} {m : MS} (h : Pok N s m) (hM : N ≤ M) : Pok M s m := ⟨h.color, h.want, Nat.le_trans h.opn hM, Nat.le_trans h.res hM, h.q, Nat.le_trans h.sp hM, h.rl, h.nx⟩
set_option maxRecDepth 100000 in
set_option maxHeartbeats 16000000 in
theorem mutatorLogs_any (z0 : List Value) (steps : Int) (w : World) (h0 : FlatOk [.int .i64, .int .i64, .int .i64, .int .i64, .int .i64, .int .i64, .int .i64] z0) (hmo : (Lit.int .u8 steps).wf = true) (hL : laidMetH Tryz.prog Rows.mutatorLogsRow.laid w) :
    Calls Tryz.prog 5 #[.agg z0.toArray, .int .u8 steps] w fun e w' => e = .returned (.bool true) ∧ Keep none_ w w' := by
  have hL' : laidMetH Tryz.prog [("dustpan/config.limits", Rows.laid_dustpan_config_limits), ("dustpan/class.sizes", Rows.laid_dustpan_class_sizes), ("dustpan/op.kinds", Rows.laid_dustpan_op_kinds)] w := hL
  rw [MakeChecks.laidMetH_plain _ _ _ (by kernel_rfl)] at hL'
  have HT := Lib.hid (tabsM_of hL')
  clear hL hL'
  obtain ⟨c, rfl, -⟩ := conf_of h0
  have HLI := Lib.hid (fun W => little_any c W)
  obtain ⟨ww, st, hww, hst, hcf⟩ := lg_conf c
  have hok := lgC_ok hww hst
  obtain ⟨mo, hmo1, hmo2⟩ : ∃ mo : Nat, steps = (mo : Int) ∧ mo ≤ 255 := by
    simp [Lit.wf] at hmo
    have h1 : IntKind.u8.min = 0 := by decide
    have h2 : IntKind.u8.max = 255 := by decide
    exact ⟨steps.toNat, by omega, by omega⟩
  subst hmo1
  obtain ⟨many, hmany⟩ : ∃ many, many = mo % 4 := ⟨_, rfl⟩
  have hm4 : many < 4 := by omega
  have hrem : (mo : Int).tmod 4 = (many : Int) := by rw [hmany]; rfl
  have hrem2 : (mo : Int) % 4 = (many : Int) := by rw [hmany]; rfl
  have hw1 : IntKind.i64.wrap (many : Int) = (many : Int) := IntWalk.i64_in _ (by omega)
  have hw3 : IntKind.u8.wrap (many : Int) = (many : Int) := by
    rcases (by omega : many = 0 ∨ many = 1 ∨ many = 2 ∨ many = 3) with e | e | e | e <;> rw [e] <;> decide
  obtain ⟨⟨t1, t2, t3, t4⟩, t5, t6, t7, t8, t9, t10, t11⟩ := lg_slots ww hww st hst
  obtain ⟨p1, p2, p3, p4, p5, p6⟩ := lg_stop hww hst
  obtain ⟨mk1, mk2⟩ := lg_make ww hww st hst
  have hfin := lg_ok ww hww st hst many hm4
  have hp0 := lg_pok0 hww hst
  obtain ⟨A, hA⟩ : ∃ A, A = lgA (16 + ww) (1 + st) := ⟨_, rfl⟩
  obtain ⟨Q, hQ⟩ : ∃ Q : Nat → Sh × MS, Q = lgQ (16 + ww) (1 + st) := ⟨_, rfl⟩
  obtain ⟨E, hE⟩ : ∃ E, E = lgE (16 + ww) (1 + st) many := ⟨_, rfl⟩
  have HA0 : Hid (pickTill (fun _ m => decide (1 ≤ m.res.length)) 19 (lgS (16 + ww) (1 + st)) (lgM (16 + ww) (1 + st)) = A) := hA.symm
  have HQ0 : Hid (Q 0 = ({ A.1 with H := A.1.H.setP 0 3 }, A.2)) := by rw [hQ, hA]; exact lgQ_0 _ _
  have HQ1 : Hid (∀ i, Q (i + 1) = pickTill (fun s _ => s.B.all) 199 { (Q i).1 with B := (Q i).1.B.askB (lgK i : Int) } (Q i).2) := fun i => by rw [hQ]; exact lgQ_1 _ _ i
  have HE0 : Hid (pickTill (fun _ m => doneM m) 199 (Q many).1 (Q many).2 = E) := by rw [hQ, hE]; exact (lgE_eq _ _ _).symm
  have p3' := p3 many hm4
  have p5' := p5 many hm4
  have p6' := p6 many hm4
  rw [← hE] at p3' p5' p6'
  rw [← hA] at p1 t11
  rw [← hQ] at p2 p4
  have hfin2 : (if many = 1 then (E.2.buf ++ E.1.box 0).contains 1 && (E.2.buf ++ E.1.box 0).contains 3 else if many = 2 then (E.2.buf ++ E.1.box 0).contains 3 else E.2.buf.isEmpty && doneM E.2) = true := by rw [hE]; exact hfin
  clear hA hQ hE p3 p5 p6 hfin
  have HAW : Hid (∀ W, Keep none_ w W → Calls Tryz.prog 21 #[] W fun e w' => e = .returned (.bool true) ∧ Hid (Keep none_ W w')) := fun W hW => (awake20_any W (HT.out.keep hW))
  have HSQ : Hid (∀ W, Keep none_ w W → Calls Tryz.prog 7 #[.agg (lgC (16 + ww) (1 + st)).cells.toArray] W fun e w' => ∃ G : Geo, e = .returned (.tuple #[.pointer (some ⟨G.S, 0, none⟩), .int .i64 0]) ∧ Hid (ShS w w' G (Sh.new (lgC (16 + ww) (1 + st)) 1 (16 + ww) 1 1))) := fun W hW => by
    refine (share_ok (lgC (16 + ww) (1 + st)) 1 (16 + ww) 1 1 hok rfl (by simp [lgC]) rfl rfl W (HT.out.keep hW).t (HT.out.keep hW).s (HT.out.keep hW).g).mono ?_
    rintro e w' ⟨o, G, rfl, h1, h2, _, h4⟩
    exact ⟨G, rfl, o, h1, fun x hx => h2 x (Nat.lt_of_lt_of_le hx hW.size), hW.trans h4, by simp [Sh.new]⟩
  have HM1 : Hid (∀ W G, ShS w W G (Sh.new (lgC (16 + ww) (1 + st)) 1 (16 + ww) 1 1) → Calls Tryz.prog 25 #[.pointer (some ⟨G.D 0, 0, none⟩), .int .i64 1, .int .i64 0] W fun e w' => e = .returned (.tuple #[.int .i64 1, .int .i64 0]) ∧ Hid (ShS w w' G { Sh.new (lgC (16 + ww) (1 + st)) 1 (16 + ww) 1 1 with H := lgH0 (16 + ww) (1 + st) })) := fun W G hs => by
    have h9 := hs.make (HT.out.keep hs.keep).s t8 (.inr ⟨t1, t2, t3, t4⟩) t5
    rw [show (Sh.new (lgC (16 + ww) (1 + st)) 1 (16 + ww) 1 1).H = HS.new (lgC (16 + ww) (1 + st)) 1 (16 + ww) 1 from rfl, mk1] at h9
    exact h9
  have HM2 : Hid (∀ W G, ShS w W G { Sh.new (lgC (16 + ww) (1 + st)) 1 (16 + ww) 1 1 with H := lgH0 (16 + ww) (1 + st) } → Calls Tryz.prog 25 #[.pointer (some ⟨G.D 0, 0, none⟩), .int .i64 1, .int .i64 0] W fun e w' => e = .returned (.tuple #[.int .i64 3, .int .i64 0]) ∧ Hid (ShS w w' G { Sh.new (lgC (16 + ww) (1 + st)) 1 (16 + ww) 1 1 with H := lgH1 (16 + ww) (1 + st) })) := fun W G hs => by
    have h9 := hs.make (HT.out.keep hs.keep).s t9 (.inl t6) t7
    simp only [mk2] at h9
    exact h9
  have HSC : Hid (∀ W G, ShS w W G { Sh.new (lgC (16 + ww) (1 + st)) 1 (16 + ww) 1 1 with H := lgH1 (16 + ww) (1 + st) } → Calls Tryz.prog 26 #[.pointer (some ⟨G.D 0, 0, none⟩), .int .i64 0, .int .i64 1] W fun e w' => e = .returned (.int .i64 0) ∧ Hid (ShS w w' G (lgS (16 + ww) (1 + st)))) := fun W G hs => by
    have h9 := hs.setCell 0 1
    simp only [t10] at h9
    exact h9
  have HNEW : Hid (∀ W G, ShS w W G (lgS (16 + ww) (1 + st)) → ∀ b, Blk W b [.int .i64 4, .int .i64 1, .int .i64 0, .int .i64 0, .int .i64 4, .int .i64 0, .int .i64 0, .int .i64 0, .int .i64 5, .int .i64 0, .int .i64 1, .int .i64 0] 61 → Calls Tryz.prog 10 #[.pointer (some ⟨G.S, 0, none⟩), .int .i64 0, .slice (some ⟨b, 0, none⟩) 3 3] W fun e w' => ∃ g : MG, e = .returned (.tuple #[.pointer (some ⟨g.M, 0, none⟩), .int .i64 0]) ∧ Hid (SesZ w w' [] G g (lgS (16 + ww) (1 + st)) (lgM (16 + ww) (1 + st)))) := fun W G hs b hb => by
    have hrec : RecAt W (some ⟨b, 0, none⟩) 3 4 (opCells [⟨4, 1, 0, 0⟩, ⟨4, 0, 0, 0⟩, ⟨5, 0, 1, 0⟩]) := by
      refine ⟨rfl, fun _ => ⟨_, 0, rfl, fun i r hi j v hj => ?_⟩⟩
      refine hb.cell _ ?_
      have hi2 := (List.getElem?_eq_some_iff.1 hi).1
      simp [opCells] at hi2
      rcases (by omega : i = 0 ∨ i = 1 ∨ i = 2) with rfl | rfl | rfl
      all_goals
        simp [opCells, OpR.cells] at hi; subst hi
        have hj2 := (List.getElem?_eq_some_iff.1 hj).1
        simp at hj2
        rcases (by omega : j = 0 ∨ j = 1 ∨ j = 2 ∨ j = 3) with rfl | rfl | rfl | rfl <;> simpa using hj
    refine (hs.new 0 (by show 0 < (List.replicate 1 ([] : List Nat)).length; decide) [⟨4, 1, 0, 0⟩, ⟨4, 0, 0, 0⟩, ⟨5, 0, 1, 0⟩] 3 rfl (by decide) (some ⟨b, 0, none⟩) 3 hrec (fun e => by cases e)).mono ?_
    rintro e w' ⟨g, rfl, h1⟩
    exact ⟨g, rfl, SesZ.of h1⟩
  obtain ⟨lw, hlw⟩ : ∃ lw, lw = c.little.w := ⟨_, rfl⟩
  obtain ⟨ls, hls⟩ : ∃ ls, ls = c.little.s := ⟨_, rfl⟩
  have hcells : (lgC (16 + ww) (1 + st)).cells = [.int .i64 1, .int .i64 lw, .int .i64 1, .int .i64 2, .int .i64 1, .int .i64 4, .int .i64 ls] := by rw [← hcf, hlw, hls]; rfl
  rw [hcells] at HSQ
  have hlc : c.little.cells = [.int .i64 c.little.b, .int .i64 lw, .int .i64 c.little.m, .int .i64 c.little.r, .int .i64 c.little.c, .int .i64 c.little.l, .int .i64 ls] := by rw [hlw, hls]; rfl
  rw [hlc] at HLI
  generalize c.little.b = l0 at *
  generalize c.little.m = l2 at *
  generalize c.little.r = l3 at *
  generalize c.little.c = l4 at *
  generalize c.little.l = l5 at *
  obtain ⟨W0, hW0⟩ : ∃ W', W' = w.alloc (.cells c.cells.toArray 23) := ⟨_, rfl⟩
  have hk0 : Keep none_ w W0 := by rw [hW0]; exact (Keep.refl _ _).alloc _
  have hb0 : Blk W0 w.heap.size c.cells 23 := by rw [hW0]; exact Blk.new w _ _
  obtain ⟨c0, c1, c2, c3, c4, c5, c6⟩ := c
  simp only [Conf.cells] at HLI hW0 hb0 ⊢
  have HW0 := Lib.hid hW0
  have HK0 := Lib.hid hk0
  have HB0 := Lib.hid hb0
  have HP0 := Lib.hid hp0
  have HP1 := Lib.hid p1
  have HP2 := Lib.hid p2
  have HP3 := Lib.hid p3'
  have HP4 := Lib.hid p4
  have HP5 := Lib.hid p5'
  have HP6 := Lib.hid p6'
  have HFI := Lib.hid hfin2
  have HT11 := Lib.hid t11
  have HM4 := Lib.hid hm4
  clear h0 hcf hok hmany hmo2 t1 t2 t3 t4 t5 t6 t7 t8 t9 t10 t11 p1 p2 p3' p4 p5' p6' mk1 mk2 hfin2 hp0 hlw hls hcells hlc hW0 hk0 hb0 hm4
  go_enter Tryz.func5, Tryz.ntmps5
  go_wp2_with fail
  rw [← HW0.out]
  refine (HLI.out W0).mono ?_
  rintro e w1 ⟨rfl, k1⟩
  have hb1 := k1.blk HB0.out (fun f => f)
  obtain ⟨W2, hW2⟩ : ∃ W2, W2 = (((((((((((w1.setCell ⟨w.heap.size, 0, none⟩ (.int .i64 l0)).setCell ⟨w.heap.size, 1, none⟩ (.int .i64 lw)).setCell ⟨w.heap.size, 2, none⟩ (.int .i64 l2)).setCell ⟨w.heap.size, 3, none⟩ (.int .i64 l3)).setCell ⟨w.heap.size, 4, none⟩ (.int .i64 l4)).setCell ⟨w.heap.size, 5, none⟩ (.int .i64 l5)).setCell ⟨w.heap.size, 6, none⟩ (.int .i64 ls)).setCell ⟨w.heap.size, 2, none⟩ (.int .i64 1)).setCell ⟨w.heap.size, 3, none⟩ (.int .i64 2)).setCell ⟨w.heap.size, 4, none⟩ (.int .i64 1)).setCell ⟨w.heap.size, 5, none⟩ (.int .i64 4)).setCell ⟨w.heap.size, 0, none⟩ (.int .i64 1) := ⟨_, rfl⟩
  have hb2 : Blk W2 w.heap.size [.int .i64 1, .int .i64 lw, .int .i64 1, .int .i64 2, .int .i64 1, .int .i64 4, .int .i64 ls] 23 := by
    rw [hW2]
    exact (((((((((((hb1.set 0 _).set 1 _).set 2 _).set 3 _).set 4 _).set 5 _).set 6 _).set 2 _).set 3 _).set 4 _).set 5 _).set 0 _
  have hr : w.heap.size ≤ w.heap.size := Nat.le_refl _
  have k2 : Keep none_ w W2 := by
    rw [hW2]
    exact ((((((((((((HK0.out.trans k1).putNew hr _ _).putNew hr _ _).putNew hr _ _).putNew hr _ _).putNew hr _ _).putNew hr _ _).putNew hr _ _).putNew hr _ _).putNew hr _ _).putNew hr _ _).putNew hr _ _).putNew hr _ _
  have f0 := hb1.free 0; have f1 := hb1.free 1; have f2 := hb1.free 2; have f3 := hb1.free 3; have f4 := hb1.free 4; have f5 := hb1.free 5; have f6 := hb1.free 6
  have y0 := hb1.cell 0 (v := .int .i64 c0) rfl; have y1 := hb1.cell 1 (v := .int .i64 c1) rfl; have y2 := hb1.cell 2 (v := .int .i64 c2) rfl; have y3 := hb1.cell 3 (v := .int .i64 c3) rfl; have y4 := hb1.cell 4 (v := .int .i64 c4) rfl; have y5 := hb1.cell 5 (v := .int .i64 c5) rfl; have y6 := hb1.cell 6 (v := .int .i64 c6) rfl
  have HW2 := Lib.hid hW2
  have HB2 := Lib.hid hb2
  have HK2 := Lib.hid k2
  clear hb1 hW2 hb2 k2 k1 hr
  go_wp2_with fail
  rw [← HW2.out]
  refine (HAW.out W2 HK2.out).mono ?_
  rintro e w3 ⟨rfl, k3⟩
  have hb3 := k3.out.blk HB2.out (fun f => f)
  clear f0 f1 f2 f3 f4 f5 f6 y0 y1 y2 y3 y4 y5 y6
  have y0 := hb3.cell 0 (v := .int .i64 1) rfl; have y1 := hb3.cell 1 (v := .int .i64 lw) rfl; have y2 := hb3.cell 2 (v := .int .i64 1) rfl; have y3 := hb3.cell 3 (v := .int .i64 2) rfl; have y4 := hb3.cell 4 (v := .int .i64 1) rfl; have y5 := hb3.cell 5 (v := .int .i64 4) rfl; have y6 := hb3.cell 6 (v := .int .i64 ls) rfl
  have HS3 := Lib.hid (HSQ.out w3 (HK2.out.trans k3.out))
  clear k3 hb3 HAW HSQ
  go_wp2_with fail
  refine HS3.out.mono ?_
  rintro e w4 ⟨G, rfl, h4⟩
  have s4 := h4.out.s0
  have HM4' := Lib.hid (HM1.out w4 G h4.out)
  clear y0 y1 y2 y3 y4 y5 y6 HS3 h4 HM1
  go_wp2_with fail
  refine HM4'.out.mono ?_
  rintro e w5 ⟨rfl, h5⟩
  have s5 := h5.out.s0
  have HM5 := Lib.hid (HM2.out w5 G h5.out)
  clear s4 h5 HM4' HM2
  go_wp2_with fail
  refine HM5.out.mono ?_
  rintro e w6 ⟨rfl, h6⟩
  have s6 := h6.out.s0
  have HC6 := Lib.hid (HSC.out w6 G h6.out)
  clear s5 h6 HM5 HSC
  go_wp2_with fail
  refine HC6.out.mono ?_
  rintro e w7 ⟨rfl, h7⟩
  obtain ⟨W8, hW8⟩ : ∃ W8, W8 = w7.alloc (.cells #[.int .i64 4, .int .i64 1, .int .i64 0, .int .i64 0, .int .i64 4, .int .i64 0, .int .i64 0, .int .i64 0, .int .i64 5, .int .i64 0, .int .i64 1, .int .i64 0] 61) := ⟨_, rfl⟩
  have k8 : Keep none_ w7 W8 := by rw [hW8]; exact (Keep.refl _ _).alloc _
  have HN8 := Lib.hid (HNEW.out W8 G (h7.out.still k8) w7.heap.size (by rw [hW8]; exact Blk.new w7 _ _))
  have HW8 := Lib.hid hW8
  clear s6 h7 HC6 hW8 k8 HNEW
  go_wp2_with fail
  rw [← HW8.out]
  refine HN8.out.mono ?_
  rintro e w9 ⟨g, rfl, h9⟩
  have H9 : Hid (SesZ w w9 [] G g (lgS (16 + ww) (1 + st)) (lgM (16 + ww) (1 + st))) := h9.out
  clear h9 HN8
  go_wp2_with fail
  go_loopw [13] (fun i wr => ∃ (k : Nat) (s' : Sh) (m' : MS), k ≤ 19 ∧ i = .int .i64 k ∧ SesZ w wr [] G g s' m' ∧ Pok k s' m' ∧ pickTill (fun _ m => decide (1 ≤ m.res.length)) (19 - k) s' m' = A) (fun i _ => 20 - (intOf i).toNat)
  case atStart => exact ⟨0, _, _, by omega, rfl, H9.out, HP0.out, HA0.out⟩
  case round =>
    obtain ⟨k, s', m', hk, rfl, hs, hp, ht⟩ := hrel
    have hkI : (k : Int) < 20 := by omega
    have HR := Lib.hid (hs.results (Nat.le_trans hp.res (by omega)))
    rcases till_next ht (by exact decide_eq_true HP1.out) with ⟨hst1, he⟩ | ⟨hst1, f', hf', ht'⟩
    · have hst2 : 1 ≤ m'.res.length := of_decide_eq_true hst1
      have hst3 : ¬ (m'.res.length : Int) < 1 := by omega
      have hst4 : decide ((m'.res.length : Int) < 1) = false := decide_eq_false hst3
      have HPA : Hid (Pok 20 (A).1 (A).2) := by rw [he]; exact hp.more (by omega)
      have HRA : Hid (Calls Tryz.prog 18 #[.pointer (some ⟨g.M, 0, none⟩)] wr fun e w' => (∃ a c, e = .returned (.slice a m'.res.length c)) ∧ SesZ w w' [] G g (A).1 (A).2) := by rw [he]; exact HR.out
      generalize m'.res.length = rl at *
      clear hs hp ht hst1 hst2 he HR hk
      go_wp2_with fail
      refine HRA.out.mono ?_
      rintro e w10 ⟨⟨ra, rc, rfl⟩, h10⟩
      have s10 := h10.sh.1
      have H10 := Lib.hid h10
      clear h10 HRA
      go_wp2_with fail
      have hC := SesZ.setCell H10.out 0 3
      rw [HT11.out] at hC
      have HC := Lib.hid hC
      clear hC s10
      refine HC.out.mono ?_
      rintro e w11 ⟨rfl, h11⟩
      have HPB : Hid (Pok 20 (Q 0).1 (Q 0).2) := by rw [HQ0.out]; exact HPA.out.setP 0 3
      have h11' : SesZ w w11 [] G g (Q 0).1 (Q 0).2 := by rw [HQ0.out]; exact h11
      have H12 := Lib.hid (h11'.more [.int .i64 1, .int .i64 5, .int .i64 7] 3)
      obtain ⟨W12, hW12⟩ : ∃ W12, W12 = w11.alloc (.cells #[.int .i64 1, .int .i64 5, .int .i64 7] 3) := ⟨_, rfl⟩
      have HW12 := Lib.hid hW12
      have H12' : Hid (SesZ w W12 [(w11.heap.size, [.int .i64 1, .int .i64 5, .int .i64 7], 3)] G g (Q 0).1 (Q 0).2) := by rw [hW12]; exact H12.out
      clear h11 h11' HC H10 HPA hW12 H12
      go_wp2_with fail
      rw [← HW12.out]
      generalize w11.heap.size = KB at *
      go_loopw [16, 17] (fun i _ wr => ∃ j : Nat, j ≤ many ∧ i = .int .i64 j ∧ SesZ w wr [(KB, [.int .i64 1, .int .i64 5, .int .i64 7], 3)] G g (Q j).1 (Q j).2 ∧ Pok (300 * (j + 1)) (Q j).1 (Q j).2) (fun i _ _ => many - (intOf i).toNat)
      case atStart => exact ⟨0, Nat.zero_le _, rfl, H12'.out, HPB.out.more (by decide)⟩
      case round =>
        obtain ⟨j, hj, rfl, hs, hp⟩ := hrel
        by_cases hlt : j < many
        · have hj3 : j < 3 := by have := HM4.out; omega
          have hltI : (j : Int) < (many : Int) := by omega
          have hjI : (j : Int) < 3 := by omega
          have sB := hs.sh.2.1
          have hKB := hs.blk (z := (KB, [.int .i64 1, .int .i64 5, .int .i64 7], 3)) (List.mem_cons_self ..)
          have cK : wr.cell? ⟨KB, j, none⟩ = some (.int .i64 (lgK j : Int)) := by
            refine hKB.cell j ?_
            rcases (by omega : j = 0 ∨ j = 1 ∨ j = 2) with rfl | rfl | rfl <;> rfl
          have hkd : Keep none_ wr wr.drew := (Keep.refl none_ wr).drew
          have hcn := HP4.out j (by omega)
          have HASK := Lib.hid ((hs.still hkd).ask (lgK j : Int) (by rw [hcn]; omega) (by rw [hcn]; omega))
          have HPK : Hid (Pok (300 * (j + 1)) { (Q j).1 with B := (Q j).1.B.askB (lgK j : Int) } (Q j).2) := hp.ask _
          have HQJ := Lib.hid (HQ1.out j)
          have HPJ := Lib.hid (HP2.out j hj3)
          generalize (lgK j : Int) = kj at *
          clear hs hp hKB hkd hcn
          go_wp2_with fail
          refine wp_region_still_mid 8 rfl (by kernel_rfl) (by kernel_rfl) (fun K hK => ?_)
          change wpStill _ _ (World.drew _) _ _ _
          simp only [List.take_succ_cons, List.take_zero, List.drop_succ_cons, List.drop_zero] at hK ⊢
          repeat still_step
          refine wpStill_nil ?_
          change ite _ (Oper.wp _ _ _ _ _ _) _
          go_simp
          refine HASK.out.mono ?_
          rintro e w13 ⟨⟨er, rfl⟩, h13⟩
          refine hK _ _ ?_
          clear hK K
          have H13 := Lib.hid h13
          clear h13 HASK sB cK
          repeat still_step
          refine wpStill_nil ?_
          go_wp2_with fail
          go_loopw [17] (fun nn wr2 => ∃ (k : Nat) (s' : Sh) (m' : MS), k ≤ 199 ∧ nn = .int .i64 k ∧ SesZ w wr2 [(KB, [.int .i64 1, .int .i64 5, .int .i64 7], 3)] G g s' m' ∧ Pok (300 * (j + 1) + k) s' m' ∧ pickTill (fun s _ => s.B.all) (199 - k) s' m' = Q (j + 1)) (fun nn _ => 200 - (intOf nn).toNat)
          case atStart => exact ⟨0, _, _, by omega, rfl, H13.out, HPK.out, HQJ.out.symm⟩
          case round =>
            obtain ⟨k, s', m', hk, rfl, hs, hp, ht⟩ := hrel
            have hkI : (k : Int) < 200 := by omega
            have sB := hs.sh.2.1
            have HA2 := Lib.hid hs.all
            rcases till_next ht HPJ.out with ⟨hst1, he⟩ | ⟨hst1, f', hf', ht'⟩
            · rw [hst1] at HA2
              have HX : Hid (SesZ w wr [(KB, [.int .i64 1, .int .i64 5, .int .i64 7], 3)] G g (Q (j + 1)).1 (Q (j + 1)).2 ∧ Pok (300 * (j + 1 + 1)) (Q (j + 1)).1 (Q (j + 1)).2) := by rw [he]; exact ⟨hs, hp.more (by omega)⟩
              clear hs hp ht hst1 he hk
              go_wp2_with fail
              refine HA2.out.mono ?_
              rintro e w14 ⟨rfl, rfl⟩
              clear HA2 sB
              go_wp2_with fail
              go_roundw
              case rel => exact ⟨j + 1, by omega, by go_num, HX.out.1, HX.out.2⟩
              case measure => simp [intOf] <;> omega
            · rw [hst1] at HA2
              have HPK2 := Lib.hid (hs.pick hp (by omega))
              have HN : Hid (∀ W, SesZ w W [(KB, [.int .i64 1, .int .i64 5, .int .i64 7], 3)] G g (pickM s' m').1 (pickM s' m').2.1 → ∃ (k' : Nat) (s'' : Sh) (m'' : MS), k' ≤ 199 ∧ (k : Int) + 1 = (k' : Int) ∧ SesZ w W [(KB, [.int .i64 1, .int .i64 5, .int .i64 7], 3)] G g s'' m'' ∧ Pok (300 * (j + 1) + k') s'' m'' ∧ pickTill (fun s _ => s.B.all) (199 - k') s'' m'' = Q (j + 1)) := fun W hW => ⟨k + 1, _, _, by omega, by omega, hW, (pick_ok hp).1, by rw [show 199 - (k + 1) = f' by omega]; exact ht'⟩
              clear hs hp ht hst1 ht'
              go_wp2_with fail
              refine HA2.out.mono ?_
              rintro e w14 ⟨rfl, rfl⟩
              clear HA2 sB
              go_wp2_with fail
              refine HPK2.out.mono ?_
              rintro e w15 ⟨⟨v, rfl⟩, h15⟩
              have HN15 := Lib.hid (HN.out w15 h15)
              clear h15 HPK2 HN
              go_wp2_with fail
              go_roundw
              case rel =>
                obtain ⟨k', s'', m'', q1, q2, q3, q4, q5⟩ := HN15.out
                exact ⟨k', s'', m'', q1, by rw [← q2], q3, q4, q5⟩
              case measure => simp [intOf] <;> omega
        · have hje : j = many := by omega
          have HS0 : Hid (SesZ w wr [(KB, [.int .i64 1, .int .i64 5, .int .i64 7], 3)] G g (Q many).1 (Q many).2 ∧ Pok (300 * (many + 1)) (Q many).1 (Q many).2) := by rw [← hje]; exact ⟨hs, hp⟩
          have hnlt : ¬ (j : Int) < (many : Int) := by omega
          have hnlt2 : decide ((j : Int) < (many : Int)) = false := decide_eq_false hnlt
          clear hs hp hlt hje hj
          go_wp2_with fail
          go_loopw [18] (fun nn wr2 => ∃ (k : Nat) (s' : Sh) (m' : MS), k ≤ 199 ∧ nn = .int .i64 k ∧ SesZ w wr2 [(KB, [.int .i64 1, .int .i64 5, .int .i64 7], 3)] G g s' m' ∧ Pok (300 * (many + 1) + k) s' m' ∧ pickTill (fun _ m => doneM m) (199 - k) s' m' = E) (fun nn _ => 200 - (intOf nn).toNat)
          case atStart => exact ⟨0, _, _, by omega, rfl, HS0.out.1, HS0.out.2, HE0.out⟩
          case round =>
            obtain ⟨k, s', m', hk, rfl, hs, hp, ht⟩ := hrel
            have hkI : (k : Int) < 200 := by omega
            have HD2 := Lib.hid hs.done
            rcases till_next ht HP3.out with ⟨hst1, he⟩ | ⟨hst1, f', hf', ht'⟩
            · rw [hst1] at HD2
              have HX : Hid (∀ W, SesZ w W [(KB, [.int .i64 1, .int .i64 5, .int .i64 7], 3)] G g s' m' → SesZ w W [(KB, [.int .i64 1, .int .i64 5, .int .i64 7], 3)] G g E.1 E.2) := by rw [he]; exact fun W h => h
              clear hs hp ht hst1 he hk
              go_wp2_with fail
              refine HD2.out.mono ?_
              rintro e w14 ⟨rfl, h14⟩
              have H14 := Lib.hid (HX.out w14 h14)
              clear HD2 HX h14
              go_wp2_with fail
              have HLG := Lib.hid (SesZ.loggedL H14.out)
              refine HLG.out.mono ?_
              rintro e w15 ⟨la, lc, rfl, hown, h15⟩
              have HOW := Lib.hid (own_low hown (Nat.zero_le _))
              have H15 := Lib.hid h15
              clear hown h15 HLG H14
              obtain ⟨bl, hbl⟩ : ∃ bl, bl = E.2.buf.length := ⟨_, rfl⟩
              have HBL := Lib.hid hbl
              rw [← hbl]
              clear hbl
              go_wp2_with fail
              go_loopw [19, 20, 21] (fun lv _ _ wr => ∃ (s' : Sh) (l' : List Nat) (a : Option Addr) (c : Nat), lv = .slice a l'.length c ∧ wr.ownsRow 0 3 1 (.slice a l'.length c) l'.length (tabV l') ∧ SesL w wr [(KB, [.int .i64 1, .int .i64 5, .int .i64 7], 3)] G g s' E.2 (.slice a l'.length c) ∧ s'.boxes.length = 1 ∧ l' ++ s'.box 0 = E.2.buf ++ E.1.box 0 ∧ (l' ++ s'.box 0).length ≤ 20) (fun lv _ _ _ => 30 - sliceLen lv)
              case atStart => exact ⟨E.1, E.2.buf, la, lc, by rw [HBL.out], HOW.out, H15.out, HP5.out, rfl, by have := HP6.out; simp; omega⟩
              case round =>
                obtain ⟨s', l', a, c, rfl, ho, hs, hb1, hl, hln⟩ := hrel
                have hbx := hs.toZ.sh.2.2
                rw [hb1] at hbx
                obtain ⟨xa, xc, x4, xb⟩ := hbx
                obtain ⟨pb, po, rfl, x0⟩ := xb 0 (by decide)
                rw [Nat.add_zero] at x0
                have HLEN := Lib.hid (hs.toZ.len (by omega))
                obtain ⟨ll, hll⟩ : ∃ ll, ll = l'.length := ⟨_, rfl⟩
                cases hq : s'.box 0 with
                | nil =>
                  rw [hq] at HLEN hl
                  have HLEN : Hid (Calls Tryz.prog 29 #[.pointer (some ⟨G.bx 0, 0, none⟩)] wr fun e w' => e = .returned (.int .i64 0) ∧ wr = w') := HLEN.out
                  rw [List.append_nil] at hl
                  have HIN : Hid (∀ v : Nat, l'.contains v = true → Calls Tryz.prog 31 #[.slice a l'.length c, .int .i64 (v : Int)] wr fun e w' => e = .returned (.bool true) ∧ wr = w') := fun v hv => by
                    have h9 := in_any a l'.length c (l'.map fun x : Nat => (x : Int)) (v : Int) wr (own_ints ho) (by simp at hln; omega)
                    have e9 : inL (l'.map fun x : Nat => (x : Int)) (v : Int) = true := by
                      have h8 := List.contains_iff_mem.1 hv
                      exact inL_true.2 (List.mem_map.2 ⟨v, h8, rfl⟩)
                    rw [e9] at h9
                    exact h9
                  have HZ := Lib.hid hs.toZ
                  have hm' : many = 0 ∨ many = 1 ∨ many = 2 ∨ many = 3 := by have := HM4.out; omega
                  have HFI2 : Hid ((if many = 1 then l'.contains 1 && l'.contains 3 else if many = 2 then l'.contains 3 else E.2.buf.isEmpty && doneM E.2) = true) := by rw [hl]; exact HFI.out
                  clear ho hs hl hln hq xb
                  rcases hm' with rfl | rfl | rfl | rfl
                  case inl =>
                    have f1 : E.2.buf.length = 0 ∧ doneM E.2 = true := by have := HFI2.out; simp at this; exact ⟨by rw [this.1]; rfl, this.2⟩
                    have HLG := Lib.hid (HZ.out.loggedL)
                    rw [f1.1] at HLG
                    have HDN : Hid (∀ W, SesZ w W [(KB, [.int .i64 1, .int .i64 5, .int .i64 7], 3)] G g s' E.2 → Calls Tryz.prog 20 #[.pointer (some ⟨g.M, 0, none⟩)] W fun e w' => e = .returned (.bool true) ∧ Keep none_ w w') := fun W hW => by
                      have h9 := hW.done
                      rw [f1.2] at h9
                      exact h9.mono (fun _ _ h => ⟨h.1, h.2.keep⟩)
                    clear f1
                    go_wp2_with fail
                    refine HLEN.out.mono ?_
                    rintro e w16 ⟨rfl, rfl⟩
                    clear HLEN HIN
                    go_wp2_with fail
                    refine HLG.out.mono ?_
                    rintro e w17 ⟨a2, c2, rfl, -, h17⟩
                    have HD17 := Lib.hid (HDN.out w17 h17.toZ)
                    clear h17 HLG HDN
                    go_wp2_with fail
                    refine HD17.out.mono ?_
                    rintro e w18 ⟨rfl, h18⟩
                    have H18 := Lib.hid h18
                    clear h18 HD17
                    go_wp2_with fail
                    go_ret
                    exact ⟨rfl, H18.out⟩
                  case inr.inl =>
                    have f1 : l'.contains 1 = true := by have := HFI2.out; simp at this; simpa using this.1
                    have f3 : l'.contains 3 = true := by have := HFI2.out; simp at this; simpa using this.2
                    have HI1 := Lib.hid (HIN.out 1 f1)
                    have HI3 := Lib.hid (HIN.out 3 f3)
                    go_wp2_with fail
                    refine HLEN.out.mono ?_
                    rintro e w16 ⟨rfl, rfl⟩
                    clear HLEN HIN
                    go_wp2_with fail
                    refine HI1.out.mono ?_
                    rintro e w17 ⟨rfl, rfl⟩
                    go_wp2_with fail
                    refine HI3.out.mono ?_
                    rintro e w17 ⟨rfl, rfl⟩
                    go_wp2_with fail
                    go_ret
                    exact ⟨rfl, HZ.out.keep⟩
                  case inr.inr.inl =>
                    have f3 : l'.contains 3 = true := by have := HFI2.out; simp at this; simpa using this
                    have HI3 := Lib.hid (HIN.out 3 f3)
                    go_wp2_with fail
                    refine HLEN.out.mono ?_
                    rintro e w16 ⟨rfl, rfl⟩
                    clear HLEN HIN
                    go_wp2_with fail
                    refine HI3.out.mono ?_
                    rintro e w17 ⟨rfl, rfl⟩
                    go_wp2_with fail
                    go_ret
                    exact ⟨rfl, HZ.out.keep⟩
                  case inr.inr.inr =>
                    have f1 : E.2.buf.length = 0 ∧ doneM E.2 = true := by have := HFI2.out; simp at this; exact ⟨by rw [this.1]; rfl, this.2⟩
                    have HLG := Lib.hid (HZ.out.loggedL)
                    rw [f1.1] at HLG
                    have HDN : Hid (∀ W, SesZ w W [(KB, [.int .i64 1, .int .i64 5, .int .i64 7], 3)] G g s' E.2 → Calls Tryz.prog 20 #[.pointer (some ⟨g.M, 0, none⟩)] W fun e w' => e = .returned (.bool true) ∧ Keep none_ w w') := fun W hW => by
                      have h9 := hW.done
                      rw [f1.2] at h9
                      exact h9.mono (fun _ _ h => ⟨h.1, h.2.keep⟩)
                    clear f1
                    go_wp2_with fail
                    refine HLEN.out.mono ?_
                    rintro e w16 ⟨rfl, rfl⟩
                    clear HLEN HIN
                    go_wp2_with fail
                    refine HLG.out.mono ?_
                    rintro e w17 ⟨a2, c2, rfl, -, h17⟩
                    have HD17 := Lib.hid (HDN.out w17 h17.toZ)
                    clear h17 HLG HDN
                    go_wp2_with fail
                    refine HD17.out.mono ?_
                    rintro e w18 ⟨rfl, h18⟩
                    have H18 := Lib.hid h18
                    clear h18 HD17
                    go_wp2_with fail
                    go_ret
                    exact ⟨rfl, H18.out⟩
                | cons x xs =>
                  rw [hq] at HLEN hl hln
                  have hxl : (0 : Int) < ((x :: xs).length : Int) := by simp only [List.length_cons]; omega
                  have HNX := Lib.hid (hs.next (by omega) hq)
                  have HLEN : Hid (Calls Tryz.prog 29 #[.pointer (some ⟨G.bx 0, 0, none⟩)] wr fun e w' => e = .returned (.int .i64 ((x :: xs).length : Int)) ∧ wr = w') := HLEN.out
                  have HL := Lib.hid hl
                  have HLN := Lib.hid hln
                  have HOI := Lib.hid (own_ints ho)
                  have HNX2 : Hid (Calls Tryz.prog 30 #[.pointer (some ⟨G.bx 0, 0, none⟩)] wr fun e w' => e = .returned (.tuple #[.int .i64 (x : Int), .bool true]) ∧ SesL w w' [(KB, [.int .i64 1, .int .i64 5, .int .i64 7], 3)] G g { s' with boxes := s'.boxes.set 0 xs } E.2 (.slice a l'.length c) ∧ w'.ownsRow 0 3 1 (.slice a l'.length c) l'.length (tabV l')) := HNX.out.mono (fun _ _ h => ⟨h.1, h.2.1, h.2.2 _ _ _ _ ho⟩)
                  have HB1 := Lib.hid hb1
                  clear HNX HOI
                  clear ho hs hl hln hq xb
                  go_wp2_with fail
                  refine HLEN.out.mono ?_
                  rintro e w16 ⟨rfl, rfl⟩
                  clear HLEN
                  go_wp2_with fail
                  refine HNX2.out.mono ?_
                  rintro e w17 ⟨rfl, h17, o17⟩
                  have H17 := Lib.hid h17
                  have O17 := Lib.hid o17
                  have hl9 : l'.length ≤ 20 := by have := HLN.out; simp at this; omega
                  have kA : Keep none_ w17 (w17.alloc (.cells #[.int .i64 (x : Int)] 3)) := (Keep.refl none_ w17).alloc _
                  have hcell : (w17.alloc (.cells #[.int .i64 (x : Int)] 3)).cell? ⟨w17.heap.size, 0, none⟩ = some (.int .i64 (x : Int)) := (Blk.new w17 [.int .i64 (x : Int)] 3).cell 0 rfl
                  obtain ⟨g2, cap2, W2, hrun0, how, hgr, hwh⟩ := app_where (P := Tryz.prog) _ 40 40 3 (by kernel_rfl) Tryz.infoInt rfl (own_still O17.out kA) hcell rfl (by decide) (by omega)
                  have hrun : (app9 #[40, 40] 40 #[.slice a l'.length c, .slice (some ⟨w17.heap.size, 0, none⟩) 1 1]).run Tryz.prog (w17.alloc (.cells #[.int .i64 (x : Int)] 3)) = .ok (.slice (some ⟨g2, 0, none⟩) (l'.length + 1) cap2) W2 := hrun0
                  have hG := (H17.out.still kA).grow (v' := .slice (some ⟨g2, 0, none⟩) (l'.length + 1) cap2) (q := g2) hgr rfl hwh (World.ownsRow.lt how g2 rfl).2
                  have HG := Lib.hid hG
                  have HHO := Lib.hid how
                  clear HNX2 h17 o17 x0 x4 hrun0 how hgr hwh hG hcell kA hl9
                  go_wp2_with fail
                  go_roundw
                  case rel =>
                    refine ⟨{ s' with boxes := s'.boxes.set 0 xs }, l' ++ [x], some ⟨g2, 0, none⟩, cap2, ?_, ?_, ?_, ?_, ?_, ?_⟩
                    · simp
                    · have h9 := HHO.out
                      have e : tabV (l' ++ [x]) = tabV l' ++ [.int .i64 (x : Int)] := by simp [tabV]
                      rw [e, List.length_append]
                      exact h9
                    · rw [List.length_append]; exact HG.out
                    · simp [HB1.out]
                    · have e : ({ s' with boxes := s'.boxes.set 0 xs } : Sh).box 0 = xs := by
                        have := HB1.out
                        simp [Sh.box, List.getD_eq_getElem?_getD, this]
                      rw [e, ← HL.out]; simp
                    · have e : ({ s' with boxes := s'.boxes.set 0 xs } : Sh).box 0 = xs := by
                        have := HB1.out
                        simp [Sh.box, List.getD_eq_getElem?_getD, this]
                      rw [e]
                      have := HLN.out
                      simp at this ⊢
                      omega
                  case measure => have := HLN.out; simp [sliceLen] at this ⊢; omega
            · rw [hst1] at HD2
              have HPK2 : Hid (∀ W, SesZ w W [(KB, [.int .i64 1, .int .i64 5, .int .i64 7], 3)] G g s' m' → Calls Tryz.prog 11 #[.pointer (some ⟨g.M, 0, none⟩)] W fun e w' => (∃ v, e = .returned v) ∧ SesZ w w' [(KB, [.int .i64 1, .int .i64 5, .int .i64 7], 3)] G g (pickM s' m').1 (pickM s' m').2.1) := fun W hW => hW.pick hp (by have := HM4.out; omega)
              have HN : Hid (∀ W, SesZ w W [(KB, [.int .i64 1, .int .i64 5, .int .i64 7], 3)] G g (pickM s' m').1 (pickM s' m').2.1 → ∃ (k' : Nat) (s'' : Sh) (m'' : MS), k' ≤ 199 ∧ (k : Int) + 1 = (k' : Int) ∧ SesZ w W [(KB, [.int .i64 1, .int .i64 5, .int .i64 7], 3)] G g s'' m'' ∧ Pok (300 * (many + 1) + k') s'' m'' ∧ pickTill (fun _ m => doneM m) (199 - k') s'' m'' = E) := fun W hW => ⟨k + 1, _, _, by omega, by omega, hW, (pick_ok hp).1, by rw [show 199 - (k + 1) = f' by omega]; exact ht'⟩
              clear hs hp ht hst1 ht'
              go_wp2_with fail
              refine HD2.out.mono ?_
              rintro e w14 ⟨rfl, h14⟩
              have HP14 := Lib.hid (HPK2.out w14 h14)
              clear HD2 HPK2 h14
              go_wp2_with fail
              refine HP14.out.mono ?_
              rintro e w15 ⟨⟨v, rfl⟩, h15⟩
              have HN15 := Lib.hid (HN.out w15 h15)
              clear h15 HP14 HN
              go_wp2_with fail
              go_roundw
              case rel =>
                obtain ⟨k', s'', m'', q1, q2, q3, q4, q5⟩ := HN15.out
                exact ⟨k', s'', m'', q1, by rw [← q2], q3, q4, q5⟩
              case measure => simp [intOf] <;> omega
    · have hst2 : ¬ 1 ≤ m'.res.length := of_decide_eq_false hst1
      have hst3 : (m'.res.length : Int) < 1 := by omega
      have HPK : Hid (∀ W, SesZ w W [] G g s' m' → Calls Tryz.prog 11 #[.pointer (some ⟨g.M, 0, none⟩)] W fun e w' => (∃ v, e = .returned v) ∧ SesZ w w' [] G g (pickM s' m').1 (pickM s' m').2.1) := fun W hW => hW.pick hp (by omega)
      have HN : Hid (∀ W, SesZ w W [] G g (pickM s' m').1 (pickM s' m').2.1 → ∃ (k' : Nat) (s'' : Sh) (m'' : MS), k' ≤ 19 ∧ (k : Int) + 1 = (k' : Int) ∧ SesZ w W [] G g s'' m'' ∧ Pok k' s'' m'' ∧ pickTill (fun _ m => decide (1 ≤ m.res.length)) (19 - k') s'' m'' = A) := fun W hW => ⟨k + 1, _, _, by omega, by omega, hW, (pick_ok hp).1, by rw [show 19 - (k + 1) = f' by omega]; exact ht'⟩
      generalize m'.res.length = rl at *
      clear hs hp ht hst1 hst2 ht'
      go_wp2_with fail
      refine HR.out.mono ?_
      rintro e w10 ⟨⟨ra, rc, rfl⟩, h10⟩
      have HP10 := Lib.hid (HPK.out w10 h10)
      clear h10 HR HPK
      go_wp2_with fail
      refine HP10.out.mono ?_
      rintro e w11 ⟨⟨v, rfl⟩, h11⟩
      have HN11 := Lib.hid (HN.out w11 h11)
      clear h11 HP10 HN
      go_wp2_with fail
      go_roundw
      case rel =>
        obtain ⟨k', s'', m'', q1, q2, q3, q4, q5⟩ := HN11.out
        exact ⟨k', s'', m'', q1, by rw [← q2], q3, q4, q5⟩
      case measure => simp [intOf] <;> omega
end Go.Proofs.YtjdnkhljgnjkcaaGreatDoor
