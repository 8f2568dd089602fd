/- Parts of a walk, put together by a small program of mine from texts of their own: MutS22 MutP1 MutS21 MutP2 MutQ. -/
import Derived.Test.YtjdnkhljgnjkcaaGreatDoorZzx
import Derived.Test.YtjdnkhljgnjkcaaGreatDoorZzws
import Derived.Test.YtjdnkhljgnjkcaaGreatDoorZzn
import Derived.Test.YtjdnkhljgnjkcaaGreatDoorZzv
import Derived.Test.YtjdnkhljgnjkcaaGreatDoorZzu
/- A mutator's answers: the one that logs what is in registers. -/
namespace Go.Proofs.YtjdnkhljgnjkcaaGreatDoor
open Go.RowKit
attribute [local go_sem] Oper.semAt_some

section
variable {o : Ow} {w w' : World} {G : Geo} {g : MG} {s : Sh} {m : MS} {nv : Value} {ev : Option Ev}
theorem scanD_fun {c : Nat} : ∀ l : List Nat, funD (scanD c l) = true
  | [] => rfl
  | _ :: l => noteD_fun (scanD_fun l)
/-- What a round of Scan's loop finds: b the box of the mutator, st the box of the step. -/
structure ScI (o : Ow) (w : World) (N M Nt b st want : Nat) (regs : List Nat) (j : Nat) (W : World) : Prop where
  keep : Keep none_ w W
  mb : Blk W b [ptrV M] 30
  big : N ≤ W.heap.size
  st : ∃ fn caps, Blk W st [.func (.func fn) #[] caps] 103 ∧ MClo o W Nt M (scanD want (regs.drop (regs.length - j))) (.func (.func fn) #[] caps)
theorem ScI.own {N M Nt b st want : Nat} {regs : List Nat} {B : Nat} (hB : w.heap.size ≤ B) : OwnFrom B (ScI o w N M Nt b st want regs) := by
  rintro j W W' row ⟨h1, h2, hN, fn, caps, h3, h4⟩ hg hr
  refine ⟨ownFrom_keep (β := Nat) hB j W W' row h1 hg hr, ownFrom_blk (β := Nat) (cs := fun _ => _) j W W' row h2 hg hr, Nat.le_trans hN hg.size, fn, caps, ownFrom_blk (β := Nat) (cs := fun _ => _) j W W' row h3 hg hr, ?_⟩
  exact h4.gen (fun b cs T h5 h6 => ⟨h5, ownFrom_blk (β := Nat) (cs := fun _ => cs) j W W' row h6 hg hr⟩)
theorem ScI.later {N M Nt b st want : Nat} {regs : List Nat} {j : Nat} {W W' : World} (h : ScI o w N M Nt b st want regs j W) (k : Keep none_ W W') : ScI o w N M Nt b st want regs j W' := by
  obtain ⟨h1, h2, hN, fn, caps, h3, h4⟩ := h
  exact ⟨h1.trans k, k.blk h2 (fun f => f), Nat.le_trans hN k.size, fn, caps, k.blk h3 (fun f => f), h4.still k⟩
set_option maxRecDepth 100000 in
set_option maxHeartbeats 4000000 in
theorem mAnswer_scan (h : MAt o w G g s m ev nv) : Calls Tryz.prog 94 #[.pointer (some ⟨g.M, 0, none⟩), .int .i64 3] w fun e w' => ∃ fn caps, e = .returned (.func (.func fn) #[] caps) ∧ MClo o w' g.Nt g.M (scanD m.want m.regs) (.func (.func fn) #[] caps) ∧ Keep none_ w w' := by
  obtain ⟨W1, hW1⟩ : ∃ W1, W1 = w.alloc (.cells #[ptrV g.M] 30) := ⟨_, rfl⟩
  have k1 : Keep none_ w W1 := by rw [hW1]; exact (Keep.refl _ _).alloc _
  have hb1 : Blk W1 w.heap.size [ptrV g.M] 30 := by rw [hW1]; exact Blk.new w _ _
  have ho : o w.heap.size = 0 := h.sh.fut _ (Nat.le_refl _)
  have HL := Lib.hid ((mLast_new (Nt := g.Nt) (h.sh.fut.keep k1) 3 136 #[.pointer (some ⟨w.heap.size, 0, none⟩)] (by unfold AnsL; rw [if_neg (by decide), if_neg (by decide), if_pos rfl]; exact ⟨[w.heap.size], rfl, _, _, rfl, ho, hb1, rfl⟩) w.heap.size ho hb1))
  have HMAT : Hid (∀ W, Keep none_ w W → W.cell? ⟨g.M, 11, none⟩ = some (.pointer (some ⟨g.Nt, 0, none⟩)) ∧ W.cell? ⟨g.M, 14, none⟩ = some (.int .i64 (m.want : Int)) ∧ W.cell? ⟨g.M, 9, none⟩ = some (.slice (some ⟨g.X, 0, none⟩) m.regs.length m.regs.length) ∧ Blk W g.X (tabV m.regs) 3 ∧ Fut o W) := fun W hW => ⟨(h.still hW).c11, (h.still hW).c14, (h.still hW).c9, (h.still hW).regs, (h.still hW).sh.fut⟩
  have hr64 := h.rle
  have HXL : Hid (g.X < w.heap.size) := h.regs.lt
  have HW1 := Lib.hid hW1
  have hmf := hmkf
  have HK1 := Lib.hid k1
  have HB1 := Lib.hid hb1
  generalize m.want = mw at *
  generalize m.regs = regs at *
  clear h hW1 k1 hb1 ho
  refine (callsIn_wide (n := 9)).1 ?_
  refine callsIn_of_wp_marks Tryz.func94 rfl trivial ?_ rfl
  refine wpIn_wide.2 ?_
  simp only [Tryz.ntmps94, List.size_toArray, List.length_cons, List.length_nil, Nat.reduceAdd, Nat.reduceSub, Array.replicate_succ, Array.replicate_zero, List.push_toArray, List.append_toArray, List.nil_append, List.cons_append]
  go_wp2_with fail
  rw [← HW1.out]
  refine HL.out.mono ?_
  rintro e w2 ⟨fn, caps, rfl, h2, k2⟩
  -- the box of the step; owners under which it is somebody's
  obtain ⟨W3, hW3⟩ : ∃ W3, W3 = w2.alloc (.cells #[.func (.func fn) #[] caps] 103) := ⟨_, rfl⟩
  have k3 : Keep none_ w2 W3 := by rw [hW3]; exact (Keep.refl _ _).alloc _
  have hst : Blk W3 w2.heap.size [.func (.func fn) #[] caps] 103 := by rw [hW3]; exact Blk.new w2 _ _
  have e3 : W3.heap.size = w2.heap.size + 1 := by rw [hW3]; simp
  have kw2 : Keep none_ w w2 := HK1.out.trans k2
  have kw3 : Keep none_ w W3 := kw2.trans k3
  obtain ⟨f11, f14, f9, fX, fF⟩ := HMAT.out W3 kw3
  have fb := (k2.trans k3).blk HB1.out (fun f => f)
  have cb : W3.cell? ⟨w.heap.size, 0, none⟩ = some (.pointer (some ⟨g.M, 0, none⟩)) := fb.cell 0 rfl
  have cbx : ∀ x, (w2.alloc x).cell? ⟨w.heap.size, 0, none⟩ = some (.pointer (some ⟨g.M, 0, none⟩)) := fun x => ((k2.blk HB1.out (fun f => f)).alloc x).cell 0 rfl
  have f9x : ∀ x, (w2.alloc x).cell? ⟨g.M, 9, none⟩ = some (.slice (some ⟨g.X, 0, none⟩) regs.length regs.length) := fun x => (HMAT.out _ (kw2.trans ((Keep.refl _ _).alloc x))).2.2.1
  obtain ⟨o2, ho2⟩ : ∃ o2, o2 = o.put w2.heap.size 99 := ⟨_, rfl⟩
  have hext : OExt w2 o o2 := by rw [ho2]; exact Ow.put_ext (.inl (Nat.le_refl _))
  have hst2 : o2 w2.heap.size = 99 := by rw [ho2]; exact Ow.put_same _ _ _
  have hfut2 : Fut o2 W3 := by rw [ho2]; exact Ow.put_fut fF (Nat.le_refl _) (by omega)
  have HBACK : Hid (∀ W d v, MClo o2 W g.Nt g.M d v → MClo o W g.Nt g.M d v) := fun W d v hd => hd.gen (fun b cs T h5 h6 => ⟨by rw [ho2] at h5; unfold Ow.put at h5; split at h5 <;> first | exact h5 | omega, h6⟩)
  obtain ⟨W4, hW4⟩ : ∃ W4, W4 = W3.alloc (.cells #[.slice (some ⟨g.X, 0, none⟩) regs.length regs.length] 40) := ⟨_, rfl⟩
  have k4 : Keep none_ W3 W4 := by rw [hW4]; exact (Keep.refl _ _).alloc _
  have hbx : Blk W4 W3.heap.size [.slice (some ⟨g.X, 0, none⟩) regs.length regs.length] 40 := by rw [hW4]; exact Blk.new W3 _ _
  have e4 : W4.heap.size = W3.heap.size + 1 := by rw [hW4]; simp
  have HSEQ : Hid (SeqL Fence.wide 8 Tryz.prog 148 #[.pointer (some ⟨W3.heap.size, 0, none⟩)] (backL regs) EncS (backG W3.heap.size g.X) W4) := back_seq regs W3.heap.size g.X hr64 8 W4 hbx (k4.blk fX (fun f => f))
  have HI0 : Hid (ScI o2 w W4.heap.size g.M g.Nt w.heap.size w2.heap.size mw regs 0 W4) := ⟨kw3.trans k4, k4.blk fb (fun f => f), Nat.le_refl _, fn, caps, k4.blk hst (fun f => f), by
    rw [Nat.sub_zero, List.drop_length]
    exact (((MClo.ext hext h2).still k3).still k4)⟩
  have HGL : Hid (∀ i, backG W3.heap.size g.X i → i < W4.heap.size ∧ i ≠ w2.heap.size) := by
    have h5 := kw2.size
    rintro i (rfl | rfl)
    · exact ⟨by omega, by omega⟩
    · have := HXL.out; exact ⟨by omega, by omega⟩
  have HWL : Hid (w.heap.size < w2.heap.size ∧ w2.heap.size < W4.heap.size) := by
    have h5 := k2.size
    have h6 : W1.heap.size = w.heap.size + 1 := by rw [HW1.out]; simp
    exact ⟨by omega, by omega⟩
  have HF2 : Hid (∀ W, W3.heap.size ≤ W.heap.size → Fut o2 W) := fun W hW => hfut2.later hW
  have HST2 := Lib.hid hst2
  have HW3 := Lib.hid hW3
  have HW4 := Lib.hid hW4
  have HE4 := Lib.hid e4
  clear h2 k2 k3 hst e3 kw2 kw3 f11 f14 fX fF fb ho2 hext hst2 hfut2 k4 hbx e4 hW3 hW4 HL HK1 HB1
  go_wp2_with fail
  rw [← HW3.out]
  refine (bwNew_any _ _ _ _).mono ?_
  rintro e w4 ⟨rfl, hw4⟩
  rw [← HW4.out] at hw4
  subst hw4
  clear cb f9 cbx f9x
  go_wp2_with fail
  refine wpIn_wide (n := 9) |>.1 ?_
  refine rangeFn rfl (by decide) (gf := 148) (lb := #[.pointer (some ⟨W3.heap.size, 0, none⟩)]) rfl trivial (fun args w => by simp [callFunc, Tryz.func148, go_sem]; rfl) (all := backL regs) (Enc := EncS) (G := backG W3.heap.size g.X)
    HSEQ.out ?hG ?hps
    (fun j W => ScI o2 w w4.heap.size g.M g.Nt w.heap.size w2.heap.size mw regs j W)
    (fun _ _ _ => False)
    ?hI ?hIx ?h0 ?round ?done ?stop
  case hI => exact ScI.own (by have := HWL.out; omega)
  case hIx => exact fun c s W W' row h hg hr => h
  case h0 => exact HI0.out
  case hG => exact fun i hi => (HGL.out i hi).1
  case hps =>
    rintro W x args h
    rw [h]; rfl
  case stop => exact fun D c k W hD hk h => h.elim
  case round =>
    rintro l j x args W hx henc hI
    have hj : j < regs.length := by
      have h := (List.getElem?_eq_some_iff.1 hx).1
      rwa [backL_len] at h
    rw [backL_at hj] at hx
    injection hx with hx
    subst hx
    obtain ⟨x, hx⟩ : ∃ x, x = regs.getD (regs.length - 1 - j) 0 := ⟨_, rfl⟩
    obtain ⟨y, hy⟩ : ∃ y : Nat, y = regs.length - 1 - j := ⟨_, rfl⟩
    obtain rfl : args = #[.int .i64 (y : Int), .int .i64 (x : Int)] := by rw [hx, hy]; exact henc
    have HX := Lib.hid hx
    clear hx hy henc
    have HI := Lib.hid hI
    clear hI
    gi_wp2_with fail
    refine ⟨fun W => ScI o2 w w4.heap.size g.M g.Nt w.heap.size w2.heap.size mw regs j W, KeepsFrom.refl _ _, Holds.refl _ _, HI.out, (fun _ W' W'' row h hg hr => ScI.own (by have := HWL.out; omega) j W' W'' row h hg hr), ?_⟩
    clear HI
    rintro W2 hI
    have HG3 : Hid (w4.heap.size ≤ W2.heap.size) := hI.big
    obtain ⟨q11, q14, -, -, -⟩ := HMAT.out W2 hI.keep
    have qb : W2.cell? ⟨w.heap.size, 0, none⟩ = some (.pointer (some ⟨g.M, 0, none⟩)) := hI.mb.cell 0 rfl
    obtain ⟨fn1, caps1, hs1, hc1⟩ := hI.st
    have qs := hs1.cell 0 (v := .func (.func fn1) #[] caps1) rfl
    have fs := hs1.free 0
    have hkd : Keep none_ W2 W2.drew := (Keep.refl none_ W2).drew
    have hx := HX.out
    have hsc : scanD mw (regs.drop (regs.length - (j + 1))) = noteD x mw (scanD mw (regs.drop (regs.length - j))) := by
      have hq : regs.length - (j + 1) < regs.length := by omega
      rw [List.drop_eq_getElem_cons hq]
      have e1 : regs.length - (j + 1) + 1 = regs.length - j := by omega
      have e2 : regs[regs.length - (j + 1)] = x := by
        rw [hx, List.getD_eq_getElem?_getD, show regs.length - 1 - j = regs.length - (j + 1) by omega, List.getElem?_eq_getElem hq]; rfl
      rw [e1, e2]; rfl
    have HN : Hid (Calls Tryz.prog 137 #[.pointer (some ⟨g.Nt, 0, none⟩), .int .i64 (x : Int), .int .i64 (mw : Int), .func (.func fn1) #[] caps1] W2.drew fun e w3 => ∃ fn caps, e = .returned (.func (.func fn) #[] caps) ∧ w3.frozen? ⟨w2.heap.size, 0, none⟩ = false ∧ w3.cell? ⟨w2.heap.size, 0, none⟩ = some (.func (.func fn1) #[] caps1) ∧
        ScI o2 w w4.heap.size g.M g.Nt w.heap.size w2.heap.size mw regs (j + 1) (w3.setCell ⟨w2.heap.size, 0, none⟩ (.func (.func fn) #[] caps)) ∧ KeepsFrom w4.heap.size W2 (w3.setCell ⟨w2.heap.size, 0, none⟩ (.func (.func fn) #[] caps)) ∧ Holds (backG W3.heap.size g.X) W2 (w3.setCell ⟨w2.heap.size, 0, none⟩ (.func (.func fn) #[] caps))) := by
      refine (ntNote_fun (HF2.out W2.drew (by have := HE4.out; have := HG3.out; have := hkd.size; omega)) x mw (scanD mw (regs.drop (regs.length - j))) _ (hc1.still hkd) (scanD_fun _)).mono ?_
      rintro e w3 ⟨fn, caps, rfl, h5, k5⟩
      have k6 : Keep none_ W2 w3 := hkd.trans k5
      have hs3 := k6.blk hs1 (fun f => f)
      have kp : Keep (only w2.heap.size) w3 (w3.setCell ⟨w2.heap.size, 0, none⟩ (.func (.func fn) #[] caps)) := (Keep.refl _ _).put 0 _
      have h01 := HWL.out
      refine ⟨fn, caps, rfl, hs3.free 0, hs3.cell 0 rfl, ⟨?_, ?_, ?_, fn, caps, hs3.set 0 _, ?_⟩, ?_, ?_⟩
      · exact (hI.keep.trans k6).putNew (by omega) _ _
      · exact kp.blk (k6.blk hI.mb (fun f => f)) (fun e => by unfold only at e; omega)
      · have h7 := hI.big; have h8 := k6.size; simp; omega
      · rw [hsc]
        exact h5.keep kp (fun b hb e => by unfold only at e; rw [e, HST2.out] at hb; cases hb)
      · exact (KeepsFrom.ofKeep k6).trans ((KeepsOthers.setCell _ _ _).from _)
      · refine (Holds.ofKeep k6 (fun i hi => ⟨Nat.lt_of_lt_of_le (HGL.out i hi).1 HG3.out, fun f => f⟩)).trans ⟨by simp, fun i hi => ?_⟩
        rw [Below.heap_setCell _ _ _ _ (by simp; exact (HGL.out i hi).2)]
    clear hsc hx hI hs1 hc1 hkd
    gi_wp2_with fail
    refine wpIn_region_still_tail 10 (by kernel_rfl) (by kernel_rfl) (by kernel_rfl) ?_
    change wpStill _ _ (World.drew _) _ _ _
    simp only [List.take_succ_cons, List.take_zero, List.drop_succ_cons, List.drop_zero]
    repeat still_step
    refine wpStill_nil ?_
    change wpListIn _ _ _ _ _ _ _ W2.drew
    gi_wp2_with fail
    refine ⟨trivial, CallsIn.mono (CallsIn.inRound l (callsIn_wide.2 HN.out)) ?_⟩
    rintro e w3 ⟨fn3, caps3, rfl, hf3, hc3, hend⟩
    have HEND := Lib.hid hend
    clear hend HN qs fs qb q11 q14
    gi_wp2_with fail
    exact ⟨HEND.out.2.1, HEND.out.2.2, HEND.out.1⟩
  case done =>
    rintro D W hD hI hKd
    rw [backL_len] at hI
    obtain ⟨fn1, caps1, hs1, hc1⟩ := hI.st
    have cO := hs1.cell 0 (v := .func (.func fn1) #[] caps1) rfl
    have hKp := hI.keep.takeDeferred (D := D) (by have h1 := HWL.out; omega) (.deferred none)
    have HROW : Hid (MClo o (W.putObj D (.deferred none)) g.Nt g.M (scanD mw regs) (.func (.func fn1) #[] caps1)) := by
      rw [Nat.sub_self, List.drop_zero] at hc1
      refine HBACK.out _ _ _ (hc1.gen (fun b cs T h5 h6 => ⟨h5, h6.putObj hKd rfl⟩))
    clear hI hs1 hc1
    go_wp2_with fail
    refine ⟨by simp, .inl ⟨_, _, rfl, run_takeDeferred hKd, ?_⟩⟩
    refine ⟨.func (.func fn1) #[] caps1, by simp [results, Tryz.f94, go_sem], fn1, caps1, rfl, HROW.out, hKp⟩
end
end Go.Proofs.YtjdnkhljgnjkcaaGreatDoor

/- A mutator's answers, all; the first step of what is to be done. -/
namespace Go.Proofs.YtjdnkhljgnjkcaaGreatDoor
open Go.RowKit
attribute [local go_sem] Oper.semAt_some

/-- The first step of an answer. -/
def answerD (m : MS) (k : Int) : MD := if k = 3 then scanD m.want m.regs else if k = 5 then m.pourD m.want (.once 5) else .once k
section
variable {o : Ow} {w w' : World} {G : Geo} {g : MG} {s : Sh} {m : MS} {nv : Value} {ev : Option Ev}
theorem mAnswer_any (h : MAt o w G g s m ev nv) (k : Int) : Calls Tryz.prog 94 #[.pointer (some ⟨g.M, 0, none⟩), .int .i64 k] w fun e w' => ∃ fn caps, e = .returned (.func (.func fn) #[] caps) ∧ MClo o w' g.Nt g.M (answerD m k) (.func (.func fn) #[] caps) ∧ Keep none_ w w' := by
  unfold answerD
  by_cases h3 : k = 3
  · subst h3; rw [if_pos rfl]; exact mAnswer_scan h
  rw [if_neg h3]
  by_cases h5 : k = 5
  · subst h5; rw [if_pos rfl]; exact mAnswer_pour h
  rw [if_neg h5]
  exact mAnswer_once h.sh.fut k ⟨h3, h5⟩
theorem beginD_pend (h : s.B.pend m.id = true) : beginD s m = answerD m s.B.kind := by
  unfold beginD answerD
  rw [if_pos h]
theorem MAt.progC (h : MAt o w G g s m ev nv) : ∃ a c, w.cell? ⟨g.M, 15, none⟩ = some (.slice a m.prog.length c) ∧ m.prog.length ≤ 1000 ∧ ∀ i op, m.prog[i]? = some op → ∃ b off, a = some ⟨b, off, none⟩ ∧ ∀ j u, op.cells[j]? = some u → w.cell? ⟨b, off + i * 4 + j, none⟩ = some u := by
  obtain ⟨pv, rv, h1, ⟨a, c, rfl, h2, h3⟩, _⟩ := h.blk
  refine ⟨a, c, h1.cell 15 rfl, h2, fun i op hi => ?_⟩
  obtain ⟨b, off, cs, e1, _, e3, e4⟩ := h3 (by have := (List.getElem?_eq_some_iff.1 hi).1; omega)
  exact ⟨b, off, e1, fun j u hj => e3.cell _ (e4 i op hi j u hj)⟩
/-- Whether a pick answers is laid: what there is then. -/
theorem MAt.begin0 (h : MAt o w G g s m none nv) (p : Bool) {b : Nat} (hb : Blk w b [ptrV g.M] 30) (ho : o b = 0) : ∀ W2, W2 = w.setCell ⟨g.M, 22, none⟩ (.bool p) →
    MAt o W2 G g s { m with ans := p } none nv ∧ Keep (In o [20 + m.id]) w W2 ∧ Blk W2 b [ptrV g.M] 30 := by
  rintro W2 rfl
  obtain ⟨h3, k3⟩ := h.put 22 (.bool p) { m with ans := p } none nv (fun pv rv => rfl) ⟨rfl, rfl, rfl, rfl, rfl, rfl⟩
  exact ⟨h3, k3, hb.keepO k3 ho (by simp <;> omega)⟩
/-- What a pick does that answers. -/
def BegT (o : Ow) (w : World) (G : Geo) (g : MG) (s : Sh) (m : MS) (nv : Value) (p : Bool) : Ending → World → Prop := fun e w' => ∃ v, e = .returned v ∧ MAt o w' G g s { m with ans := p } none nv ∧ MClo o w' g.Nt g.M (beginD s m) v ∧ Keep (In o [20 + m.id]) w w'
set_option maxRecDepth 4000 in
set_option maxHeartbeats 4000000 in
theorem mBegin_yes (h : MAt o w G g s m none nv) (hp : s.B.pend m.id = true) : Calls Tryz.prog 54 #[.pointer (some ⟨g.M, 0, none⟩)] w (BegT o w G g s m nv true) := by
  obtain ⟨W1, hW1⟩ : ∃ W1, W1 = w.alloc (.cells #[ptrV g.M] 30) := ⟨_, rfl⟩
  have k1 : Keep none_ w W1 := by rw [hW1]; exact (Keep.refl _ _).alloc _
  have hb1 : Blk W1 w.heap.size [ptrV g.M] 30 := by rw [hW1]; exact Blk.new w _ _
  have ho : o w.heap.size = 0 := h.sh.fut _ (Nat.le_refl _)
  have h1 := h.still k1
  have c0 : W1.cell? ⟨w.heap.size, 0, none⟩ = some (.pointer (some ⟨g.M, 0, none⟩)) := hb1.cell 0 rfl
  have c1 := h1.m0
  have c2 := h1.s0.2.1
  have c3 := h1.c8
  have HKD : Hid (Keep none_ W1 W1.drew) := (Keep.refl none_ W1).drew
  have HP := Lib.hid (bd_pending_is (p := true) (k := s.B.pendK m.id) (h1.still HKD.out).sh.board hp rfl)
  have HALL : Hid (∀ W, Keep none_ W1 W → W.cell? ⟨w.heap.size, 0, none⟩ = some (.pointer (some ⟨g.M, 0, none⟩)) ∧ W.frozen? ⟨g.M, 22, none⟩ = false ∧ W.cell? ⟨g.M, 22, none⟩ = some (.bool m.ans) ∧
      ∀ W2, W2 = W.setCell ⟨g.M, 22, none⟩ (.bool true) → W2.cell? ⟨w.heap.size, 0, none⟩ = some (.pointer (some ⟨g.M, 0, none⟩)) ∧ (∃ a c, W2.cell? ⟨g.M, 16, none⟩ = some (.slice a m.res.length c)) ∧
        Hid (Calls Tryz.prog 94 #[.pointer (some ⟨g.M, 0, none⟩), .int .i64 (s.B.pendK m.id)] W2 fun e w' => ∃ fn caps, e = .returned (.func (.func fn) #[] caps) ∧ Hid (BegT o w G g s m nv true (.returned (.func (.func fn) #[] caps)) w'))) := fun W hW => by
    have h2 := h1.still hW
    have hb2 := hW.blk hb1 (fun f => f)
    refine ⟨hb2.cell 0 rfl, h2.free 22, h2.cell 22 _ (fun _ _ => rfl), fun W2 hW2 => ?_⟩
    obtain ⟨h3, k3, hb3⟩ := h2.begin0 true hb2 ho W2 hW2
    obtain ⟨rv, er, _, ra, rc, hrv⟩ := h3.resC
    refine ⟨hb3.cell 0 rfl, ⟨ra, rc, by rw [er, hrv]⟩, ?_⟩
    have ek : s.B.pendK m.id = s.B.kind := by unfold Bd.pendK; rw [if_pos hp]
    rw [ek]
    refine (mAnswer_any h3 s.B.kind).mono ?_
    rintro e w' ⟨fn, caps, rfl, h4, k4⟩
    refine ⟨fn, caps, rfl, _, rfl, h3.still k4, ?_, (k1.noneO.trans hW.noneO).trans (k3.trans k4.noneO)⟩
    rw [beginD_pend hp]; exact h4
  have HW1 := Lib.hid hW1
  generalize s.B.pendK m.id = kd at *
  generalize m.ans = an at *
  generalize m.res.length = rl at *
  clear h h1 hW1 k1 hb1 ho hp
  generalize BegT o w G g s m nv true = PO at *
  go_enter Tryz.func54, Tryz.ntmps54
  go_wp2_with fail
  rw [← HW1.out]
  refine wp_region_still_mid 11 rfl (by kernel_rfl) (by kernel_rfl) (fun K hK => ?_)
  change wpStill _ _ (World.drew _) _ _ _
  simp only [List.take_succ_cons, List.take_zero, List.drop_succ_cons, List.drop_zero] at hK ⊢
  repeat still_step
  refine wpStill_nil ?_
  change ite _ (Oper.wp _ _ _ _ _ _) _
  go_simp
  refine HP.out.mono ?_
  rintro e w2 ⟨rfl, hw2⟩
  refine hK _ _ ?_
  clear hK K
  obtain ⟨d0, d1, d2, hs⟩ := HALL.out w2 (by rw [← hw2]; exact HKD.out)
  obtain ⟨W2, hW2⟩ : ∃ W2, W2 = w2.setCell ⟨g.M, 22, none⟩ (.bool true) := ⟨_, rfl⟩
  obtain ⟨e0, ⟨ra, rc, e1⟩, HE⟩ := hs W2 hW2
  have HW2 := Lib.hid hW2
  rw [hW2] at e0 e1
  clear c0 c1 c2 c3 HP hs hW2 hw2 HALL HKD
  repeat still_step
  refine wpStill_nil ?_
  go_wp2_with fail
  rw [← HW2.out]
  refine HE.out.mono ?_
  rintro e w3 ⟨fn, caps, rfl, HR⟩
  go_wp2_with fail
  exact HR.out
set_option maxRecDepth 4000 in
set_option maxHeartbeats 4000000 in
theorem mBegin_end (h : MAt o w G g s m none nv) (hp : s.B.pend m.id = false) (hlt : ¬ m.res.length < m.prog.length) : Calls Tryz.prog 54 #[.pointer (some ⟨g.M, 0, none⟩)] w (BegT o w G g s m nv false) := by
  obtain ⟨W1, hW1⟩ : ∃ W1, W1 = w.alloc (.cells #[ptrV g.M] 30) := ⟨_, rfl⟩
  have k1 : Keep none_ w W1 := by rw [hW1]; exact (Keep.refl _ _).alloc _
  have hb1 : Blk W1 w.heap.size [ptrV g.M] 30 := by rw [hW1]; exact Blk.new w _ _
  have ho : o w.heap.size = 0 := h.sh.fut _ (Nat.le_refl _)
  have h1 := h.still k1
  have c0 : W1.cell? ⟨w.heap.size, 0, none⟩ = some (.pointer (some ⟨g.M, 0, none⟩)) := hb1.cell 0 rfl
  have c1 := h1.m0
  have c2 := h1.s0.2.1
  have c3 := h1.c8
  have HKD : Hid (Keep none_ W1 W1.drew) := (Keep.refl none_ W1).drew
  have HP := Lib.hid (bd_pending_is (p := false) (k := s.B.pendK m.id) (h1.still HKD.out).sh.board hp rfl)
  have HALL : Hid (∀ W, Keep none_ W1 W → W.cell? ⟨w.heap.size, 0, none⟩ = some (.pointer (some ⟨g.M, 0, none⟩)) ∧ W.frozen? ⟨g.M, 22, none⟩ = false ∧ W.cell? ⟨g.M, 22, none⟩ = some (.bool m.ans) ∧
      ∀ W2, W2 = W.setCell ⟨g.M, 22, none⟩ (.bool false) → W2.cell? ⟨w.heap.size, 0, none⟩ = some (.pointer (some ⟨g.M, 0, none⟩)) ∧ (∃ a c, W2.cell? ⟨g.M, 16, none⟩ = some (.slice a m.res.length c)) ∧ (∃ a c, W2.cell? ⟨g.M, 15, none⟩ = some (.slice a m.prog.length c)) ∧
        Hid (BegT o w G g s m nv false (.returned .nilFunc) W2)) := fun W hW => by
    have h2 := h1.still hW
    have hb2 := hW.blk hb1 (fun f => f)
    refine ⟨hb2.cell 0 rfl, h2.free 22, h2.cell 22 _ (fun _ _ => rfl), fun W2 hW2 => ?_⟩
    obtain ⟨h3, k3, hb3⟩ := h2.begin0 false hb2 ho W2 hW2
    obtain ⟨rv, er, _, ra, rc, hrv⟩ := h3.resC
    obtain ⟨pa, pc, ep, _, _⟩ := h3.progC
    refine ⟨hb3.cell 0 rfl, ⟨ra, rc, by rw [er, hrv]⟩, ⟨pa, pc, ep⟩, _, rfl, h3, ?_, (k1.noneO.trans hW.noneO).trans k3⟩
    have hbe : beginD s m = .nil := by
      unfold beginD
      rw [hp, if_neg (by decide), List.getElem?_eq_none (by omega)]
    rw [hbe]; rfl
  have HW1 := Lib.hid hW1
  have hltI : ¬ (m.res.length : Int) < (m.prog.length : Int) := by omega
  have hltB : decide ((m.res.length : Int) < (m.prog.length : Int)) = false := decide_eq_false hltI
  generalize s.B.pendK m.id = kd at *
  generalize m.ans = an at *
  generalize m.res.length = rl at *
  generalize m.prog.length = pl at *
  clear h h1 hW1 k1 hb1 ho hp hlt
  generalize BegT o w G g s m nv false = PO at *
  go_enter Tryz.func54, Tryz.ntmps54
  go_wp2_with fail
  rw [← HW1.out]
  refine wp_region_still_mid 11 rfl (by kernel_rfl) (by kernel_rfl) (fun K hK => ?_)
  change wpStill _ _ (World.drew _) _ _ _
  simp only [List.take_succ_cons, List.take_zero, List.drop_succ_cons, List.drop_zero] at hK ⊢
  repeat still_step
  refine wpStill_nil ?_
  change ite _ (Oper.wp _ _ _ _ _ _) _
  go_simp
  refine HP.out.mono ?_
  rintro e w2 ⟨rfl, hw2⟩
  refine hK _ _ ?_
  clear hK K
  obtain ⟨d0, d1, d2, hs⟩ := HALL.out w2 (by rw [← hw2]; exact HKD.out)
  obtain ⟨W2, hW2⟩ : ∃ W2, W2 = w2.setCell ⟨g.M, 22, none⟩ (.bool false) := ⟨_, rfl⟩
  obtain ⟨e0, ⟨ra, rc, e1⟩, ⟨pa, pc, e2⟩, HE⟩ := hs W2 hW2
  rw [hW2] at e0 e1 e2 HE
  clear c0 c1 c2 c3 HP hs hW2 hw2 HALL HKD
  repeat still_step
  refine wpStill_nil ?_
  go_wp2_with fail
  exact HE.out
set_option maxRecDepth 4000 in
set_option maxHeartbeats 4000000 in
theorem mBegin_op (h : MAt o w G g s m none nv) (hp : s.B.pend m.id = false) (hlt : m.res.length < m.prog.length) : Calls Tryz.prog 54 #[.pointer (some ⟨g.M, 0, none⟩)] w (BegT o w G g s m nv false) := by
  obtain ⟨W1, hW1⟩ : ∃ W1, W1 = w.alloc (.cells #[ptrV g.M] 30) := ⟨_, rfl⟩
  have k1 : Keep none_ w W1 := by rw [hW1]; exact (Keep.refl _ _).alloc _
  have hb1 : Blk W1 w.heap.size [ptrV g.M] 30 := by rw [hW1]; exact Blk.new w _ _
  have ho : o w.heap.size = 0 := h.sh.fut _ (Nat.le_refl _)
  have h1 := h.still k1
  have c0 : W1.cell? ⟨w.heap.size, 0, none⟩ = some (.pointer (some ⟨g.M, 0, none⟩)) := hb1.cell 0 rfl
  have c1 := h1.m0
  have c2 := h1.s0.2.1
  have c3 := h1.c8
  have HKD : Hid (Keep none_ W1 W1.drew) := (Keep.refl none_ W1).drew
  have HP := Lib.hid (bd_pending_is (p := false) (k := s.B.pendK m.id) (h1.still HKD.out).sh.board hp rfl)
  obtain ⟨op, eop⟩ : ∃ op, m.prog[m.res.length]? = some op := ⟨_, List.getElem?_eq_getElem hlt⟩
  have HALL : Hid (∀ W, Keep none_ W1 W → W.cell? ⟨w.heap.size, 0, none⟩ = some (.pointer (some ⟨g.M, 0, none⟩)) ∧ W.frozen? ⟨g.M, 22, none⟩ = false ∧ W.cell? ⟨g.M, 22, none⟩ = some (.bool m.ans) ∧
      ∀ W2, W2 = W.setCell ⟨g.M, 22, none⟩ (.bool false) → W2.cell? ⟨w.heap.size, 0, none⟩ = some (.pointer (some ⟨g.M, 0, none⟩)) ∧ (∃ a c, W2.cell? ⟨g.M, 16, none⟩ = some (.slice a m.res.length c)) ∧
        (∃ b off c, W2.cell? ⟨g.M, 15, none⟩ = some (.slice (some ⟨b, off, none⟩) m.prog.length c) ∧ W2.cell? ⟨b, off + m.res.length * 4, none⟩ = some (.int .i64 op.k) ∧ W2.cell? ⟨b, off + m.res.length * 4 + 1, none⟩ = some (.int .i64 op.a) ∧ W2.cell? ⟨b, off + m.res.length * 4 + 2, none⟩ = some (.int .i64 op.b) ∧ W2.cell? ⟨b, off + m.res.length * 4 + 3, none⟩ = some (.int .i64 op.c)) ∧
        Hid (BegT o w G g s m nv false (.returned (.func (.func 95) #[] #[.pointer (some ⟨w.heap.size, 0, none⟩), .pointer (some ⟨W2.heap.size, 0, none⟩)])) (W2.alloc (.cells #[.int .i64 op.k, .int .i64 op.a, .int .i64 op.b, .int .i64 op.c] 61)))) := fun W hW => by
    have h2 := h1.still hW
    have hb2 := hW.blk hb1 (fun f => f)
    refine ⟨hb2.cell 0 rfl, h2.free 22, h2.cell 22 _ (fun _ _ => rfl), fun W2 hW2 => ?_⟩
    obtain ⟨h3, k3, hb3⟩ := h2.begin0 false hb2 ho W2 hW2
    obtain ⟨rv, er, _, ra, rc, hrv⟩ := h3.resC
    obtain ⟨pa, pc, ep, _, hpo⟩ := h3.progC
    obtain ⟨pb, off, rfl, hcs⟩ := hpo _ op eop
    have k4 : Keep none_ W2 (W2.alloc (.cells op.cells.toArray 61)) := (Keep.refl _ _).alloc _
    refine ⟨hb3.cell 0 rfl, ⟨ra, rc, by rw [er, hrv]⟩, ⟨pb, off, pc, ep, hcs 0 _ rfl, hcs 1 _ rfl, hcs 2 _ rfl, hcs 3 _ rfl⟩, _, rfl, h3.still k4, ?_, (k1.noneO.trans hW.noneO).trans (k3.trans k4.noneO)⟩
    have hbe : beginD s m = .start op := by
      unfold beginD
      rw [hp, if_neg (by decide), eop]
    rw [hbe]
    exact ⟨[w.heap.size, W2.heap.size], rfl, _, _, rfl, ho, k4.blk hb3 (fun f => f), _, _, rfl, h3.sh.fut _ (Nat.le_refl _), Blk.new W2 op.cells _, rfl⟩
  have HW1 := Lib.hid hW1
  have hpl : m.prog.length ≤ 1000 := by
    obtain ⟨_, _, _, h9, _⟩ := h.progC
    exact h9
  have hltI : (m.res.length : Int) < (m.prog.length : Int) := by omega
  have hplI : (m.prog.length : Int) ≤ 1000 := by omega
  have hmf := hmkf
  obtain ⟨ok, oa, ob, oc⟩ := op
  simp only at HALL
  generalize s.B.pendK m.id = kd at *
  generalize m.ans = an at *
  generalize BegT o w G g s m nv false = PO at *
  generalize hrl : m.res.length = rl at *
  generalize hpl2 : m.prog.length = pl at *
  clear h h1 hW1 k1 hb1 ho hp eop hrl hpl2
  go_enter Tryz.func54, Tryz.ntmps54
  go_wp2_with fail
  rw [← HW1.out]
  refine wp_region_still_mid 11 rfl (by kernel_rfl) (by kernel_rfl) (fun K hK => ?_)
  change wpStill _ _ (World.drew _) _ _ _
  simp only [List.take_succ_cons, List.take_zero, List.drop_succ_cons, List.drop_zero] at hK ⊢
  repeat still_step
  refine wpStill_nil ?_
  change ite _ (Oper.wp _ _ _ _ _ _) _
  go_simp
  refine HP.out.mono ?_
  rintro e w2 ⟨rfl, hw2⟩
  refine hK _ _ ?_
  clear hK K
  obtain ⟨d0, d1, d2, hs⟩ := HALL.out w2 (by rw [← hw2]; exact HKD.out)
  obtain ⟨W2, hW2⟩ : ∃ W2, W2 = w2.setCell ⟨g.M, 22, none⟩ (.bool false) := ⟨_, rfl⟩
  obtain ⟨e0, ⟨ra, rc, e1⟩, ⟨pb, off, pc, e2, y0, y1, y2, y3⟩, HE⟩ := hs W2 hW2
  rw [hW2] at e0 e1 e2 HE y0 y1 y2 y3
  clear c0 c1 c2 c3 HP hs hW2 hw2 HALL HKD
  repeat still_step
  refine wpStill_nil ?_
  go_wp2_with fail
  have h9 := HE.out
  rw [show (w2.setCell ⟨g.M, 22, none⟩ (.bool false)).heap.size = w2.heap.size from by simp] at h9
  exact h9
theorem mBegin_any (h : MAt o w G g s m none nv) : Calls Tryz.prog 54 #[.pointer (some ⟨g.M, 0, none⟩)] w (BegT o w G g s m nv (s.B.pend m.id)) := by
  cases hp : s.B.pend m.id with
  | true => exact mBegin_yes h hp
  | false =>
    by_cases hlt : m.res.length < m.prog.length
    · exact mBegin_op h hp hlt
    · exact mBegin_end h hp hlt
end
end Go.Proofs.YtjdnkhljgnjkcaaGreatDoor

/- Every step of a mutator, by its next step. -/
namespace Go.Proofs.YtjdnkhljgnjkcaaGreatDoor
open Go.RowKit

theorem cf_Mut_alloc_1 : ∀ args w, (callFunc 205 args).run Tryz.prog w = .ok (.enter 205 args) w := fun args w => by simp [callFunc, Tryz.func205, go_sem]; rfl
theorem cf_Mut_alloc_1_1 : ∀ args w, (callFunc 207 args).run Tryz.prog w = .ok (.enter 207 args) w := fun args w => by simp [callFunc, Tryz.func207, go_sem]; rfl
theorem cf_Mut_assign_1 : ∀ args w, (callFunc 220 args).run Tryz.prog w = .ok (.enter 220 args) w := fun args w => by simp [callFunc, Tryz.func220, go_sem]; rfl
theorem cf_Mut_begin_1 : ∀ args w, (callFunc 95 args).run Tryz.prog w = .ok (.enter 95 args) w := fun args w => by simp [callFunc, Tryz.func95, go_sem]; rfl
theorem cf_Mut_carve_1 : ∀ args w, (callFunc 231 args).run Tryz.prog w = .ok (.enter 231 args) w := fun args w => by simp [callFunc, Tryz.func231, go_sem]; rfl
theorem cf_Mut_claim_1 : ∀ args w, (callFunc 227 args).run Tryz.prog w = .ok (.enter 227 args) w := fun args w => by simp [callFunc, Tryz.func227, go_sem]; rfl
theorem cf_Mut_field_1 : ∀ args w, (callFunc 223 args).run Tryz.prog w = .ok (.enter 223 args) w := fun args w => by simp [callFunc, Tryz.func223, go_sem]; rfl
theorem cf_Mut_fill_1 : ∀ args w, (callFunc 218 args).run Tryz.prog w = .ok (.enter 218 args) w := fun args w => by simp [callFunc, Tryz.func218, go_sem]; rfl
theorem cf_Mut_get_1 : ∀ args w, (callFunc 215 args).run Tryz.prog w = .ok (.enter 215 args) w := fun args w => by simp [callFunc, Tryz.func215, go_sem]; rfl
theorem cf_Mut_lay_1 : ∀ args w, (callFunc 224 args).run Tryz.prog w = .ok (.enter 224 args) w := fun args w => by simp [callFunc, Tryz.func224, go_sem]; rfl
theorem cf_Mut_lay_2 : ∀ args w, (callFunc 225 args).run Tryz.prog w = .ok (.enter 225 args) w := fun args w => by simp [callFunc, Tryz.func225, go_sem]; rfl
theorem cf_Mut_load_1 : ∀ args w, (callFunc 210 args).run Tryz.prog w = .ok (.enter 210 args) w := fun args w => by simp [callFunc, Tryz.func210, go_sem]; rfl
theorem cf_Mut_sweep_1 : ∀ args w, (callFunc 233 args).run Tryz.prog w = .ok (.enter 233 args) w := fun args w => by simp [callFunc, Tryz.func233, go_sem]; rfl
theorem cf_Mut_zero_1 : ∀ args w, (callFunc 226 args).run Tryz.prog w = .ok (.enter 226 args) w := fun args w => by simp [callFunc, Tryz.func226, go_sem]; rfl
theorem cf_Noter_Note_1 : ∀ args w, (callFunc 163 args).run Tryz.prog w = .ok (.enter 163 args) w := fun args w => by simp [callFunc, Tryz.func163, go_sem]; rfl
theorem cf_Noter_Note_2 : ∀ args w, (callFunc 165 args).run Tryz.prog w = .ok (.enter 165 args) w := fun args w => by simp [callFunc, Tryz.func165, go_sem]; rfl
theorem cf_Noter_Pour_1 : ∀ args w, (callFunc 169 args).run Tryz.prog w = .ok (.enter 169 args) w := fun args w => by simp [callFunc, Tryz.func169, go_sem]; rfl
theorem cf_Noter_paint_1 : ∀ args w, (callFunc 199 args).run Tryz.prog w = .ok (.enter 199 args) w := fun args w => by simp [callFunc, Tryz.func199, go_sem]; rfl
theorem cf_Noter_paint_1_1 : ∀ args w, (callFunc 202 args).run Tryz.prog w = .ok (.enter 202 args) w := fun args w => by simp [callFunc, Tryz.func202, go_sem]; rfl
theorem cf_note_Once_1 : ∀ args w, (callFunc 162 args).run Tryz.prog w = .ok (.enter 162 args) w := fun args w => by simp [callFunc, Tryz.func162, go_sem]; rfl
section
variable {o : Ow} {w w' : World} {G : Geo} {g : MG} {s : Sh} {m : MS} {nv : Value} {ev : Option Ev} {N : Nat}
theorem step_any (h : MAt o w G g s m none nv) (ok : Sok N s m) (hN : N ≤ 1000000) (d : MD) (hd : MDok m.regs.length d) (v : Value) (hv : NClo o w (G.D 0) (g.Nt, g.M) (30 + m.id) d v) (hnil : isNil d = false) :
    ∃ fn, ∃ bs : List Nat, v = .func (.func fn) #[] (bs.map ptrV).toArray ∧ (∀ args w, (callFunc fn args).run Tryz.prog w = .ok (.enter fn args) w) ∧ Calls Tryz.prog fn (bs.map ptrV).toArray w (StepPost o w G g nv m.id (stepM s m d)) := by
  have hres : m.res.length ≤ 1000000 := Nat.le_trans ok.res hN
  have hop : s.Q.opn ≤ 1000000000 := Nat.le_trans ok.opn (by omega)
  cases d with
  | nil => cases hnil
  | add x t =>
    obtain ⟨tv, ht, bs, e, hc⟩ := hv
    obtain ⟨b0, b1, b2, rfl, ⟨o0, k0⟩, ⟨o1, k1⟩, ⟨o2, k2⟩⟩ := caps3 hc
    refine ⟨_, _, e, cf_Noter_Note_1, (stAdd_any h x t tv ht b0 b1 b2 o0 o1 o2 k0 k1 k2).mono ?_⟩
    rintro e w' ⟨rfl, h1, h2, h3⟩
    have ee : (stepM s m (.add x t)).next = t ∧ (stepM s m (.add x t)).ev = none := by
      simp only [stepM]
      split <;> exact ⟨rfl, rfl⟩
    refine StepPost.same (by rw [ee.2]; exact h1) (by rw [ee.1]; exact h2) h3
  | start o =>
    obtain ⟨bs, e, hc⟩ := stStart_any h o v hv hres
    exact ⟨_, bs, e, cf_Mut_begin_1, hc⟩
  | once k =>
    obtain ⟨bs, e, hc⟩ := stOnce_any h k v hv ok.color
    exact ⟨_, bs, e, cf_note_Once_1, hc⟩
  | note x c t =>
    obtain ⟨bs, e, hc⟩ := stNote_any h x c t v hv
    exact ⟨_, bs, e, cf_Noter_Note_2, hc⟩
  | pour c t =>
    obtain ⟨bs, e, hc⟩ := stPour_any h c t v hv
    exact ⟨_, bs, e, cf_Noter_Pour_1, hc⟩
  | paint c f t =>
    obtain ⟨bs, e, hc⟩ := stPaint_any h c f t v hv
    exact ⟨_, bs, e, cf_Noter_paint_1, hc⟩
  | raise t =>
    obtain ⟨bs, e, hc⟩ := stRaise_any h t v hv
    exact ⟨_, bs, e, cf_Noter_paint_1_1, hc⟩
  | field b f t =>
    obtain ⟨bs, e, hc⟩ := stField_any h b f t v hv hres
    exact ⟨_, bs, e, cf_Mut_field_1, hc⟩
  | load o b =>
    obtain ⟨bs, e, hc⟩ := stLoad_any h o b v hv hd.1 hd.2 hres
    exact ⟨_, bs, e, cf_Mut_load_1, hc⟩
  | get o =>
    obtain ⟨bs, e, hc⟩ := stGet_any h o v hv hd.1 hd.2 hres
    exact ⟨_, bs, e, cf_Mut_get_1, hc⟩
  | lay x rd =>
    obtain ⟨bs, e, hc⟩ := stLay_any h rd x v hv
    exact ⟨_, bs, e, cf_Mut_lay_2, hc⟩
  | last rd =>
    obtain ⟨bs, e, hc⟩ := stLast_any h rd v hv hres
    exact ⟨_, bs, e, cf_Mut_lay_1, hc⟩
  | alloc o k =>
    obtain ⟨bs, e, hc⟩ := stAlloc_any h o k v hv hd.2
    exact ⟨_, bs, e, cf_Mut_alloc_1, hc⟩
  | assign o k =>
    obtain ⟨bs, e, hc⟩ := stAssign_any h o k v hv hd.2
    exact ⟨_, bs, e, cf_Mut_alloc_1_1, hc⟩
  | carve o all =>
    obtain ⟨bs, e, hc⟩ := stCarve_any h o all v hv
    exact ⟨_, bs, e, cf_Mut_carve_1, hc⟩
  | claim o k =>
    obtain ⟨bs, e, hc⟩ := stClaim_any h o k v hv hd.2 ok.color hop (ok.q k)
    exact ⟨_, bs, e, cf_Mut_assign_1, hc⟩
  | again o k =>
    obtain ⟨bs, e, hc⟩ := stAgain_any h o k v hv hd.2 hres
    exact ⟨_, bs, e, cf_Mut_claim_1, hc⟩
  | sweep sl c t =>
    obtain ⟨bs, e, hc⟩ := stSweep_any h sl c t v hv hop
    exact ⟨_, bs, e, cf_Mut_sweep_1, hc⟩
  | fill o a =>
    obtain ⟨bs, e, hc⟩ := stFill_any h o a v hv hd.2.1 hd.2.2
    exact ⟨_, bs, e, cf_Mut_fill_1, hc⟩
  | zero o a i =>
    obtain ⟨bs, e, hc⟩ := stZero_any h o a i v hv hd.1.1.1 hd.1.1.2 (by have h1 := hd.1.2.2; have h2 := hd.2; omega) hres
    exact ⟨_, bs, e, cf_Mut_zero_1, hc⟩
/-- The mutator's next step is no part of its struct's other cells. -/
theorem MAt.withNext (h : MAt o w G g s m ev nv) (d : MD) : MAt o w G g s { m with next := d } ev nv :=
  ⟨h.sh, h.blk, h.oM, h.regs, h.oX, h.buf, h.oBf, h.nt, h.oNt, h.idl, h.box8, h.conf, h.rlen, h.blen⟩
/-- A mutator between its picks. -/
def MutAt (o : Ow) (w : World) (G : Geo) (g : MG) (s : Sh) (m : MS) : Prop := ∃ ev nv, MAt o w G g s m ev nv ∧ NClo o w (G.D 0) (g.Nt, g.M) (30 + m.id) m.next nv
end
end Go.Proofs.YtjdnkhljgnjkcaaGreatDoor

/- A mutator's pick: what is behind its first stores. -/
namespace Go.Proofs.YtjdnkhljgnjkcaaGreatDoor
open Go.RowKit
attribute [local go_sem] Oper.semAt_some

section
variable {o o' : Ow} {w w' : World} {G : Geo} {g : MG} {s : Sh} {m : MS} {nv : Value} {ev : Option Ev}
theorem NClo.keepO {D0 q : Nat} {gg : Nat × Nat} {d : MD} {v : Value} {I : List Nat} (h : NClo o w D0 gg q d v) (k : Keep (In o I) w w') (h0 : I.contains 0 = false) (hq : I.contains q = false) : NClo o w' D0 gg q d v := by
  cases d with
  | sweep sl c t =>
    obtain ⟨cv, tv, h1, h2, h3⟩ := h
    exact ⟨cv, tv, h1.keepO k h0 hq, h2.keepO k h0, h3.keep k (fun b hb => not_in' hb h0)⟩
  | _ => exact NClo.of (MClo.keepO (o := o) (Nt := gg.1) (M := gg.2) h k h0)
theorem NClo.ext {D0 q : Nat} {gg : Nat × Nat} {d : MD} {v : Value} (h : NClo o w D0 gg q d v) (e : OExt w o o') : NClo o' w D0 gg q d v := by
  cases d with
  | sweep sl c t =>
    obtain ⟨cv, tv, h1, h2, h3⟩ := h
    exact ⟨cv, tv, h1.ext e, MClo.ext e h2, h3.ext e⟩
  | _ => exact NClo.of (MClo.ext (o := o) (Nt := gg.1) (M := gg.2) e h)
/-- Whether there is a next step, by its value. -/
theorem NClo.form2 {D0 q : Nat} {gg : Nat × Nat} {d : MD} {v : Value} (h : NClo o w D0 gg q d v) : (isNil d = true ∧ v = .nilFunc) ∨ (isNil d = false ∧ ∃ fn caps, v = .func (.func fn) #[] caps) := by
  cases d with
  | nil => exact .inl ⟨rfl, h⟩
  | sweep sl c t =>
    obtain ⟨cv, tv, h1, h2, bs, rfl, _⟩ := h
    exact .inr ⟨rfl, _, _, rfl⟩
  | _ => exact .inr ⟨rfl, MClo.fun_ (o := o) (Nt := gg.1) (M := gg.2) h rfl⟩
/-- The event that a pick tells. -/
def evAgg : Option Ev → Value
  | none => .agg #[.int .i64 0, .int .i64 0, .int .i64 0, .int .i64 0, .int .i64 0, .int .i64 0]
  | some e => .agg #[.int .i64 0, .int .i64 (e.who : Int), .int .i64 (e.kind : Int), .int .i64 (e.op : Int), .int .i64 e.code, .int .i64 (e.value : Int)]
def evTold (ev : Option Ev) : Value := .bool ev.isSome
theorem ev_cells (ev : Option Ev) : ∃ a b c d e f t, evCells ev = [a, b, c, d, e, f, t] ∧ evAgg ev = .agg #[a, b, c, d, e, f] ∧ evTold ev = t := by
  cases ev with
  | none => exact ⟨_, _, _, _, _, _, _, rfl, rfl, rfl⟩
  | some x => exact ⟨_, _, _, _, _, _, _, rfl, rfl, rfl⟩
theorem MAt.evs2 (h : MAt o w G g s m ev nv) : ∃ a b c d e f t, (w.cell? ⟨g.M, 23, none⟩ = some a ∧ w.cell? ⟨g.M, 24, none⟩ = some b ∧ w.cell? ⟨g.M, 25, none⟩ = some c ∧ w.cell? ⟨g.M, 26, none⟩ = some d ∧ w.cell? ⟨g.M, 27, none⟩ = some e ∧ w.cell? ⟨g.M, 28, none⟩ = some f ∧ w.cell? ⟨g.M, 29, none⟩ = some t) ∧ evAgg ev = .agg #[a, b, c, d, e, f] ∧ evTold ev = t := by
  obtain ⟨a, b, c, d, e, f, t, he, h1, h2⟩ := ev_cells ev
  refine ⟨a, b, c, d, e, f, t, ⟨?_, ?_, ?_, ?_, ?_, ?_, ?_⟩, h1, h2⟩
  all_goals
    refine h.cell _ _ (fun pv rv => ?_)
    unfold mCells
    rw [he]
    rfl
abbrev zero6 : Array Value := #[.int .i64 0, .int .i64 0, .int .i64 0, .int .i64 0, .int .i64 0, .int .i64 0]
/-- The event is let go. -/
def clearW (w : World) (M : Nat) : World := ((((((w.setCell ⟨M, 23, none⟩ (.int .i64 0)).setCell ⟨M, 24, none⟩ (.int .i64 0)).setCell ⟨M, 25, none⟩ (.int .i64 0)).setCell ⟨M, 26, none⟩ (.int .i64 0)).setCell ⟨M, 27, none⟩ (.int .i64 0)).setCell ⟨M, 28, none⟩ (.int .i64 0)).setCell ⟨M, 29, none⟩ (.bool false)
theorem MAt.clearE (h : MAt o w G g s m ev nv) : MAt o (clearW w g.M) G g s m none nv ∧ Keep (In o [20 + m.id]) w (clearW w g.M) := by
  have k : Keep (only g.M) w (clearW w g.M) := (((((((Keep.refl _ _).put _ _).put _ _).put _ _).put _ _).put _ _).put _ _).put _ _
  exact h.struct k m none nv (fun pv rv hb => by
    have := ((((((hb.set 23 (.int .i64 0)).set 24 (.int .i64 0)).set 25 (.int .i64 0)).set 26 (.int .i64 0)).set 27 (.int .i64 0)).set 28 (.int .i64 0)).set 29 (.bool false)
    obtain ⟨a, b, c, d, e, f, t, he⟩ := evLen ev
    unfold mCells at this ⊢
    rw [he] at this
    exact this) ⟨rfl, rfl, rfl, rfl, rfl, rfl⟩
/-- How a pick begins: the cell of its result is made, the event let go, the pick counted. -/
theorem MAt.pick0 (h : MAt o w G g s m ev nv) {d : MD} (hn : NClo o w (G.D 0) (g.Nt, g.M) (30 + m.id) d nv) : ∃ o1 W2, W2 = (clearW (w.alloc (.cells zero6 35)) g.M).setCell ⟨g.M, 19, none⟩ (.int .i64 ((m.spent : Int) + 1)) ∧ OExt w o o1 ∧ o1 w.heap.size = 99 ∧
    MAt o1 W2 G g s { m with spent := m.spent + 1 } none nv ∧ NClo o1 W2 (G.D 0) (g.Nt, g.M) (30 + m.id) d nv ∧ Keep (In o (stepI m.id)) w W2 ∧ Blk W2 w.heap.size zero6.toList 35 := by
  obtain ⟨W0, hW0⟩ : ∃ W0, W0 = w.alloc (.cells zero6 35) := ⟨_, rfl⟩
  have k0 : Keep none_ w W0 := by rw [hW0]; exact (Keep.refl _ _).alloc _
  have hR : Blk W0 w.heap.size zero6.toList 35 := by rw [hW0]; exact Blk.new w _ _
  have e0 : W0.heap.size = w.heap.size + 1 := by rw [hW0]; simp
  obtain ⟨o1, ho1⟩ : ∃ o1, o1 = o.put w.heap.size 99 := ⟨_, rfl⟩
  have hext : OExt w o o1 := by rw [ho1]; exact Ow.put_ext (.inl (Nat.le_refl _))
  have hR1 : o1 w.heap.size = 99 := by rw [ho1]; exact Ow.put_same _ _ _
  have hf1 : Fut o1 W0 := by rw [ho1]; exact Ow.put_fut h.sh.fut k0.size (by omega)
  have h0 : MAt o1 W0 G g s m ev nv := h.moveE k0 hext hf1
  have n0 : NClo o1 W0 (G.D 0) (g.Nt, g.M) (30 + m.id) d nv := (hn.ext hext).keepO (I := []) k0.noneO rfl rfl
  obtain ⟨h1, k1⟩ := h0.clearE
  obtain ⟨h2, k2⟩ := h1.put 19 (.int .i64 ((m.spent : Int) + 1)) { m with spent := m.spent + 1 } none nv (fun pv rv => rfl) ⟨rfl, rfl, rfl, rfl, rfl, rfl⟩
  have i8 : m.id < 8 := Nat.lt_of_lt_of_le h.idl h.box8
  refine ⟨o1, _, by rw [hW0], hext, hR1, h2, ?_, ?_, ?_⟩
  · exact (n0.keepO k1 (by simp <;> omega) (by simp <;> omega)).keepO k2 (by simp <;> omega) (by simp <;> omega)
  · refine (k0.noneO (o := o) (I := stepI m.id)).trans' (k1.trans k2) (fun i hi hin => ?_)
    unfold In at hin ⊢
    rw [hext i hi] at hin
    simp at hin
    simp [stepI, hin]
  · exact (hR.keepO k1 hR1 (by simp <;> omega)).keepO k2 hR1 (by simp <;> omega)
/-- How a pick ends: its result is laid. -/
theorem MAt.pickEnd {R : Nat} (h : MAt o w G g s m ev nv) {d : MD} {v : Value} (hn : NClo o w (G.D 0) (g.Nt, g.M) (30 + m.id) d v) (k : Keep (only R) w w') (hR : o R = 99) : MAt o w' G g s m ev nv ∧ NClo o w' (G.D 0) (g.Nt, g.M) (30 + m.id) d v := by
  have i8 : m.id < 8 := Nat.lt_of_lt_of_le h.idl h.box8
  have k1 : Keep (In o [99]) w w' := k.onlyO hR rfl
  exact ⟨h.share k1 rfl (by simp <;> omega) (h.sh.keepO k1 rfl h.box8) rfl rfl, hn.keepO k1 rfl (by simp <;> omega)⟩
set_option maxRecDepth 4000 in
theorem eql_func (fn : Nat) (caps : Array Value) : ∀ w, (binOp .eql 103 (.func (.func fn) #[] caps) .nilFunc).run Tryz.prog w = .ok (.bool false) w := fun w => by first | rfl | (simp [binOp, go_sem]; done) | (simp [binOp, go_sem]; rfl)
set_option maxRecDepth 4000 in
theorem eql_nil : ∀ w, (binOp .eql 103 .nilFunc .nilFunc).run Tryz.prog w = .ok (.bool true) w := fun w => by first | rfl | (simp [binOp, go_sem]; done) | (simp [binOp, go_sem]; rfl)
end
end Go.Proofs.YtjdnkhljgnjkcaaGreatDoor

/- What a mutator tells of itself. -/
namespace Go.Proofs.YtjdnkhljgnjkcaaGreatDoor
open Go.RowKit
attribute [local go_sem] Oper.semAt_some

theorem mHeld_nil (w : World) : Calls Tryz.prog 14 #[.pointer none] w fun e w' => e = .returned (.int .i64 0) ∧ w = w' := by
  go_enter Tryz.func14, Tryz.ntmps14
  go_wp2_with fail
  go_ret
  exact ⟨rfl, rfl⟩
theorem mMode_nil (w : World) : Calls Tryz.prog 15 #[.pointer none] w fun e w' => e = .returned (.int .i64 0) ∧ w = w' := by
  go_enter Tryz.func15, Tryz.ntmps15
  go_wp2_with fail
  go_ret
  exact ⟨rfl, rfl⟩
theorem mColor_nil (w : World) : Calls Tryz.prog 16 #[.pointer none] w fun e w' => e = .returned (.int .i64 0) ∧ w = w' := by
  go_enter Tryz.func16, Tryz.ntmps16
  go_wp2_with fail
  go_ret
  exact ⟨rfl, rfl⟩
theorem mRegs_nil (w : World) : Calls Tryz.prog 13 #[.pointer none] w fun e w' => e = .returned (.slice none 0 0) ∧ w = w' := by
  go_enter Tryz.func13, Tryz.ntmps13
  go_wp2_with fail
  go_ret
  exact ⟨rfl, rfl⟩
theorem mLogged_nil (w : World) : Calls Tryz.prog 17 #[.pointer none] w fun e w' => e = .returned (.slice none 0 0) ∧ w = w' := by
  go_enter Tryz.func17, Tryz.ntmps17
  go_wp2_with fail
  go_ret
  exact ⟨rfl, rfl⟩
theorem mResults_nil (w : World) : Calls Tryz.prog 18 #[.pointer none] w fun e w' => e = .returned (.slice none 0 0) ∧ w = w' := by
  go_enter Tryz.func18, Tryz.ntmps18
  go_wp2_with fail
  go_ret
  exact ⟨rfl, rfl⟩
theorem mBusy_nil (w : World) : Calls Tryz.prog 19 #[.pointer none] w fun e w' => e = .returned (.bool false) ∧ w = w' := by
  go_enter Tryz.func19, Tryz.ntmps19
  go_wp2_with fail
  go_ret
  exact ⟨rfl, rfl⟩
theorem mMost_nil (w : World) : Calls Tryz.prog 12 #[.pointer none] w fun e w' => e = .returned (.tuple #[.int .i64 0, .int .i64 0]) ∧ w = w' := by
  go_enter Tryz.func12, Tryz.ntmps12
  go_wp2_with fail
  go_ret2
  exact ⟨rfl, rfl⟩
section
variable {o : Ow} {w w' : World} {G : Geo} {g : MG} {s : Sh} {m : MS} {nv : Value} {ev : Option Ev}
theorem mHeld_any (h : MAt o w G g s m ev nv) : Calls Tryz.prog 14 #[.pointer (some ⟨g.M, 0, none⟩)] w fun e w' => e = .returned (.int .i64 (m.held : Int)) ∧ w = w' := by
  have c := h.c18
  generalize m.held = x at *
  clear h
  go_enter Tryz.func14, Tryz.ntmps14
  go_wp2_with fail
  go_ret
  exact ⟨rfl, rfl⟩
theorem mMode_any (h : MAt o w G g s m ev nv) : Calls Tryz.prog 15 #[.pointer (some ⟨g.M, 0, none⟩)] w fun e w' => e = .returned (.int .i64 (m.mode : Int)) ∧ w = w' := by
  have c := h.c12
  generalize m.mode = x at *
  clear h
  go_enter Tryz.func15, Tryz.ntmps15
  go_wp2_with fail
  go_ret
  exact ⟨rfl, rfl⟩
theorem mColor_any (h : MAt o w G g s m ev nv) : Calls Tryz.prog 16 #[.pointer (some ⟨g.M, 0, none⟩)] w fun e w' => e = .returned (.int .i64 (m.color : Int)) ∧ w = w' := by
  have c : w.cell? ⟨g.M, 13, none⟩ = some (.int .i64 (m.color : Int)) := h.cell 13 _ (fun _ _ => rfl)
  generalize m.color = x at *
  clear h
  go_enter Tryz.func16, Tryz.ntmps16
  go_wp2_with fail
  go_ret
  exact ⟨rfl, rfl⟩
end
end Go.Proofs.YtjdnkhljgnjkcaaGreatDoor
