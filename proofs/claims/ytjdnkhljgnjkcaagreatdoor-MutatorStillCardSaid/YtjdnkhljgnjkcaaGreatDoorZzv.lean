/- Parts of a walk, put together by a small program of mine from texts of their own: MutS11 MutS12 MutS13 MDeeds MutS14 MutS15. -/
import Derived.Test.YtjdnkhljgnjkcaaGreatDoorZzu
import Derived.Deep.RegionHeld3
import Derived.BigRegion
import Derived.Test.YtjdnkhljgnjkcaaGreatDoorZzn
import Derived.Test.YtjdnkhljgnjkcaaGreatDoorZzc
import Derived.Maps.Own
/- What a mutator does first of an operation: alloc, load, get, set, store. -/
namespace Go.Proofs.YtjdnkhljgnjkcaaGreatDoor
open Go.RowKit
attribute [local go_sem] Oper.semAt_some

section
variable {o : Ow} {w w' : World} {G : Geo} {g : MG} {s : Sh} {m : MS} {nv : Value}
/-- A closure made last. -/
theorem StepPost.clo {d : MD} {fn : Nat} {caps : Array Value} (h : MAt o w G g s m none nv) (hc : MClo o w' g.Nt g.M d (.func (.func fn) #[] caps)) (k : Keep none_ w w') : StepPost o w G g nv m.id ⟨s, m, d, none⟩ (.returned (.func (.func fn) #[] caps)) w' :=
  StepPost.same (r := ⟨s, m, d, none⟩) (h.still k) hc k.noneO
set_option maxRecDepth 4000 in
set_option maxHeartbeats 1000000 in
theorem mGet_post (h : MAt o w G g s m none nv) (op : OpR) : Calls Tryz.prog 180 #[.pointer (some ⟨g.M, 0, none⟩), .agg op.cells.toArray] w (StepPost o w G g nv m.id ⟨s, m, .get op, none⟩) := by
  obtain ⟨ok, oa, ob, oc⟩ := op
  have hc := caps_new (o := o) [([ptrV g.M], 30), ([.int .i64 ok, .int .i64 oa, .int .i64 ob, .int .i64 oc], 61)] w h.sh.fut
  have HE : Hid (StepPost o w G g nv m.id ⟨s, m, .get ⟨ok, oa, ob, oc⟩, none⟩ (.returned (.func (.func 215) #[] #[ptrV w.heap.size, ptrV (w.heap.size + 1)])) (allocL w [([ptrV g.M], 30), ([.int .i64 ok, .int .i64 oa, .int .i64 ob, .int .i64 oc], 61)])) := by
    obtain ⟨b0, b1, e, ⟨o0, k0⟩, ⟨o1, k1⟩⟩ := caps2 hc.1
    simp only [idxs, List.cons.injEq] at e
    obtain ⟨rfl, rfl, _⟩ := e
    exact StepPost.clo h ⟨[w.heap.size, w.heap.size + 1], rfl, _, _, rfl, o0, k0, _, _, rfl, o1, k1, rfl⟩ hc.2
  have hmf := hmkf
  generalize (⟨s, m, .get ⟨ok, oa, ob, oc⟩, none⟩ : StepR) = R at *
  generalize m.id = mi at *
  clear hc h
  simp only [OpR.cells]
  go_enter Tryz.func180, Tryz.ntmps180
  go_wp2_with fail
  go_ret
  exact HE.out
set_option maxRecDepth 4000 in
set_option maxHeartbeats 1000000 in
theorem mAlloc_post (h : MAt o w G g s m none nv) (op : OpR) (h0 : 0 ≤ op.b) (h15 : op.b ≤ 15) : Calls Tryz.prog 177 #[.pointer (some ⟨g.M, 0, none⟩), .agg op.cells.toArray] w (StepPost o w G g nv m.id ⟨s, m, .alloc op (ofK op.b), none⟩) := by
  obtain ⟨ok, oa, ob, oc⟩ := op
  simp only at h0 h15
  have hc := caps_new (o := o) [([ptrV g.M], 30), ([.int .i64 ok, .int .i64 oa, .int .i64 ob, .int .i64 oc], 61), ([.int .i64 (ofK ob : Int)], 3)] w h.sh.fut
  have HE : Hid (StepPost o w G g nv m.id ⟨s, m, .alloc ⟨ok, oa, ob, oc⟩ (ofK ob), none⟩ (.returned (.func (.func 205) #[] #[ptrV w.heap.size, ptrV (w.heap.size + 1 + 1), ptrV (w.heap.size + 1)])) (allocL w [([ptrV g.M], 30), ([.int .i64 ok, .int .i64 oa, .int .i64 ob, .int .i64 oc], 61), ([.int .i64 (ofK ob : Int)], 3)])) := by
    obtain ⟨b0, b1, b2, e, ⟨o0, k0⟩, ⟨o1, k1⟩, ⟨o2, k2⟩⟩ := caps3 hc.1
    simp only [idxs, List.cons.injEq] at e
    obtain ⟨rfl, rfl, rfl, _⟩ := e
    exact StepPost.clo h ⟨[w.heap.size, w.heap.size + 1 + 1, w.heap.size + 1], rfl, _, _, rfl, o0, k0, _, _, rfl, o2, k2, _, _, rfl, o1, k1, rfl⟩ hc.2
  have hmf := hmkf
  have HO : Hid (∀ a b, Calls Tryz.prog 60 #[.int .i64 ob] ((w.alloc a).alloc b) fun e w' => e = .returned (.tuple #[.int .i64 (ofK ob : Int), .bool true]) ∧ ((w.alloc a).alloc b) = w') := fun a b => cOf_any ob h0 h15 _ (h.sh.heap.sizes.keep (((Keep.refl none_ w).alloc a).alloc b))
  generalize (⟨s, m, .alloc ⟨ok, oa, ob, oc⟩ (ofK ob), none⟩ : StepR) = R at *
  generalize ofK ob = kk at *
  generalize m.id = mi at *
  clear hc h
  simp only [OpR.cells]
  go_enter Tryz.func177, Tryz.ntmps177
  go_wp2_with fail
  refine (HO.out _ _).mono ?_
  rintro e w1 ⟨rfl, rfl⟩
  go_wp2_with fail
  go_ret
  exact HE.out
set_option maxRecDepth 4000 in
set_option maxHeartbeats 1000000 in
theorem mLoad_post (h : MAt o w G g s m none nv) (op : OpR) (h0b : 0 ≤ op.b) (hrb : op.b < m.regs.length) (hres : m.res.length ≤ 1000000) : Calls Tryz.prog 178 #[.pointer (some ⟨g.M, 0, none⟩), .agg op.cells.toArray] w (StepPost o w G g nv m.id (fieldR s m (m.reg op.b) op.c (.load op (m.reg op.b)))) := by
  obtain ⟨ok, oa, ob, oc⟩ := op
  simp only at h0b hrb
  obtain ⟨j, rfl⟩ : ∃ j : Nat, ob = (j : Int) := ⟨ob.toNat, by omega⟩
  have hj : j < m.regs.length := by omega
  have hreg : m.reg (j : Int) = m.regs.getD j 0 := by unfold MS.reg; rw [Int.toNat_natCast]
  simp only [hreg]
  obtain ⟨W2, hW2⟩ : ∃ W2, W2 = allocL w [([ptrV g.M], 30), ([.int .i64 ok, .int .i64 oa, .int .i64 (j : Int), .int .i64 oc], 61)] := ⟨_, rfl⟩
  have hc2 := caps_new (o := o) [([ptrV g.M], 30), ([.int .i64 ok, .int .i64 oa, .int .i64 (j : Int), .int .i64 oc], 61)] w h.sh.fut
  rw [← hW2] at hc2
  obtain ⟨b0, b1, e, ⟨o0, k0⟩, ⟨o1, k1⟩⟩ := caps2 hc2.1
  simp only [idxs, List.cons.injEq] at e
  obtain ⟨rfl, rfl, _⟩ := e
  have HW2 : Hid ((w.alloc (.cells #[ptrV g.M] 30)).alloc (.cells #[.int .i64 ok, .int .i64 oa, .int .i64 (j : Int), .int .i64 oc] 61) = W2) := by rw [hW2]; rfl
  have h2 := h.still hc2.2
  have ka : ∀ x, Keep none_ W2 (W2.alloc x) := fun x => (Keep.refl _ _).alloc x
  have c0 : W2.cell? ⟨w.heap.size, 0, none⟩ = some (.pointer (some ⟨g.M, 0, none⟩)) := k0.cell 0 rfl
  have p2 : W2.cell? ⟨w.heap.size + 1, 2, none⟩ = some (.int .i64 (j : Int)) := k1.cell 2 rfl
  have c9 := h2.c9
  have cj := h2.reg j hj
  have c0a := fun x => (ka x).still c0
  have p2a := fun x => (ka x).still p2
  have c9a := fun x => (ka x).still c9
  have cja := fun x => (ka x).still cj
  have hjI : (j : Int) < (m.regs.length : Int) := by omega
  have hj0 : (0 : Int) ≤ (j : Int) := by omega
  have hle := h.rle
  have hmf := hmkf
  obtain ⟨W4, hW4⟩ : ∃ W4, W4 = (W2.alloc (.cells #[.int .i64 (m.regs.getD j 0 : Nat)] 3)).drew := ⟨_, rfl⟩
  have k24 : Keep none_ W2 W4 := by rw [hW4]; exact (ka _).drew
  have k4 := hc2.2.trans k24
  have hb4 : Blk W4 W2.heap.size [.int .i64 (m.regs.getD j 0 : Nat)] 3 := by rw [hW4]; exact (Keep.refl none_ _).drew.blk (Blk.new W2 _ _) (fun f => f)
  have d0 : W4.cell? ⟨w.heap.size, 0, none⟩ = some (.pointer (some ⟨g.M, 0, none⟩)) := (k24.blk k0 (fun f => f)).cell 0 rfl
  have d1 := hb4.cell 0 rfl
  have d3 := (k24.blk k1 (fun f => f)).cell 3 rfl
  have HF : Hid (Calls Tryz.prog 209 #[.pointer (some ⟨g.M, 0, none⟩), .int .i64 (m.regs.getD j 0 : Nat), .int .i64 oc, .func (.func 210) #[] #[.pointer (some ⟨w.heap.size, 0, none⟩), .pointer (some ⟨W2.heap.size, 0, none⟩), .pointer (some ⟨w.heap.size + 1, 0, none⟩)]] W4 (fun e w' => ∃ nv', e = .returned nv' ∧ (nv' = .nilFunc ∨ ∃ (fn : Nat) (caps : Array Value), nv' = .func (.func fn) #[] caps) ∧ StepPost o w G g nv m.id (fieldR s m (m.regs.getD j 0) oc (.load ⟨ok, oa, (j : Int), oc⟩ (m.regs.getD j 0))) (.returned nv') w')) := by
    have hcl : MClo o W4 g.Nt g.M (.load ⟨ok, oa, (j : Int), oc⟩ (m.regs.getD j 0)) (.func (.func 210) #[] #[.pointer (some ⟨w.heap.size, 0, none⟩), .pointer (some ⟨W2.heap.size, 0, none⟩), .pointer (some ⟨w.heap.size + 1, 0, none⟩)]) :=
      ⟨[w.heap.size, W2.heap.size, w.heap.size + 1], rfl, _, _, rfl, o0, k24.blk k0 (fun f => f), _, _, rfl, h.sh.fut _ hc2.2.size, hb4, _, _, rfl, o1, k24.blk k1 (fun f => f), rfl⟩
    refine (mField_post (h.still k4) (m.regs.getD j 0) oc _ _ hcl hres).mono ?_
    intro e w' hp
    have hp2 := hp.after k4.noneO
    obtain ⟨o', nv', rfl, e2, h1, hn, kk⟩ := id hp2
    exact ⟨nv', rfl, hn.form, hp2⟩
  have HW4 := Lib.hid hW4
  generalize fieldR s m (m.regs.getD j 0) oc (.load ⟨ok, oa, (j : Int), oc⟩ (m.regs.getD j 0)) = R at *
  generalize m.regs.getD j 0 = x at *
  generalize m.regs.length = n at *
  generalize m.id = mi at *
  clear hc2 hW2 hW4 h h2 ka k0 k1 k24 k4 hb4 o0 o1 hj hreg hrb hres
  simp only [OpR.cells]
  go_enter Tryz.func178, Tryz.ntmps178
  go_wp2_with fail
  rw [HW2.out]
  go_region
  rw [← HW4.out]
  clear c0 p2 c9 cj c0a p2a c9a cja HW4 HW2
  go_wp2_with fail
  refine HF.out.mono ?_
  rintro e w5 ⟨nv', rfl, hf, hp⟩
  have HP := Lib.hid hp
  clear hp HF d0 d1 d3
  rcases hf with rfl | ⟨fn, caps, rfl⟩
  all_goals
    go_wp2_with fail
    go_ret
    exact HP.out
end
end Go.Proofs.YtjdnkhljgnjkcaaGreatDoor

/- What a mutator does first of an operation: set, store. -/
namespace Go.Proofs.YtjdnkhljgnjkcaaGreatDoor
open Go.RowKit
attribute [local go_sem] Oper.semAt_some

section
variable {o : Ow} {w w' : World} {G : Geo} {g : MG} {s : Sh} {m : MS} {nv : Value}
set_option maxRecDepth 4000 in
set_option maxHeartbeats 1000000 in
theorem mSet_post (h : MAt o w G g s m none nv) (op : OpR) (h0b : 0 ≤ op.b) (hrb : op.b < m.regs.length) : Calls Tryz.prog 181 #[.pointer (some ⟨g.M, 0, none⟩), .agg op.cells.toArray] w (StepPost o w G g nv m.id ⟨s, m, m.layD (m.reg op.b) (.cell op.a (m.reg op.b)), none⟩) := by
  obtain ⟨ok, oa, ob, oc⟩ := op
  simp only at h0b hrb
  obtain ⟨j, rfl⟩ : ∃ j : Nat, ob = (j : Int) := ⟨ob.toNat, by omega⟩
  have hj : j < m.regs.length := by omega
  have hreg : m.reg (j : Int) = m.regs.getD j 0 := by unfold MS.reg; rw [Int.toNat_natCast]
  simp only [hreg]
  obtain ⟨W2, hW2⟩ : ∃ W2, W2 = allocL w [([ptrV g.M], 30), ([.int .i64 ok, .int .i64 oa, .int .i64 (j : Int), .int .i64 oc], 61)] := ⟨_, rfl⟩
  have hc2 := caps_new (o := o) [([ptrV g.M], 30), ([.int .i64 ok, .int .i64 oa, .int .i64 (j : Int), .int .i64 oc], 61)] w h.sh.fut
  rw [← hW2] at hc2
  obtain ⟨b0, b1, e, ⟨o0, k0⟩, ⟨o1, k1⟩⟩ := caps2 hc2.1
  simp only [idxs, List.cons.injEq] at e
  obtain ⟨rfl, rfl, _⟩ := e
  have HW2 : Hid ((w.alloc (.cells #[ptrV g.M] 30)).alloc (.cells #[.int .i64 ok, .int .i64 oa, .int .i64 (j : Int), .int .i64 oc] 61) = W2) := by rw [hW2]; rfl
  have h2 := h.still hc2.2
  have ka : ∀ x, Keep none_ W2 (W2.alloc x) := fun x => (Keep.refl _ _).alloc x
  have c0 : W2.cell? ⟨w.heap.size, 0, none⟩ = some (.pointer (some ⟨g.M, 0, none⟩)) := k0.cell 0 rfl
  have p2 : W2.cell? ⟨w.heap.size + 1, 2, none⟩ = some (.int .i64 (j : Int)) := k1.cell 2 rfl
  have c9 := h2.c9
  have cj := h2.reg j hj
  have c0a := fun x => (ka x).still c0
  have p2a := fun x => (ka x).still p2
  have c9a := fun x => (ka x).still c9
  have cja := fun x => (ka x).still cj
  have hjI : (j : Int) < (m.regs.length : Int) := by omega
  have hj0 : (0 : Int) ≤ (j : Int) := by omega
  have hle := h.rle
  have hmf := hmkf
  obtain ⟨W4, hW4⟩ : ∃ W4, W4 = (W2.alloc (.cells #[.int .i64 (m.regs.getD j 0 : Nat)] 3)).drew := ⟨_, rfl⟩
  have k24 : Keep none_ W2 W4 := by rw [hW4]; exact (ka _).drew
  have k4 := hc2.2.trans k24
  have hb4 : Blk W4 W2.heap.size [.int .i64 (m.regs.getD j 0 : Nat)] 3 := by rw [hW4]; exact (Keep.refl none_ _).drew.blk (Blk.new W2 _ _) (fun f => f)
  have d0 : W4.cell? ⟨w.heap.size, 0, none⟩ = some (.pointer (some ⟨g.M, 0, none⟩)) := (k24.blk k0 (fun f => f)).cell 0 rfl
  have d1 := hb4.cell 0 rfl
  have HF : Hid (Calls Tryz.prog 213 #[.pointer (some ⟨g.M, 0, none⟩), .int .i64 (m.regs.getD j 0 : Nat), .func (.func 216) #[] #[.pointer (some ⟨w.heap.size, 0, none⟩), .pointer (some ⟨w.heap.size + 1, 0, none⟩)], .func (.func 217) #[] #[.pointer (some ⟨w.heap.size, 0, none⟩), .pointer (some ⟨w.heap.size + 1, 0, none⟩), .pointer (some ⟨W2.heap.size, 0, none⟩)]] W4 (fun e w' => ∃ fn caps, e = .returned (.func (.func fn) #[] caps) ∧ StepPost o w G g nv m.id ⟨s, m, m.layD (m.regs.getD j 0) (.cell oa (m.regs.getD j 0)), none⟩ (.returned (.func (.func fn) #[] caps)) w')) := by
    have hr : RdClo o W4 g.M (.cell oa (m.regs.getD j 0)) (.func (.func 216) #[] #[.pointer (some ⟨w.heap.size, 0, none⟩), .pointer (some ⟨w.heap.size + 1, 0, none⟩)]) :=
      ⟨⟨ok, oa, (j : Int), oc⟩, rfl, [w.heap.size, w.heap.size + 1], rfl, _, _, rfl, o0, k24.blk k0 (fun f => f), _, _, rfl, o1, k24.blk k1 (fun f => f), rfl⟩
    have hw : WrClo o W4 g.M (.cell oa (m.regs.getD j 0)) (.func (.func 217) #[] #[.pointer (some ⟨w.heap.size, 0, none⟩), .pointer (some ⟨w.heap.size + 1, 0, none⟩), .pointer (some ⟨W2.heap.size, 0, none⟩)]) :=
      ⟨⟨ok, oa, (j : Int), oc⟩, rfl, [w.heap.size, w.heap.size + 1, W2.heap.size], rfl, _, _, rfl, o0, k24.blk k0 (fun f => f), _, _, rfl, o1, k24.blk k1 (fun f => f), _, _, rfl, h.sh.fut _ hc2.2.size, hb4, rfl⟩
    refine (mLay_new (h.still k4) _ (m.regs.getD j 0) _ _ hr hw).mono ?_
    rintro e w' ⟨fn, caps, rfl, h1, k5⟩
    exact ⟨fn, caps, rfl, StepPost.clo h h1 (k4.trans k5)⟩
  have HW4 := Lib.hid hW4
  generalize (⟨s, m, m.layD (m.regs.getD j 0) (.cell oa (m.regs.getD j 0)), none⟩ : StepR) = R at *
  generalize m.regs.getD j 0 = x at *
  generalize m.regs.length = n at *
  generalize m.id = mi at *
  clear hc2 hW2 hW4 h h2 ka k0 k1 k24 k4 hb4 o0 o1 hj hreg hrb
  simp only [OpR.cells]
  go_enter Tryz.func181, Tryz.ntmps181
  go_wp2_with fail
  rw [HW2.out]
  go_region
  rw [← HW4.out]
  clear c0 p2 c9 cj c0a p2a c9a cja HW4 HW2
  go_wp2_with fail
  refine HF.out.mono ?_
  rintro e w5 ⟨fn, caps, rfl, hp⟩
  have HP := Lib.hid hp
  clear hp HF d0 d1
  go_wp2_with fail
  go_ret
  exact HP.out
end
end Go.Proofs.YtjdnkhljgnjkcaaGreatDoor

/- What a mutator does first of an operation: store. -/
namespace Go.Proofs.YtjdnkhljgnjkcaaGreatDoor
open Go.RowKit
attribute [local go_sem] Oper.semAt_some

section
variable {o : Ow} {w w' : World} {G : Geo} {g : MG} {s : Sh} {m : MS} {nv : Value}
/-- A base and a word in boxes: lay, and field behind it. -/
theorem store_tail (h : MAt o w G g s m none nv) (hres : m.res.length ≤ 1000000) {W4 : World} (k4 : Keep none_ w W4) (op : OpR) (x y bM bo ba bv : Nat) (o0 : o bM = 0) (o1 : o bo = 0) (o2 : o ba = 0) (o3 : o bv = 0) (k0 : Blk W4 bM [ptrV g.M] 30) (k1 : Blk W4 bo op.cells 61) (k2 : Blk W4 ba [.int .i64 (x : Int)] 3) (k3 : Blk W4 bv [.int .i64 (y : Int)] 3) :
    Calls Tryz.prog 213 #[.pointer (some ⟨g.M, 0, none⟩), .int .i64 (y : Int), .func (.func 212) #[] #[.pointer (some ⟨bM, 0, none⟩), .pointer (some ⟨ba, 0, none⟩), .pointer (some ⟨bo, 0, none⟩)], .func (.func 214) #[] #[.pointer (some ⟨bM, 0, none⟩), .pointer (some ⟨ba, 0, none⟩), .pointer (some ⟨bo, 0, none⟩), .pointer (some ⟨bv, 0, none⟩)]] W4.drew fun e w5 => ∃ fn caps, e = .returned (.func (.func fn) #[] caps) ∧
      (w5.cell? ⟨bM, 0, none⟩ = some (.pointer (some ⟨g.M, 0, none⟩)) ∧ w5.cell? ⟨ba, 0, none⟩ = some (.int .i64 (x : Int)) ∧ w5.cell? ⟨bo, 2, none⟩ = some (.int .i64 op.b) ∧ w5.cell? ⟨bv, 0, none⟩ = some (.int .i64 (y : Int))) ∧
      Hid (Calls Tryz.prog 209 #[.pointer (some ⟨g.M, 0, none⟩), .int .i64 (x : Int), .int .i64 op.b, .func (.func fn) #[] caps] w5 fun e w6 => ∃ nv', e = .returned nv' ∧ (nv' = .nilFunc ∨ ∃ (fn : Nat) (caps : Array Value), nv' = .func (.func fn) #[] caps) ∧ (w6.cell? ⟨bM, 0, none⟩ = some (.pointer (some ⟨g.M, 0, none⟩)) ∧ w6.cell? ⟨ba, 0, none⟩ = some (.int .i64 (x : Int)) ∧ w6.cell? ⟨bo, 2, none⟩ = some (.int .i64 op.b) ∧ w6.cell? ⟨bv, 0, none⟩ = some (.int .i64 (y : Int))) ∧ StepPost o w G g nv m.id (fieldR s m x op.b (m.layD y (.field x op.b y))) (.returned nv') w6) := by
  have kd : Keep none_ W4 W4.drew := (Keep.refl none_ W4).drew
  have k4d := k4.trans kd
  have q0 := kd.blk k0 (fun f => f)
  have q1 := kd.blk k1 (fun f => f)
  have q2 := kd.blk k2 (fun f => f)
  have q3 := kd.blk k3 (fun f => f)
  have hr : RdClo o W4.drew g.M (.field x op.b y) (.func (.func 212) #[] #[.pointer (some ⟨bM, 0, none⟩), .pointer (some ⟨ba, 0, none⟩), .pointer (some ⟨bo, 0, none⟩)]) := ⟨op, rfl, [bM, ba, bo], rfl, _, _, rfl, o0, q0, _, _, rfl, o2, q2, _, _, rfl, o1, q1, rfl⟩
  have hw : WrClo o W4.drew g.M (.field x op.b y) (.func (.func 214) #[] #[.pointer (some ⟨bM, 0, none⟩), .pointer (some ⟨ba, 0, none⟩), .pointer (some ⟨bo, 0, none⟩), .pointer (some ⟨bv, 0, none⟩)]) := ⟨op, rfl, [bM, ba, bo, bv], rfl, _, _, rfl, o0, q0, _, _, rfl, o2, q2, _, _, rfl, o1, q1, _, _, rfl, o3, q3, rfl⟩
  have hd := h.still k4d
  refine (mLay_new hd _ y _ _ hr hw).mono ?_
  rintro e w5 ⟨fn, caps, rfl, h5, k5⟩
  have k05 := k4d.trans k5
  have r0 := k5.blk q0 (fun f => f)
  have r1 := k5.blk q1 (fun f => f)
  have r2 := k5.blk q2 (fun f => f)
  have r3 := k5.blk q3 (fun f => f)
  refine ⟨fn, caps, rfl, ⟨r0.cell 0 rfl, r2.cell 0 rfl, r1.cell 2 rfl, r3.cell 0 rfl⟩, ?_⟩
  refine (mField_post (h.still k05) x op.b _ _ h5 hres).mono ?_
  intro e w6 hp
  obtain ⟨o', nv', rfl, e2, h1, hn, kk⟩ := id hp
  exact ⟨nv', rfl, hn.form, ⟨(r0.keepO kk o0 (stepI_0 _)).cell 0 rfl, (r2.keepO kk o2 (stepI_0 _)).cell 0 rfl, (r1.keepO kk o1 (stepI_0 _)).cell 2 rfl, (r3.keepO kk o3 (stepI_0 _)).cell 0 rfl⟩, hp.after k05.noneO⟩
set_option maxRecDepth 4000 in
set_option maxHeartbeats 4000000 in
theorem mStore_post (h : MAt o w G g s m none nv) (op : OpR) (h0a : 0 ≤ op.a) (hra : op.a < m.regs.length) (h0c : 0 ≤ op.c) (hrc : op.c < m.regs.length) (hres : m.res.length ≤ 1000000) : Calls Tryz.prog 179 #[.pointer (some ⟨g.M, 0, none⟩), .agg op.cells.toArray] w (StepPost o w G g nv m.id (fieldR s m (m.reg op.a) op.b (m.layD (m.reg op.c) (.field (m.reg op.a) op.b (m.reg op.c))))) := by
  obtain ⟨ok, oa, ob, oc⟩ := op
  simp only at h0a hra h0c hrc
  obtain ⟨j, rfl⟩ : ∃ j : Nat, oa = (j : Int) := ⟨oa.toNat, by omega⟩
  obtain ⟨i, rfl⟩ : ∃ i : Nat, oc = (i : Int) := ⟨oc.toNat, by omega⟩
  have hj : j < m.regs.length := by omega
  have hi : i < m.regs.length := by omega
  have hreg : m.reg (j : Int) = m.regs.getD j 0 := by unfold MS.reg; rw [Int.toNat_natCast]
  have hregi : m.reg (i : Int) = m.regs.getD i 0 := by unfold MS.reg; rw [Int.toNat_natCast]
  simp only [hreg, hregi]
  obtain ⟨W2, hW2⟩ : ∃ W2, W2 = allocL w [([ptrV g.M], 30), ([.int .i64 ok, .int .i64 (j : Int), .int .i64 ob, .int .i64 (i : Int)], 61)] := ⟨_, rfl⟩
  have hc2 := caps_new (o := o) [([ptrV g.M], 30), ([.int .i64 ok, .int .i64 (j : Int), .int .i64 ob, .int .i64 (i : Int)], 61)] w h.sh.fut
  rw [← hW2] at hc2
  obtain ⟨b0, b1, e, ⟨o0, k0⟩, ⟨o1, k1⟩⟩ := caps2 hc2.1
  simp only [idxs, List.cons.injEq] at e
  obtain ⟨rfl, rfl, _⟩ := e
  have HW2 : Hid ((w.alloc (.cells #[ptrV g.M] 30)).alloc (.cells #[.int .i64 ok, .int .i64 (j : Int), .int .i64 ob, .int .i64 (i : Int)] 61) = W2) := by rw [hW2]; rfl
  have h2 := h.still hc2.2
  have ka : ∀ x, Keep none_ W2 (W2.alloc x) := fun x => (Keep.refl _ _).alloc x
  have kb : ∀ x y, Keep none_ W2 ((W2.alloc x).alloc y) := fun x y => ((Keep.refl _ _).alloc x).alloc y
  have c0 : W2.cell? ⟨w.heap.size, 0, none⟩ = some (.pointer (some ⟨g.M, 0, none⟩)) := k0.cell 0 rfl
  have p1 : W2.cell? ⟨w.heap.size + 1, 1, none⟩ = some (.int .i64 (j : Int)) := k1.cell 1 rfl
  have p3 : W2.cell? ⟨w.heap.size + 1, 3, none⟩ = some (.int .i64 (i : Int)) := k1.cell 3 rfl
  have c9 := h2.c9
  have cj := h2.reg j hj
  have ci := h2.reg i hi
  have HB : Hid (∀ x y, ((W2.alloc x).alloc y).cell? ⟨w.heap.size, 0, none⟩ = some (.pointer (some ⟨g.M, 0, none⟩)) ∧ ((W2.alloc x).alloc y).cell? ⟨w.heap.size + 1, 1, none⟩ = some (.int .i64 (j : Int)) ∧ ((W2.alloc x).alloc y).cell? ⟨w.heap.size + 1, 3, none⟩ = some (.int .i64 (i : Int)) ∧ ((W2.alloc x).alloc y).cell? ⟨g.M, 9, none⟩ = some (.slice (some ⟨g.X, 0, none⟩) m.regs.length m.regs.length) ∧ ((W2.alloc x).alloc y).cell? ⟨g.X, j, none⟩ = some (.int .i64 (m.regs.getD j 0 : Nat)) ∧ ((W2.alloc x).alloc y).cell? ⟨g.X, i, none⟩ = some (.int .i64 (m.regs.getD i 0 : Nat))) := fun x y => ⟨(kb x y).still c0, (kb x y).still p1, (kb x y).still p3, (kb x y).still c9, (kb x y).still cj, (kb x y).still ci⟩
  have HA : Hid (∀ x, (W2.alloc x).cell? ⟨w.heap.size, 0, none⟩ = some (.pointer (some ⟨g.M, 0, none⟩)) ∧ (W2.alloc x).cell? ⟨w.heap.size + 1, 1, none⟩ = some (.int .i64 (j : Int)) ∧ (W2.alloc x).cell? ⟨w.heap.size + 1, 3, none⟩ = some (.int .i64 (i : Int)) ∧ (W2.alloc x).cell? ⟨g.M, 9, none⟩ = some (.slice (some ⟨g.X, 0, none⟩) m.regs.length m.regs.length) ∧ (W2.alloc x).cell? ⟨g.X, j, none⟩ = some (.int .i64 (m.regs.getD j 0 : Nat)) ∧ (W2.alloc x).cell? ⟨g.X, i, none⟩ = some (.int .i64 (m.regs.getD i 0 : Nat))) := fun x => ⟨(ka x).still c0, (ka x).still p1, (ka x).still p3, (ka x).still c9, (ka x).still cj, (ka x).still ci⟩
  have hjI : (j : Int) < (m.regs.length : Int) := by omega
  have hj0 : (0 : Int) ≤ (j : Int) := by omega
  have hiI : (i : Int) < (m.regs.length : Int) := by omega
  have hi0 : (0 : Int) ≤ (i : Int) := by omega
  have hle := h.rle
  have hmf := hmkf
  obtain ⟨V1, hV1⟩ : ∃ V, V = ((W2.alloc (.cells #[.int .i64 (m.regs.getD j 0 : Nat)] 3)).alloc (.cells #[.int .i64 (m.regs.getD i 0 : Nat)] 3)).drew := ⟨_, rfl⟩
  have kV1 : Keep none_ W2 V1 := by rw [hV1]; exact (kb _ _).drew
  have hA1 : Blk V1 W2.heap.size [.int .i64 (m.regs.getD j 0 : Nat)] 3 := by rw [hV1]; exact (Keep.refl none_ _).drew.blk ((Blk.new W2 _ _).alloc _) (fun f => f)
  have hB1 : Blk V1 (W2.heap.size + 1) [.int .i64 (m.regs.getD i 0 : Nat)] 3 := by
    rw [hV1]
    have h9 := Blk.new (W2.alloc (.cells #[.int .i64 (m.regs.getD j 0 : Nat)] 3)) [.int .i64 (m.regs.getD i 0 : Nat)] 3
    rw [World.size_alloc] at h9
    exact (Keep.refl none_ _).drew.blk h9 (fun f => f)
  have T1 := Lib.hid (store_tail h hres (hc2.2.trans kV1) ⟨ok, (j : Int), ob, (i : Int)⟩ (m.regs.getD j 0) (m.regs.getD i 0) w.heap.size (w.heap.size + 1) W2.heap.size (W2.heap.size + 1) o0 o1 (h.sh.fut _ (by have := hc2.2.size; omega)) (h.sh.fut _ (by have := hc2.2.size; omega)) (kV1.blk k0 (fun f => f)) (kV1.blk k1 (fun f => f)) hA1 hB1)
  have E1 : Hid (V1.cell? ⟨w.heap.size, 0, none⟩ = some (.pointer (some ⟨g.M, 0, none⟩)) ∧ V1.cell? ⟨W2.heap.size, 0, none⟩ = some (.int .i64 (m.regs.getD j 0 : Nat)) ∧ V1.cell? ⟨w.heap.size + 1, 2, none⟩ = some (.int .i64 ob) ∧ V1.cell? ⟨(W2.heap.size + 1), 0, none⟩ = some (.int .i64 (m.regs.getD i 0 : Nat))) := ⟨(kV1.blk k0 (fun f => f)).cell 0 rfl, (hA1).cell 0 rfl, (kV1.blk k1 (fun f => f)).cell 2 rfl, (hB1).cell 0 rfl⟩
  have HV1 := Lib.hid hV1
  obtain ⟨V2, hV2⟩ : ∃ V, V = ((W2.alloc (.cells #[.int .i64 (m.regs.getD i 0 : Nat)] 3)).alloc (.cells #[.int .i64 (m.regs.getD j 0 : Nat)] 3)).drew := ⟨_, rfl⟩
  have kV2 : Keep none_ W2 V2 := by rw [hV2]; exact (kb _ _).drew
  have hA2 : Blk V2 W2.heap.size [.int .i64 (m.regs.getD i 0 : Nat)] 3 := by rw [hV2]; exact (Keep.refl none_ _).drew.blk ((Blk.new W2 _ _).alloc _) (fun f => f)
  have hB2 : Blk V2 (W2.heap.size + 1) [.int .i64 (m.regs.getD j 0 : Nat)] 3 := by
    rw [hV2]
    have h9 := Blk.new (W2.alloc (.cells #[.int .i64 (m.regs.getD i 0 : Nat)] 3)) [.int .i64 (m.regs.getD j 0 : Nat)] 3
    rw [World.size_alloc] at h9
    exact (Keep.refl none_ _).drew.blk h9 (fun f => f)
  have T2 := Lib.hid (store_tail h hres (hc2.2.trans kV2) ⟨ok, (j : Int), ob, (i : Int)⟩ (m.regs.getD j 0) (m.regs.getD i 0) w.heap.size (w.heap.size + 1) (W2.heap.size + 1) W2.heap.size o0 o1 (h.sh.fut _ (by have := hc2.2.size; omega)) (h.sh.fut _ (by have := hc2.2.size; omega)) (kV2.blk k0 (fun f => f)) (kV2.blk k1 (fun f => f)) hB2 hA2)
  have E2 : Hid (V2.cell? ⟨w.heap.size, 0, none⟩ = some (.pointer (some ⟨g.M, 0, none⟩)) ∧ V2.cell? ⟨(W2.heap.size + 1), 0, none⟩ = some (.int .i64 (m.regs.getD j 0 : Nat)) ∧ V2.cell? ⟨w.heap.size + 1, 2, none⟩ = some (.int .i64 ob) ∧ V2.cell? ⟨W2.heap.size, 0, none⟩ = some (.int .i64 (m.regs.getD i 0 : Nat))) := ⟨(kV2.blk k0 (fun f => f)).cell 0 rfl, (hB2).cell 0 rfl, (kV2.blk k1 (fun f => f)).cell 2 rfl, (hA2).cell 0 rfl⟩
  have HV2 := Lib.hid hV2
  generalize fieldR s m (m.regs.getD j 0) ob (m.layD (m.regs.getD i 0) (.field (m.regs.getD j 0) ob (m.regs.getD i 0))) = R at *
  generalize m.id = mi at *
  clear hV1 hV2 kV1 kV2 hA1 hB1 hA2 hB2
  generalize m.regs.getD j 0 = x at *
  generalize m.regs.getD i 0 = y at *
  generalize m.regs.length = n at *
  clear hc2 hW2 h h2 ka kb hres k0 k1 o0 o1 hj hreg hi hregi hra hrc
  simp only [OpR.cells]
  go_enter Tryz.func179, Tryz.ntmps179
  go_wp2_with fail
  rw [HW2.out]
  go_region_held3 (fun w' => w'.cell? ⟨w.heap.size, 0, none⟩ = some (.pointer (some ⟨g.M, 0, none⟩)) ∧ w'.cell? ⟨w.heap.size + 1, 1, none⟩ = some (.int .i64 (j : Int)) ∧ w'.cell? ⟨w.heap.size + 1, 3, none⟩ = some (.int .i64 (i : Int)) ∧ w'.cell? ⟨g.M, 9, none⟩ = some (.slice (some ⟨g.X, 0, none⟩) n n) ∧ w'.cell? ⟨g.X, j, none⟩ = some (.int .i64 (x : Nat)) ∧ w'.cell? ⟨g.X, i, none⟩ = some (.int .i64 (y : Nat)))
    (first | exact ⟨c0, p1, p3, c9, cj, ci⟩ | exact HA.out _ | exact HB.out _ _ | fail "SFAIL")
    (fail "CFAIL")
  · rw [← HV1.out]
    obtain ⟨e0, e1, e2, e3⟩ := E1.out
    have T := T1
    clear c0 p1 p3 c9 cj ci HA HB T1 T2 E1 E2 HV1 HV2 HW2 hjI hj0 hiI hi0
    go_wp2_with fail
    go_region_held3 (fun w' => w'.cell? ⟨w.heap.size, 0, none⟩ = some (.pointer (some ⟨g.M, 0, none⟩)) ∧ w'.cell? ⟨W2.heap.size, 0, none⟩ = some (.int .i64 (x : Nat)) ∧ w'.cell? ⟨w.heap.size + 1, 2, none⟩ = some (.int .i64 ob) ∧ w'.cell? ⟨W2.heap.size + 1, 0, none⟩ = some (.int .i64 (y : Nat)))
      (first | exact ⟨e0, e1, e2, e3⟩ | exact h5.out | exact h6.out | fail "SFAIL")
      (first
        | (refine T.out.mono ?_
           rintro e w5 ⟨fn, caps, rfl, h5', HFi⟩
           have h5 := Lib.hid h5'
           clear h5')
        | (refine HFi.out.mono ?_
           rintro e w6 ⟨nv', rfl, hf, h6', hp⟩
           have h6 := Lib.hid h6'
           have HP := Lib.hid hp
           have HFo := Lib.hid hf
           clear h6' hp hf)
        | fail "CFAIL")
    clear T HFi e0 e1 e2 e3 h5 h6
    rcases HFo.out with rfl | ⟨fn2, caps2, rfl⟩
    all_goals
      clear HFo
      go_wp2_with fail
      go_ret
      exact HP.out
  · rw [← HV2.out]
    obtain ⟨e0, e1, e2, e3⟩ := E2.out
    have T := T2
    clear c0 p1 p3 c9 cj ci HA HB T1 T2 E1 E2 HV1 HV2 HW2 hjI hj0 hiI hi0
    go_wp2_with fail
    go_region_held3 (fun w' => w'.cell? ⟨w.heap.size, 0, none⟩ = some (.pointer (some ⟨g.M, 0, none⟩)) ∧ w'.cell? ⟨W2.heap.size + 1, 0, none⟩ = some (.int .i64 (x : Nat)) ∧ w'.cell? ⟨w.heap.size + 1, 2, none⟩ = some (.int .i64 ob) ∧ w'.cell? ⟨W2.heap.size, 0, none⟩ = some (.int .i64 (y : Nat)))
      (first | exact ⟨e0, e1, e2, e3⟩ | exact h5.out | exact h6.out | fail "SFAIL")
      (first
        | (refine T.out.mono ?_
           rintro e w5 ⟨fn, caps, rfl, h5', HFi⟩
           have h5 := Lib.hid h5'
           clear h5')
        | (refine HFi.out.mono ?_
           rintro e w6 ⟨nv', rfl, hf, h6', hp⟩
           have h6 := Lib.hid h6'
           have HP := Lib.hid hp
           have HFo := Lib.hid hf
           clear h6' hp hf)
        | fail "CFAIL")
    clear T HFi e0 e1 e2 e3 h5 h6
    rcases HFo.out with rfl | ⟨fn2, caps2, rfl⟩
    all_goals
      clear HFo
      go_wp2_with fail
      go_ret
      exact HP.out
end
end Go.Proofs.YtjdnkhljgnjkcaaGreatDoor

/- A mutator's deeds: the map of what each kind does. -/
namespace Go.Proofs.YtjdnkhljgnjkcaaGreatDoor
open Go.RowKit Go.Sort

def mDeedR : Value → Option (DataW Nat × List MemPlace)
  | .nilFunc => some (.nil, [])
  | .func (.func f) a b => if a.size = 0 ∧ b.size = 0 then some (.held f, []) else none
  | _ => none
theorem mDeedR_inv {v : Value} {f : Nat} {ps : List MemPlace} (h : mDeedR v = some (.held f, ps)) : v = .func (.func f) #[] #[] := by
  unfold mDeedR at h
  split at h
  · simp at h
  · split at h
    · rename_i h1
      simp at h
      obtain ⟨rfl, _⟩ := h
      obtain ⟨h1, h2⟩ := h1
      rw [Array.eq_empty_of_size_eq_zero h1, Array.eq_empty_of_size_eq_zero h2]
    · simp at h
  · simp at h

def mDeedD : DataW Nat := ((((((((DataW.map []).put (.int .i64 1) (.held 177)).put (.int .i64 2) (.held 178)).put (.int .i64 3) (.held 179)).put (.int .i64 4) (.held 180)).put (.int .i64 5) (.held 181)).put (.int .i64 6) (.held 182)).put (.int .i64 7) (.held 183)).put (.int .i64 8) (.held 184)
def mDeedNo (k : Int) : Option Nat := if k = 1 then some 177 else if k = 2 then some 178 else if k = 3 then some 179 else if k = 4 then some 180 else if k = 5 then some 181 else if k = 6 then some 182 else if k = 7 then some 183 else if k = 8 then some 184 else none

theorem mKeyI : Maps.Keyed Tryz.prog 3 := Maps.int_keyed (q := .i64) (by kernel_rfl)
theorem mMapU : Tryz.prog.underlying 194 = some (.map 3 193) := by kernel_rfl

theorem mDeed_up {w : World} {b n : Nat} {D : DataW Nat} (h : w.ownsMap Tryz.prog 3 mDeedR b n D) (hn : n ≤ 100) (k : Int) (hk : (Lit.int .i64 k).wf = true) (f : Nat) :
    ∃ w', (Instr.mapUpdate 194 (.map (some b)) (.int .i64 k) (.func (.func f) #[] #[])).run Tryz.prog w = .ok () w' ∧ w'.ownsMap Tryz.prog 3 mDeedR b (n + 1) (D.put (.int .i64 k) (.held f)) ∧ w.grownBy w' (some b) :=
  h.update mKeyI mMapU (by unfold maxLen; omega) (Maps.keyOf_int_mk (q := .i64) (by kernel_rfl) hk) (show mDeedR (.func (.func f) #[] #[]) = some (.held f, []) from rfl)
theorem mDeed_look {w : World} {b n : Nat} (h : w.ownsMap Tryz.prog 3 mDeedR b n mDeedD) (k : Int) (f : Nat) (hk : mDeedNo k = some f) : (Instr.lookup 194 (.map (some b)) (.int .i64 k) false).run Tryz.prog w = .ok (.func (.func f) #[] #[]) w := by
  have key : ∀ k f, (Lit.int .i64 k).wf = true → mDeedD.atKey (.int .i64 k) .nil = .held f → (Instr.lookup 194 (.map (some b)) (.int .i64 k) false).run Tryz.prog w = .ok (.func (.func f) #[] #[]) w := fun k f hwf hat => by
    obtain ⟨v, ps, hr, hv⟩ := h.lookup (z := .nilFunc) mKeyI mMapU (by kernel_rfl) (zd := .nil) (zp := []) rfl (Maps.keyOf_int_mk (q := .i64) (by kernel_rfl) hwf)
    rw [hat] at hv
    rw [hr, mDeedR_inv hv]
  unfold mDeedNo at hk
  split at hk
  · cases hk; subst k; exact key 1 _ (by decide) rfl
  split at hk
  · cases hk; subst k; exact key 2 _ (by decide) rfl
  split at hk
  · cases hk; subst k; exact key 3 _ (by decide) rfl
  split at hk
  · cases hk; subst k; exact key 4 _ (by decide) rfl
  split at hk
  · cases hk; subst k; exact key 5 _ (by decide) rfl
  split at hk
  · cases hk; subst k; exact key 6 _ (by decide) rfl
  split at hk
  · cases hk; subst k; exact key 7 _ (by decide) rfl
  split at hk
  · cases hk; subst k; exact key 8 _ (by decide) rfl
  · cases hk

set_option maxRecDepth 4000 in
set_option maxHeartbeats 1000000 in
theorem mDeeds_any (w : World) : Calls Tryz.prog 143 #[] w fun e w' => ∃ b, e = .returned (.map (some b)) ∧ Keep none_ w w' ∧ ∀ W, Keep none_ w' W → ∀ k f, mDeedNo k = some f → (Instr.lookup 194 (.map (some b)) (.int .i64 k) false).run Tryz.prog W = .ok (.func (.func f) #[] #[]) W := by
  have hmm := @run_makeMap Tryz.prog
  have h0 := World.ownsMap_made w Tryz.prog 3 mDeedR
  obtain ⟨w1, r1, h1, g1⟩ := mDeed_up h0 (by decide) 1 (by decide) 177
  obtain ⟨w2, r2, h2, g2⟩ := mDeed_up h1 (by decide) 2 (by decide) 178
  obtain ⟨w3, r3, h3, g3⟩ := mDeed_up h2 (by decide) 3 (by decide) 179
  obtain ⟨w4, r4, h4, g4⟩ := mDeed_up h3 (by decide) 4 (by decide) 180
  obtain ⟨w5, r5, h5, g5⟩ := mDeed_up h4 (by decide) 5 (by decide) 181
  obtain ⟨w6, r6, h6, g6⟩ := mDeed_up h5 (by decide) 6 (by decide) 182
  obtain ⟨w7, r7, h7, g7⟩ := mDeed_up h6 (by decide) 7 (by decide) 183
  obtain ⟨w8, r8, h8, g8⟩ := mDeed_up h7 (by decide) 8 (by decide) 184
  have hk0 : Keep none_ w (w.alloc (.map #[] 0)) := (Keep.refl _ _).alloc _
  have up : ∀ {a b : World}, Keep none_ w a → a.grownBy b (some w.heap.size) → Keep none_ w b := fun ha hg => ha.grown hg (fun k e hk => by injection e with e; omega)
  have HK := Lib.hid (up (up (up (up (up (up (up (up hk0 g1) g2) g3) g4) g5) g6) g7) g8)
  have HL : Hid (∀ W, Keep none_ w8 W → ∀ k f, mDeedNo k = some f → (Instr.lookup 194 (.map (some w.heap.size)) (.int .i64 k) false).run Tryz.prog W = .ok (.func (.func f) #[] #[]) W) := fun W hk k f hf =>
    mDeed_look (h8.kept (row := none) ⟨hk.os, hk.tape, hk.output, hk.size, fun i hi _ => hk.block i hi (fun f => f)⟩ (by simp)) k f hf
  clear h0 h1 h2 h3 h4 h5 h6 h7 h8 g1 g2 g3 g4 g5 g6 g7 g8 hk0 up
  go_enter Tryz.func143, Tryz.ntmps143
  go_wp2_with fail
  go_ret
  exact ⟨_, rfl, HK.out, HL.out⟩
end Go.Proofs.YtjdnkhljgnjkcaaGreatDoor

/- A mutator's start of an operation. -/
namespace Go.Proofs.YtjdnkhljgnjkcaaGreatDoor
open Go.RowKit
attribute [local go_sem] Oper.semAt_some

section
variable {o : Ow} {w w' : World} {G : Geo} {g : MG} {s : Sh} {m : MS} {nv : Value}
theorem MAt.confs {ev : Option Ev} (h : MAt o w G g s m ev nv) (c0 c1 c2 c3 c4 c5 c6 : Int) (e : m.c = ⟨c0, c1, c2, c3, c4, c5, c6⟩) : w.cell? ⟨g.M, 1, none⟩ = some (.int .i64 c0) ∧ w.cell? ⟨g.M, 2, none⟩ = some (.int .i64 c1) ∧ w.cell? ⟨g.M, 3, none⟩ = some (.int .i64 c2) ∧ w.cell? ⟨g.M, 4, none⟩ = some (.int .i64 c3) ∧ w.cell? ⟨g.M, 5, none⟩ = some (.int .i64 c4) ∧ w.cell? ⟨g.M, 6, none⟩ = some (.int .i64 c5) ∧ w.cell? ⟨g.M, 7, none⟩ = some (.int .i64 c6) := by
  refine ⟨h.cell 1 _ ?_, h.cell 2 _ ?_, h.cell 3 _ ?_, h.cell 4 _ ?_, h.cell 5 _ ?_, h.cell 6 _ ?_, h.cell 7 _ ?_⟩ <;> intro pv rv <;> simp [mCells, e, Conf.cells]
set_option maxRecDepth 4000 in
set_option maxHeartbeats 4000000 in
theorem mStart_go (h : MAt o w G g s m none nv) (op : OpR) (he : chk m.c op = 0) (f : Nat) (hf : mDeedNo op.k = some f) (hcf : ∀ (args : Array Value) (w : World), (callFunc f args).run Tryz.prog w = .ok (.enter f args) w) (R : StepR)
    (hdeed : ∀ W, Keep none_ w W → Calls Tryz.prog f #[.pointer (some ⟨g.M, 0, none⟩), .agg op.cells.toArray] W (StepPost o W G g nv m.id R)) :
    Calls Tryz.prog 96 #[.pointer (some ⟨g.M, 0, none⟩), .agg op.cells.toArray] w (StepPost o w G g nv m.id R) := by
  obtain ⟨W1, hW1⟩ : ∃ W1, W1 = w.alloc (.cells op.cells.toArray 61) := ⟨_, rfl⟩
  have k1 : Keep none_ w W1 := by rw [hW1]; exact (Keep.refl _ _).alloc _
  have hb1 : Blk W1 w.heap.size op.cells 61 := by rw [hW1]; exact Blk.new w _ _
  have h1 := h.still k1
  have ho : o w.heap.size = 0 := h.sh.fut _ (Nat.le_refl _)
  have kd : Keep none_ W1 W1.drew := (Keep.refl none_ W1).drew
  have HD : Hid (∀ W, Keep none_ w W → Blk W w.heap.size op.cells 61 → Calls Tryz.prog f #[.pointer (some ⟨g.M, 0, none⟩), .agg op.cells.toArray] W fun e w' => ∃ nv', e = .returned nv' ∧ (nv' = .nilFunc ∨ ∃ (fn : Nat) (caps : Array Value), nv' = .func (.func fn) #[] caps) ∧ Blk w' w.heap.size op.cells 61 ∧ StepPost o w G g nv m.id R (.returned nv') w') := fun W hk hb => by
    refine (hdeed W hk).mono ?_
    intro e w6 hp
    obtain ⟨o', nv', rfl, e2, h1, hn, kk⟩ := id hp
    exact ⟨nv', rfl, hn.form, hb.keepO kk ho (stepI_0 _), hp.after hk.noneO⟩
  have HC : Hid (Calls Tryz.prog 141 #[.agg m.c.cells.toArray, .agg op.cells.toArray] W1.drew fun e w' => e = .returned (.int .i64 0) ∧ Keep none_ w w' ∧ Blk w' w.heap.size op.cells 61) := by
    refine (check_any m.c op W1.drew ((h.sh.heap.tabs.keep k1).keep kd)).mono ?_
    rintro e w' ⟨rfl, k2⟩
    rw [he]
    exact ⟨rfl, k1.trans (kd.trans k2), (kd.trans k2).blk hb1 (fun f => f)⟩
  rcases hcc : m.c with ⟨c0, c1, c2, c3, c4, c5, c6⟩
  rw [hcc] at HC
  obtain ⟨m1, m2, m3, m4, m5, m6, m7⟩ := h1.confs c0 c1 c2 c3 c4 c5 c6 hcc
  obtain ⟨ok, oa, ob, oc⟩ := op
  simp only [OpR.cells, Conf.cells] at *
  have y0 := hb1.cell 0 rfl
  have y1 := hb1.cell 1 rfl
  have y2 := hb1.cell 2 rfl
  have y3 := hb1.cell 3 rfl
  have HW1 := Lib.hid hW1
  have HCF := Lib.hid hcf
  generalize m.id = mi at *
  clear h h1 hW1 he hdeed kd k1 hb1 hcf
  go_enter Tryz.func96, Tryz.ntmps96
  go_wp2_with fail
  rw [← HW1.out]
  refine wp_region_still_mid 5 rfl (by kernel_rfl) (by kernel_rfl) (fun K hK => ?_)
  change wpStill _ _ (World.drew _) _ _ _
  simp only [List.take_succ_cons, List.take_zero, List.drop_succ_cons, List.drop_zero] at hK ⊢
  repeat still_step
  refine wpStill_nil ?_
  change ite _ (Oper.wp _ _ _ _ _ _) _
  go_simp
  refine HC.out.mono ?_
  rintro e w2 ⟨rfl, k2, hb2⟩
  refine hK _ _ ?_
  clear hK K
  have K2 := Lib.hid k2
  have B2 := Lib.hid hb2
  clear k2 hb2 HC y0 y1 y2 y3 m1 m2 m3 m4 m5 m6 m7
  repeat still_step
  refine wpStill_nil ?_
  go_wp2_with fail
  have y0 := B2.out.cell 0 rfl
  have y1 := B2.out.cell 1 rfl
  have y2 := B2.out.cell 2 rfl
  have y3 := B2.out.cell 3 rfl
  go_region_held3 (fun w' => w'.cell? ⟨w.heap.size, 0, none⟩ = some (.int .i64 ok) ∧ w'.cell? ⟨w.heap.size, 1, none⟩ = some (.int .i64 oa) ∧ w'.cell? ⟨w.heap.size, 2, none⟩ = some (.int .i64 ob) ∧ w'.cell? ⟨w.heap.size, 3, none⟩ = some (.int .i64 oc))
    (first | exact ⟨y0, y1, y2, y3⟩ | exact ⟨HB3.out.cell 0 rfl, HB3.out.cell 1 rfl, HB3.out.cell 2 rfl, HB3.out.cell 3 rfl⟩ | exact ⟨HB4.out.cell 0 rfl, HB4.out.cell 1 rfl, HB4.out.cell 2 rfl, HB4.out.cell 3 rfl⟩ | fail "SFAIL")
    (first
      | (go_at_call 143
         refine (mDeeds_any _).mono ?_
         rintro e w3 ⟨bm, rfl, hk3, hlook⟩
         have hl := hlook w3 (Keep.refl _ _) ok f hf
         have hcf := HCF.out
         have HB3 := Lib.hid (((Keep.refl none_ w2).drew.trans hk3).blk B2.out (fun f => f))
         have HK3 := Lib.hid (K2.out.trans ((Keep.refl none_ w2).drew.trans hk3))
         clear hlook hk3)
      | (refine (HD.out _ HK3.out HB3.out).mono ?_
         rintro e w4 ⟨nv', rfl, hfm, hb4, hp⟩
         have HB4 := Lib.hid hb4
         have HP := Lib.hid hp
         have HFm := Lib.hid hfm
         clear hb4 hp hfm)
      | fail "CFAIL")
  clear y0 y1 y2 y3 hcf hl HD HCF HB3 HB4 HK3
  rcases HFm.out with rfl | ⟨fn, caps, rfl⟩
  all_goals
    go_wp2_with fail
    go_ret
    exact HP.out
end
end Go.Proofs.YtjdnkhljgnjkcaaGreatDoor

/- A mutator's step: the start of an operation. -/
namespace Go.Proofs.YtjdnkhljgnjkcaaGreatDoor
open Go.RowKit
attribute [local go_sem] Oper.semAt_some

section
variable {o : Ow} {w w' : World} {G : Geo} {g : MG} {s : Sh} {m : MS} {nv : Value}
set_option maxRecDepth 4000 in
set_option maxHeartbeats 4000000 in
theorem mStart_err (h : MAt o w G g s m none nv) (op : OpR) (he : chk m.c op ≠ 0) (hres : m.res.length ≤ 1000000) : Calls Tryz.prog 96 #[.pointer (some ⟨g.M, 0, none⟩), .agg op.cells.toArray] w (StepPost o w G g nv m.id (didR s m (chk m.c op) 0)) := by
  obtain ⟨W1, hW1⟩ : ∃ W1, W1 = w.alloc (.cells op.cells.toArray 61) := ⟨_, rfl⟩
  have k1 : Keep none_ w W1 := by rw [hW1]; exact (Keep.refl _ _).alloc _
  have hb1 : Blk W1 w.heap.size op.cells 61 := by rw [hW1]; exact Blk.new w _ _
  have h1 := h.still k1
  have kd : Keep none_ W1 W1.drew := (Keep.refl none_ W1).drew
  have HC : Hid (Calls Tryz.prog 141 #[.agg m.c.cells.toArray, .agg op.cells.toArray] W1.drew fun e w' => e = .returned (.int .i64 (chk m.c op)) ∧ Hid (Calls Tryz.prog 142 #[.pointer (some ⟨g.M, 0, none⟩), .int .i64 (chk m.c op), .int .i64 0] w' (fun e w' => e = .returned .nilFunc ∧ StepPost o w G g nv m.id (didR s m (chk m.c op) 0) e w'))) := by
    refine (check_any m.c op W1.drew ((h.sh.heap.tabs.keep k1).keep kd)).mono ?_
    rintro e w' ⟨rfl, k2⟩
    have k3 := k1.trans (kd.trans k2)
    refine ⟨rfl, ?_⟩
    refine (mDid_post (h.still k3) (chk m.c op) 0 hres).mono ?_
    rintro e w' ⟨rfl, hp⟩
    exact ⟨rfl, hp.after k3.noneO⟩
  have d0 : (chk m.c op == 0) = false := by simpa using he
  generalize didR s m (chk m.c op) 0 = R at *
  generalize chk m.c op = x at *
  rcases hcc : m.c with ⟨c0, c1, c2, c3, c4, c5, c6⟩
  rw [hcc] at HC
  obtain ⟨m1, m2, m3, m4, m5, m6, m7⟩ := h1.confs c0 c1 c2 c3 c4 c5 c6 hcc
  obtain ⟨ok, oa, ob, oc⟩ := op
  simp only [OpR.cells, Conf.cells] at *
  have y0 := hb1.cell 0 rfl
  have y1 := hb1.cell 1 rfl
  have y2 := hb1.cell 2 rfl
  have y3 := hb1.cell 3 rfl
  have HW1 := Lib.hid hW1
  generalize m.id = mi at *
  clear h h1 hW1 he kd k1 hb1 hres
  go_enter Tryz.func96, Tryz.ntmps96
  go_wp2_with fail
  rw [← HW1.out]
  refine wp_region_still_mid 5 rfl (by kernel_rfl) (by kernel_rfl) (fun K hK => ?_)
  change wpStill _ _ (World.drew _) _ _ _
  simp only [List.take_succ_cons, List.take_zero, List.drop_succ_cons, List.drop_zero] at hK ⊢
  repeat still_step
  refine wpStill_nil ?_
  change ite _ (Oper.wp _ _ _ _ _ _) _
  go_simp
  refine HC.out.mono ?_
  rintro e w2 ⟨rfl, hp⟩
  refine hK _ _ ?_
  clear hK K
  clear HC y0 y1 y2 y3 m1 m2 m3 m4 m5 m6 m7
  repeat still_step
  refine wpStill_nil ?_
  go_wp2_with fail
  refine hp.out.mono ?_
  rintro e w3 ⟨rfl, hp2⟩
  have HP := Lib.hid hp2
  clear hp2 hp
  go_wp2_with fail
  go_ret
  exact HP.out
theorem mStart_post (h : MAt o w G g s m none nv) (op : OpR) (hres : m.res.length ≤ 1000000) : Calls Tryz.prog 96 #[.pointer (some ⟨g.M, 0, none⟩), .agg op.cells.toArray] w (StepPost o w G g nv m.id (startR s m op)) := by
  have hrl := h.rlen
  by_cases he : chk m.c op = 0
  case neg =>
    have e1 : startR s m op = didR s m (chk m.c op) 0 := by unfold startR; rw [if_pos he]
    rw [e1]
    exact mStart_err h op he hres
  have e0 : ∀ r, startR s m op = r ↔ (if op.k = 1 then (⟨s, m, .alloc op (ofK op.b), none⟩ : StepR)
      else if op.k = 2 then fieldR s m (m.reg op.b) op.c (.load op (m.reg op.b))
      else if op.k = 3 then fieldR s m (m.reg op.a) op.b (m.layD (m.reg op.c) (.field (m.reg op.a) op.b (m.reg op.c)))
      else if op.k = 4 then ⟨s, m, .get op, none⟩
      else if op.k = 5 then ⟨s, m, m.layD (m.reg op.b) (.cell op.a (m.reg op.b)), none⟩
      else if op.k = 6 then didR s { m with regs := m.regs.set op.a.toNat 0 } 0 0
      else if op.k = 7 then gotR s m op.a (m.reg op.b)
      else didR s m 0 0) = r := fun r => by unfold startR; rw [if_neg (by simpa using he)]
  rcases chk_cases he with ⟨hk, ha, hb⟩ | ⟨hk, ha, hb⟩ | ⟨hk, ha, hb⟩ | ⟨hk, ha, hb⟩ | ⟨hk, ha, hb⟩ | ⟨hk, ha⟩ | ⟨hk, ha, hb⟩ | hk
  · rw [(e0 _).2 (by rw [if_pos hk])]
    exact mStart_go h op he 177 (by rw [hk]; rfl) (fun args w => by simp [callFunc, Tryz.func177, go_sem]; rfl) _ (fun W k => by
      have h9 := mAlloc_post (h.still k) op hb.1 (by omega)
      exact h9)
  · rw [(e0 _).2 (by rw [if_neg (by omega), if_pos hk])]
    exact mStart_go h op he 178 (by rw [hk]; rfl) (fun args w => by simp [callFunc, Tryz.func178, go_sem]; rfl) _ (fun W k => by
      have h9 := mLoad_post (h.still k) op hb.1 (by omega) hres
      exact h9)
  · rw [(e0 _).2 (by rw [if_neg (by omega), if_neg (by omega), if_pos hk])]
    exact mStart_go h op he 179 (by rw [hk]; rfl) (fun args w => by simp [callFunc, Tryz.func179, go_sem]; rfl) _ (fun W k => by
      have h9 := mStore_post (h.still k) op ha.1 (by omega) hb.1 (by omega) hres
      exact h9)
  · rw [(e0 _).2 (by rw [if_neg (by omega), if_neg (by omega), if_neg (by omega), if_pos hk])]
    exact mStart_go h op he 180 (by rw [hk]; rfl) (fun args w => by simp [callFunc, Tryz.func180, go_sem]; rfl) _ (fun W k => by
      have h9 := mGet_post (h.still k) op
      exact h9)
  · rw [(e0 _).2 (by rw [if_neg (by omega), if_neg (by omega), if_neg (by omega), if_neg (by omega), if_pos hk])]
    exact mStart_go h op he 181 (by rw [hk]; rfl) (fun args w => by simp [callFunc, Tryz.func181, go_sem]; rfl) _ (fun W k => by
      have h9 := mSet_post (h.still k) op hb.1 (by omega)
      exact h9)
  · rw [(e0 _).2 (by rw [if_neg (by omega), if_neg (by omega), if_neg (by omega), if_neg (by omega), if_neg (by omega), if_pos hk])]
    exact mStart_go h op he 182 (by rw [hk]; rfl) (fun args w => by simp [callFunc, Tryz.func182, go_sem]; rfl) _ (fun W k => by
      have h9 := mDrop_post (h.still k) op ha.1 (by omega) hres
      refine h9.mono (fun e w' hp => ?_)
      obtain ⟨rfl, hp⟩ := hp
      exact hp)
  · rw [(e0 _).2 (by rw [if_neg (by omega), if_neg (by omega), if_neg (by omega), if_neg (by omega), if_neg (by omega), if_neg (by omega), if_pos hk])]
    exact mStart_go h op he 183 (by rw [hk]; rfl) (fun args w => by simp [callFunc, Tryz.func183, go_sem]; rfl) _ (fun W k => by
      have h9 := mMove_post (h.still k) op ha.1 (by omega) hb.1 (by omega) hres
      refine h9.mono (fun e w' hp => ?_)
      obtain ⟨rfl, hp⟩ := hp
      exact hp)
  · rw [(e0 _).2 (by rw [if_neg (by omega), if_neg (by omega), if_neg (by omega), if_neg (by omega), if_neg (by omega), if_neg (by omega), if_neg (by omega)])]
    exact mStart_go h op he 184 (by rw [hk]; rfl) (fun args w => by simp [callFunc, Tryz.func184, go_sem]; rfl) _ (fun W k => by
      have h9 := mSafe_post (h.still k) op hres
      refine h9.mono (fun e w' hp => ?_)
      obtain ⟨rfl, hp⟩ := hp
      exact hp)
set_option maxRecDepth 4000 in
set_option maxHeartbeats 4000000 in
theorem stStart_any (h : MAt o w G g s m none nv) (op : OpR) (v : Value) (hv : MClo o w g.Nt g.M (.start op) v) (hres : m.res.length ≤ 1000000) : ∃ bs : List Nat, v = .func (.func 95) #[] (bs.map ptrV).toArray ∧ Calls Tryz.prog 95 (bs.map ptrV).toArray w (StepPost o w G g nv m.id (stepM s m (.start op))) := by
  obtain ⟨bs, hbs, hcap⟩ := hv
  refine ⟨bs, hbs, ?_⟩
  obtain ⟨b0, b1, rfl, ⟨o0, k0⟩, ⟨o1, k1⟩⟩ := caps2 hcap
  have HC : Hid (Calls Tryz.prog 96 #[.pointer (some ⟨g.M, 0, none⟩), .agg op.cells.toArray] w fun e w' => ∃ nv', e = .returned nv' ∧ (nv' = .nilFunc ∨ ∃ (fn : Nat) (caps : Array Value), nv' = .func (.func fn) #[] caps) ∧ StepPost o w G g nv m.id (stepM s m (.start op)) (.returned nv') w') := by
    refine (mStart_post h op hres).mono ?_
    intro e w' hp
    obtain ⟨o', nv', rfl, e2, h1, hn, kk⟩ := id hp
    exact ⟨nv', rfl, hn.form, hp⟩
  obtain ⟨ok, oa, ob, oc⟩ := op
  have c0 : w.cell? ⟨b0, 0, none⟩ = some (.pointer (some ⟨g.M, 0, none⟩)) := k0.cell 0 rfl
  have p0 := k1.cell 0 rfl; have p1 := k1.cell 1 rfl; have p2 := k1.cell 2 rfl; have p3 := k1.cell 3 rfl
  show Calls Tryz.prog 95 #[.pointer (some ⟨b0, 0, none⟩), .pointer (some ⟨b1, 0, none⟩)] w _
  simp only [OpR.cells] at HC
  generalize stepM s m (.start ⟨ok, oa, ob, oc⟩) = R at *
  generalize m.id = mi at *
  clear h hcap hbs k0 k1 o0 o1
  go_enter Tryz.func95, Tryz.ntmps95
  go_wp2_with fail
  refine HC.out.mono ?_
  rintro e w2 ⟨nv', rfl, hf, hp⟩
  have HP := Lib.hid hp
  clear hp c0 p0 p1 p2 p3
  rcases hf with rfl | ⟨fn, caps, rfl⟩
  all_goals
    go_wp2_with fail
    go_ret
    exact HP.out
end
end Go.Proofs.YtjdnkhljgnjkcaaGreatDoor
