/- Parts of a walk, put together by a small program of mine from texts of their own: MutS4 MutS5. -/
import Derived.Test.YtjdnkhljgnjkcaaGreatDoorZzr
/- A mutator's steps: fill, zero, alloc, assign, carve. -/
namespace Go.Proofs.YtjdnkhljgnjkcaaGreatDoor
open Go.RowKit
attribute [local go_sem] Oper.semAt_some

section
variable {o : Ow} {w w' : World} {G : Geo} {g : MG} {s : Sh} {m : MS} {nv : Value}
/-- Closures made of new boxes. -/
theorem hmkf : ∀ (fn : Fn) (first cap : Array Value) (w : World), (Instr.makeFunc fn first cap).run Tryz.prog w = .ok (.func fn first cap) w := fun _ _ _ _ => rfl
set_option maxRecDepth 4000 in
set_option maxHeartbeats 1000000 in
theorem mFill_new (hf : Fut o w) (Nt M : Nat) (op : OpR) (a : Nat) : Calls Tryz.prog 206 #[.pointer (some ⟨M, 0, none⟩), .agg op.cells.toArray, .int .i64 (a : Int)] w fun e w' => ∃ fv, e = .returned fv ∧ MClo o w' Nt M (.fill op a) fv ∧ Keep none_ w w' := by
  obtain ⟨ok, oa, ob, oc⟩ := op
  have hc := caps_new (o := o) [([ptrV M], 30), ([.int .i64 ok, .int .i64 oa, .int .i64 ob, .int .i64 oc], 61), ([.int .i64 (a : Int)], 3)] w hf
  have HE : Hid (MClo o (allocL w [([ptrV M], 30), ([.int .i64 ok, .int .i64 oa, .int .i64 ob, .int .i64 oc], 61), ([.int .i64 (a : Int)], 3)]) Nt M (.fill ⟨ok, oa, ob, oc⟩ a) (.func (.func 218) #[] #[ptrV w.heap.size, ptrV (w.heap.size + 1 + 1), ptrV (w.heap.size + 1)]) ∧ Keep none_ w (allocL w [([ptrV M], 30), ([.int .i64 ok, .int .i64 oa, .int .i64 ob, .int .i64 oc], 61), ([.int .i64 (a : Int)], 3)])) := by
    obtain ⟨b0, b1, b2, e, ⟨o0, k0⟩, ⟨o1, k1⟩, ⟨o2, k2⟩⟩ := caps3 hc.1
    simp only [idxs, List.cons.injEq] at e
    obtain ⟨rfl, rfl, rfl, _⟩ := e
    exact ⟨⟨[w.heap.size, w.heap.size + 1 + 1, w.heap.size + 1], rfl, ⟨_, _, rfl, o0, k0, _, _, rfl, o2, k2, _, _, rfl, o1, k1, rfl⟩⟩, hc.2⟩
  have hmf := hmkf
  clear hc hf
  simp only [OpR.cells]
  go_enter Tryz.func206, Tryz.ntmps206
  go_wp2_with fail
  go_ret
  exact ⟨_, rfl, HE.out.1, HE.out.2⟩
set_option maxRecDepth 4000 in
set_option maxHeartbeats 1000000 in
theorem mZero_new (hf : Fut o w) (Nt M : Nat) (op : OpR) (a i : Nat) : Calls Tryz.prog 219 #[.pointer (some ⟨M, 0, none⟩), .agg op.cells.toArray, .int .i64 (a : Int), .int .i64 (i : Int)] w fun e w' => ∃ fv, e = .returned fv ∧ MClo o w' Nt M (.zero op a i) fv ∧ Keep none_ w w' := by
  obtain ⟨ok, oa, ob, oc⟩ := op
  have hc := caps_new (o := o) [([ptrV M], 30), ([.int .i64 ok, .int .i64 oa, .int .i64 ob, .int .i64 oc], 61), ([.int .i64 (a : Int)], 3), ([.int .i64 (i : Int)], 3)] w hf
  have HE : Hid (MClo o (allocL w [([ptrV M], 30), ([.int .i64 ok, .int .i64 oa, .int .i64 ob, .int .i64 oc], 61), ([.int .i64 (a : Int)], 3), ([.int .i64 (i : Int)], 3)]) Nt M (.zero ⟨ok, oa, ob, oc⟩ a i) (.func (.func 226) #[] #[ptrV (w.heap.size + 1 + 1 + 1), ptrV (w.heap.size + 1), ptrV w.heap.size, ptrV (w.heap.size + 1 + 1)]) ∧ Keep none_ w (allocL w [([ptrV M], 30), ([.int .i64 ok, .int .i64 oa, .int .i64 ob, .int .i64 oc], 61), ([.int .i64 (a : Int)], 3), ([.int .i64 (i : Int)], 3)])) := by
    obtain ⟨b0, b1, b2, b3, e, ⟨o0, k0⟩, ⟨o1, k1⟩, ⟨o2, k2⟩, ⟨o3, k3⟩⟩ := caps4 hc.1
    simp only [idxs, List.cons.injEq] at e
    obtain ⟨rfl, rfl, rfl, rfl, _⟩ := e
    exact ⟨⟨[w.heap.size + 1 + 1 + 1, w.heap.size + 1, w.heap.size, w.heap.size + 1 + 1], rfl, ⟨_, _, rfl, o3, k3, _, _, rfl, o1, k1, _, _, rfl, o0, k0, _, _, rfl, o2, k2, rfl⟩⟩, hc.2⟩
  have hmf := hmkf
  clear hc hf
  simp only [OpR.cells]
  go_enter Tryz.func219, Tryz.ntmps219
  go_wp2_with fail
  go_ret
  exact ⟨_, rfl, HE.out.1, HE.out.2⟩
/-- A step that made a closure last. -/
theorem StepPost.made {r : StepR} {W : World} {i : Nat} (h : MAt o W G g r.s r.m r.ev nv) (k : Keep (In o (stepI i)) w W) {f : Nat} {args : Array Value} (hc : Calls Tryz.prog f args W fun e w' => ∃ fv, e = .returned fv ∧ MClo o w' g.Nt g.M r.next fv ∧ Keep none_ W w') (hev : r.ev = none) : Calls Tryz.prog f args W fun e w' => ∃ fn caps, e = .returned (.func (.func fn) #[] caps) ∧ StepPost o w G g nv i r (.returned (.func (.func fn) #[] caps)) w' ∨ e = .returned .nilFunc ∧ StepPost o w G g nv i r (.returned .nilFunc) w' := by
  refine hc.mono ?_
  rintro e w' ⟨fv, rfl, h1, h2⟩
  rw [hev] at h
  have hp : StepPost o w G g nv i r (.returned fv) w' := ⟨o, fv, rfl, OExt.refl _ _, by rw [hev]; exact h.still h2, NClo.of (g := (g.Nt, g.M)) h1, k.trans h2.noneO⟩
  rcases h1.form with rfl | ⟨fn, caps, rfl⟩
  · exact ⟨0, #[], .inr ⟨rfl, hp⟩⟩
  · exact ⟨fn, caps, .inl ⟨rfl, hp⟩⟩
theorem freeP_c (H : HS) (a : Nat) : (H.putP a).c = H.c := by
  unfold HS.putP
  split
  · rfl
  · split <;> rfl
theorem beginP_c (H : HS) (a : Nat) (f : Int) : (H.beginP a f).c = H.c := by
  unfold HS.beginP
  split
  · rfl
  · split <;> rfl
theorem bearP_c (H : HS) (a c : Nat) : (H.bearP a c).c = H.c := by unfold HS.bearP; split <;> rfl
theorem storeP_c (H : HS) (a : Nat) (f : Int) (v : Nat) : (H.storeP a f v).c = H.c := by unfold HS.storeP; split <;> rfl
theorem setP_c (H : HS) (i : Int) (v : Nat) : (H.setP i v).c = H.c := by unfold HS.setP; split <;> rfl
theorem takeP_c (H : HS) (k : Nat) : (H.takeP k).2.2.c = H.c := by unfold HS.takeP; split <;> rfl
theorem assignP_c (H : HS) (k : Nat) : (H.assignP k).2.2.c = H.c := by unfold HS.assignP; split <;> rfl
set_option maxRecDepth 4000 in
set_option maxHeartbeats 4000000 in
theorem stFill_any (h : MAt o w G g s m none nv) (op : OpR) (a : Nat) (v : Value) (hv : MClo o w g.Nt g.M (.fill op a) v) (hb0 : 0 ≤ op.b) (hb1 : op.b ≤ 15) : ∃ bs : List Nat, v = .func (.func 218) #[] (bs.map ptrV).toArray ∧ Calls Tryz.prog 218 (bs.map ptrV).toArray w (StepPost o w G g nv m.id (stepM s m (.fill op a))) := by
  obtain ⟨bs, hbs, hcap⟩ := hv
  refine ⟨bs, hbs, ?_⟩
  obtain ⟨b0, b1, b2, rfl, ⟨o0, k0⟩, ⟨o1, k1⟩, ⟨o2, k2⟩⟩ := caps3 hcap
  obtain ⟨ok, oa, ob, oc⟩ := op
  simp only at hb0 hb1
  obtain ⟨f, rfl⟩ : ∃ f : Nat, ob = (f : Int) := ⟨ob.toNat, by omega⟩
  have c0 : w.cell? ⟨b0, 0, none⟩ = some (.pointer (some ⟨g.M, 0, none⟩)) := k0.cell 0 rfl
  have c1 := k1.cell 0 rfl
  have c2 : w.cell? ⟨b2, 2, none⟩ = some (.int .i64 (f : Int)) := k2.cell 2 rfl
  have m0 := h.m0
  have s0 := h.s0.1
  show Calls Tryz.prog 218 #[.pointer (some ⟨b0, 0, none⟩), .pointer (some ⟨b1, 0, none⟩), .pointer (some ⟨b2, 0, none⟩)] w _
  have hkd : Keep none_ w w.drew := (Keep.refl none_ w).drew
  have hd := h.still hkd
  have HF : Hid (Calls Tryz.prog 63 #[.pointer (some ⟨G.D 0, 0, none⟩), .int .i64 (a : Int), .int .i64 (f : Int)] w.drew fun e w' => (∃ er : Int, e = .returned (.int .i64 er)) ∧ MAt o w' G g { s with H := s.H.beginP a (f : Int) } m none nv ∧ Keep (In o (stepI m.id)) w w' ∧ Blk w' b0 [ptrV g.M] 30 ∧ Blk w' b1 [.int .i64 (a : Int)] 3 ∧ Blk w' b2 [.int .i64 ok, .int .i64 oa, .int .i64 (f : Int), .int .i64 oc] 61) := by
    refine (hBegin_any hd.sh.heap a f (by omega)).mono ?_
    rintro e w' ⟨⟨er, rfl⟩, g1, g2⟩
    obtain ⟨h1, kk⟩ := hd.setHeap g2 g1 (beginP_c _ _ _)
    have km : Keep (In o (stepI m.id)) w w' := hkd.noneO.trans kk
    exact ⟨⟨_, rfl⟩, h1, km, k0.keepO km o0 (stepI_0 _), k1.keepO km o1 (stepI_0 _), k2.keepO km o2 (stepI_0 _)⟩
  have HZ : Hid (∀ W, MAt o W G g { s with H := s.H.beginP a (f : Int) } m none nv → Keep (In o (stepI m.id)) w W → Calls Tryz.prog 219 #[.pointer (some ⟨g.M, 0, none⟩), .agg #[.int .i64 ok, .int .i64 oa, .int .i64 (f : Int), .int .i64 oc], .int .i64 (a : Int), .int .i64 0] W fun e w' => ∃ fn caps, e = .returned (.func (.func fn) #[] caps) ∧ StepPost o w G g nv m.id (stepM s m (.fill ⟨ok, oa, (f : Int), oc⟩ a)) (.returned (.func (.func fn) #[] caps)) w' ∨ e = .returned .nilFunc ∧ StepPost o w G g nv m.id (stepM s m (.fill ⟨ok, oa, (f : Int), oc⟩ a)) (.returned .nilFunc) w') := fun W hW hk =>
    StepPost.made (r := stepM s m (.fill ⟨ok, oa, (f : Int), oc⟩ a)) hW hk (mZero_new hW.sh.fut g.Nt g.M ⟨ok, oa, (f : Int), oc⟩ a 0) rfl
  generalize stepM s m (.fill ⟨ok, oa, (f : Int), oc⟩ a) = R at *
  generalize { s with H := s.H.beginP a (f : Int) } = s' at *
  generalize m.id = mi at *
  clear h hcap hbs hkd hd k0 k1 k2 o0 o1 o2 hb0 hb1
  go_enter Tryz.func218, Tryz.ntmps218
  go_wp2_with fail
  refine wp_region_still_mid 10 rfl (by kernel_rfl) (by kernel_rfl) (fun K hK => ?_)
  change wpStill _ _ (World.drew _) _ _ _
  simp only [List.take_succ_cons, List.take_zero, List.drop_succ_cons, List.drop_zero] at hK ⊢
  repeat still_step
  refine wpStill_nil ?_
  change ite _ (Oper.wp _ _ _ _ _ _) _
  go_simp
  refine HF.out.mono ?_
  rintro e w1 ⟨⟨er, rfl⟩, g1, g2, g3, g4, g5⟩
  refine hK _ _ ?_
  clear hK K
  have H1 := Lib.hid g1
  have K1 := Lib.hid g2
  clear g1 g2 c0 c1 c2 m0 s0
  repeat still_step
  refine wpStill_nil ?_
  have c0 : w1.cell? ⟨b0, 0, none⟩ = some (.pointer (some ⟨g.M, 0, none⟩)) := g3.cell 0 rfl
  have c1 := g4.cell 0 rfl
  have p0 := g5.cell 0 rfl; have p1 := g5.cell 1 rfl; have p2 := g5.cell 2 rfl; have p3 := g5.cell 3 rfl
  clear g3 g4 g5
  go_wp2_with fail
  refine (HZ.out _ H1.out K1.out).mono ?_
  rintro e w2 ⟨fn, caps, ⟨rfl, hp⟩ | ⟨rfl, hp⟩⟩
  all_goals
    have HP := Lib.hid hp
    clear hp c0 c1 p0 p1 p2 p3
    go_wp2_with fail
    go_ret
    exact HP.out
set_option maxRecDepth 4000 in
set_option maxHeartbeats 4000000 in
theorem stZero_any (h : MAt o w G g s m none nv) (op : OpR) (a i : Nat) (v : Value) (hv : MClo o w g.Nt g.M (.zero op a i) v) (h0 : 0 ≤ op.a) (hr : op.a < m.regs.length) (hi : i ≤ 1000) (hres : m.res.length ≤ 1000000) : ∃ bs : List Nat, v = .func (.func 226) #[] (bs.map ptrV).toArray ∧ Calls Tryz.prog 226 (bs.map ptrV).toArray w (StepPost o w G g nv m.id (stepM s m (.zero op a i))) := by
  obtain ⟨bs, hbs, hcap⟩ := hv
  refine ⟨bs, hbs, ?_⟩
  obtain ⟨b0, b1, b2, b3, rfl, ⟨o0, k0⟩, ⟨o1, k1⟩, ⟨o2, k2⟩, ⟨o3, k3⟩⟩ := caps4 hcap
  obtain ⟨ok, oa, ob, oc⟩ := op
  have c0 := k0.cell 0 rfl
  have c1 : w.cell? ⟨b1, 2, none⟩ = some (.int .i64 ob) := k1.cell 2 rfl
  have c2 : w.cell? ⟨b2, 0, none⟩ = some (.pointer (some ⟨g.M, 0, none⟩)) := k2.cell 0 rfl
  have c3 := k3.cell 0 rfl
  have m0 := h.m0
  have s0 := h.s0.1
  have m13 := h.cell 13 (.int .i64 (m.color : Int)) (fun _ _ => rfl)
  show Calls Tryz.prog 226 #[.pointer (some ⟨b0, 0, none⟩), .pointer (some ⟨b1, 0, none⟩), .pointer (some ⟨b2, 0, none⟩), .pointer (some ⟨b3, 0, none⟩)] w _
  have hkd : Keep none_ w w.drew := (Keep.refl none_ w).drew
  have hd := h.still hkd
  by_cases hib : (i : Int) = ob
  · have e1 : stepM s m (.zero ⟨ok, oa, ob, oc⟩ a i) = gotR { s with H := s.H.bearP a m.color } m oa a := by simp only [stepM]; rw [if_pos hib]
    rw [e1]
    have HF : Hid (Calls Tryz.prog 65 #[.pointer (some ⟨G.D 0, 0, none⟩), .int .i64 (a : Int), .int .i64 (m.color : Int)] w.drew fun e w' => (∃ er : Int, e = .returned (.int .i64 er)) ∧ MAt o w' G g { s with H := s.H.bearP a m.color } m none nv ∧ Keep (In o (stepI m.id)) w w' ∧ Blk w' b1 [.int .i64 ok, .int .i64 oa, .int .i64 ob, .int .i64 oc] 61 ∧ Blk w' b2 [ptrV g.M] 30 ∧ Blk w' b3 [.int .i64 (a : Int)] 3) := by
      refine (hBear_any hd.sh.heap a m.color).mono ?_
      rintro e w' ⟨rfl, g1, g2⟩
      obtain ⟨h1, kk⟩ := hd.setHeap g2 g1 (bearP_c _ _ _)
      have km : Keep (In o (stepI m.id)) w w' := hkd.noneO.trans kk
      exact ⟨⟨_, rfl⟩, h1, km, k1.keepO km o1 (stepI_0 _), k2.keepO km o2 (stepI_0 _), k3.keepO km o3 (stepI_0 _)⟩
    have HD : Hid (∀ W, MAt o W G g { s with H := s.H.bearP a m.color } m none nv → Keep (In o (stepI m.id)) w W → Calls Tryz.prog 211 #[.pointer (some ⟨g.M, 0, none⟩), .int .i64 oa, .int .i64 (a : Int)] W (fun e w' => e = .returned .nilFunc ∧ StepPost o w G g nv m.id (gotR { s with H := s.H.bearP a m.color } m oa a) e w')) := fun W hW hk => by
      refine (mGot_post hW oa a h0 hr hres).mono ?_
      rintro e w' ⟨rfl, hp⟩
      exact ⟨rfl, hp.after hk⟩
    have d0 : ((i : Int) == ob) = true := by simpa using hib
    generalize gotR { s with H := s.H.bearP a m.color } m oa a = R at *
    generalize { s with H := s.H.bearP a m.color } = s' at *
    generalize m.id = mi at *
    generalize m.color = mc at *
    clear h hcap hbs hkd hd k0 k1 k2 k3 o0 o1 o2 o3 hib h0 hr hres e1 hi
    go_enter Tryz.func226, Tryz.ntmps226
    go_wp2_with fail
    refine wp_region_still_mid 12 rfl (by kernel_rfl) (by kernel_rfl) (fun K hK => ?_)
    change wpStill _ _ (World.drew _) _ _ _
    simp only [List.take_succ_cons, List.take_zero, List.drop_succ_cons, List.drop_zero] at hK ⊢
    repeat still_step
    refine wpStill_nil ?_
    change ite _ (Oper.wp _ _ _ _ _ _) _
    go_simp
    refine HF.out.mono ?_
    rintro e w1 ⟨⟨er, rfl⟩, g1, g2, g3, g4, g5⟩
    refine hK _ _ ?_
    clear hK K
    have H1 := Lib.hid g1
    have K1 := Lib.hid g2
    clear g1 g2 c0 c1 c2 c3 m0 s0 m13
    repeat still_step
    refine wpStill_nil ?_
    have c1 := g3.cell 1 rfl
    have c2 : w1.cell? ⟨b2, 0, none⟩ = some (.pointer (some ⟨g.M, 0, none⟩)) := g4.cell 0 rfl
    have c3 := g5.cell 0 rfl
    clear g3 g4 g5
    go_wp2_with fail
    refine (HD.out _ H1.out K1.out).mono ?_
    rintro e w2 ⟨rfl, hp⟩
    have HP := Lib.hid hp
    clear hp
    go_wp2_with fail
    go_ret
    exact HP.out
  · have e1 : stepM s m (.zero ⟨ok, oa, ob, oc⟩ a i) = ⟨{ s with H := s.H.storeP a i 0 }, m, .zero ⟨ok, oa, ob, oc⟩ a (i + 1), none⟩ := by simp only [stepM]; rw [if_neg hib]
    have HF : Hid (Calls Tryz.prog 64 #[.pointer (some ⟨G.D 0, 0, none⟩), .int .i64 (a : Int), .int .i64 (i : Int), .int .i64 0] w.drew fun e w' => (∃ er : Int, e = .returned (.int .i64 er)) ∧ MAt o w' G g { s with H := s.H.storeP a i 0 } m none nv ∧ Keep (In o (stepI m.id)) w w' ∧ Blk w' b0 [.int .i64 (i : Int)] 3 ∧ Blk w' b1 [.int .i64 ok, .int .i64 oa, .int .i64 ob, .int .i64 oc] 61 ∧ Blk w' b2 [ptrV g.M] 30 ∧ Blk w' b3 [.int .i64 (a : Int)] 3) := by
      refine (hStore_any hd.sh.heap a (i : Int) 0).mono ?_
      rintro e w' ⟨rfl, g1, g2⟩
      obtain ⟨h1, kk⟩ := hd.setHeap g2 g1 (storeP_c _ _ _ _)
      have km : Keep (In o (stepI m.id)) w w' := hkd.noneO.trans kk
      exact ⟨⟨_, rfl⟩, h1, km, k0.keepO km o0 (stepI_0 _), k1.keepO km o1 (stepI_0 _), k2.keepO km o2 (stepI_0 _), k3.keepO km o3 (stepI_0 _)⟩
    have HZ : Hid (∀ W, MAt o W G g { s with H := s.H.storeP a i 0 } m none nv → Keep (In o (stepI m.id)) w W → Calls Tryz.prog 219 #[.pointer (some ⟨g.M, 0, none⟩), .agg #[.int .i64 ok, .int .i64 oa, .int .i64 ob, .int .i64 oc], .int .i64 (a : Int), .int .i64 ((i : Int) + 1)] W fun e w' => ∃ fn caps, e = .returned (.func (.func fn) #[] caps) ∧ StepPost o w G g nv m.id (stepM s m (.zero ⟨ok, oa, ob, oc⟩ a i)) (.returned (.func (.func fn) #[] caps)) w' ∨ e = .returned .nilFunc ∧ StepPost o w G g nv m.id (stepM s m (.zero ⟨ok, oa, ob, oc⟩ a i)) (.returned .nilFunc) w') := fun W hW hk => by
      have hz := mZero_new hW.sh.fut g.Nt g.M ⟨ok, oa, ob, oc⟩ a (i + 1)
      rw [show (((i + 1 : Nat) : Nat) : Int) = (i : Int) + 1 by omega] at hz
      rw [e1]
      exact StepPost.made (r := ⟨{ s with H := s.H.storeP a i 0 }, m, .zero ⟨ok, oa, ob, oc⟩ a (i + 1), none⟩) hW hk hz rfl
    have d0 : ((i : Int) == ob) = false := by simpa using hib
    have hiI : (i : Int) ≤ 1000 := by omega
    generalize stepM s m (.zero ⟨ok, oa, ob, oc⟩ a i) = R at *
    generalize { s with H := s.H.storeP a i 0 } = s' at *
    generalize m.id = mi at *
    clear h hcap hbs hkd hd k0 k1 k2 k3 o0 o1 o2 o3 hib h0 hr hres e1
    go_enter Tryz.func226, Tryz.ntmps226
    go_wp2_with fail
    refine wp_region_still_mid 9 rfl (by kernel_rfl) (by kernel_rfl) (fun K hK => ?_)
    change wpStill _ _ (World.drew _) _ _ _
    simp only [List.take_succ_cons, List.take_zero, List.drop_succ_cons, List.drop_zero] at hK ⊢
    repeat still_step
    refine wpStill_nil ?_
    change ite _ (Oper.wp _ _ _ _ _ _) _
    go_simp
    refine HF.out.mono ?_
    rintro e w1 ⟨⟨er, rfl⟩, g1, g2, g6, g3, g4, g5⟩
    refine hK _ _ ?_
    clear hK K
    have H1 := Lib.hid g1
    have K1 := Lib.hid g2
    clear g1 g2 c0 c1 c2 c3 m0 s0 m13
    repeat still_step
    refine wpStill_nil ?_
    have c0 := g6.cell 0 rfl
    have p0 := g3.cell 0 rfl; have p1 := g3.cell 1 rfl; have p2 := g3.cell 2 rfl; have p3 := g3.cell 3 rfl
    have c2 : w1.cell? ⟨b2, 0, none⟩ = some (.pointer (some ⟨g.M, 0, none⟩)) := g4.cell 0 rfl
    have c3 := g5.cell 0 rfl
    clear g3 g4 g5 g6
    go_wp2_with fail
    refine (HZ.out _ H1.out K1.out).mono ?_
    rintro e w2 ⟨fn, caps, ⟨rfl, hp⟩ | ⟨rfl, hp⟩⟩
    all_goals
      have HP := Lib.hid hp
      clear hp c0 c2 c3 p0 p1 p2 p3
      go_wp2_with fail
      go_ret
      exact HP.out
end
end Go.Proofs.YtjdnkhljgnjkcaaGreatDoor

/- A mutator's steps: alloc, assign, carve. -/
namespace Go.Proofs.YtjdnkhljgnjkcaaGreatDoor
open Go.RowKit
attribute [local go_sem] Oper.semAt_some

theorem takeP_two (H : HS) (k : Nat) : ((H.takeP k).2.1 = 0) ∨ ((H.takeP k).2.1 = 12 ∧ (H.takeP k).2.2 = H) := by
  unfold HS.takeP
  split
  · exact .inr ⟨rfl, rfl⟩
  · exact .inl rfl
theorem assignP_two (H : HS) (k : Nat) : ((H.assignP k).2.1 = 0) ∨ ((H.assignP k).2.1 = 10 ∧ (H.assignP k).2.2 = H) := by
  unfold HS.assignP
  split
  · exact .inr ⟨rfl, rfl⟩
  · exact .inl rfl
section
variable {o : Ow} {w w' : World} {G : Geo} {g : MG} {s : Sh} {m : MS} {nv : Value}
set_option maxRecDepth 4000 in
set_option maxHeartbeats 4000000 in
theorem stAlloc_any (h : MAt o w G g s m none nv) (op : OpR) (k : Nat) (v : Value) (hv : MClo o w g.Nt g.M (.alloc op k) v) (hk4 : k < 4) : ∃ bs : List Nat, v = .func (.func 205) #[] (bs.map ptrV).toArray ∧ Calls Tryz.prog 205 (bs.map ptrV).toArray w (StepPost o w G g nv m.id (stepM s m (.alloc op k))) := by
  obtain ⟨bs, hbs, hcap⟩ := hv
  refine ⟨bs, hbs, ?_⟩
  obtain ⟨b0, b1, b2, rfl, ⟨o0, k0⟩, ⟨o1, k1⟩, ⟨o2, k2⟩⟩ := caps3 hcap
  obtain ⟨ok, oa, ob, oc⟩ := op
  have c0 : w.cell? ⟨b0, 0, none⟩ = some (.pointer (some ⟨g.M, 0, none⟩)) := k0.cell 0 rfl
  have c1 := k1.cell 0 rfl
  have m0 := h.m0
  have s0 := h.s0.1
  show Calls Tryz.prog 205 #[.pointer (some ⟨b0, 0, none⟩), .pointer (some ⟨b1, 0, none⟩), .pointer (some ⟨b2, 0, none⟩)] w _
  have hkd : Keep none_ w w.drew := (Keep.refl none_ w).drew
  have hd := h.still hkd
  have hmf := hmkf
  have HF : Hid (Calls Tryz.prog 102 #[.pointer (some ⟨G.D 0, 0, none⟩), .int .i64 (k : Int)] w.drew fun e w' => e = .returned (.tuple #[.int .i64 ((s.H.takeP k).1 : Int), .int .i64 ((s.H.takeP k).2.1 : Int)]) ∧ MAt o w' G g { s with H := (s.H.takeP k).2.2 } m none nv ∧ Keep (In o (stepI m.id)) w w' ∧ Blk w' b0 [ptrV g.M] 30 ∧ Blk w' b1 [.int .i64 (k : Int)] 3 ∧ Blk w' b2 [.int .i64 ok, .int .i64 oa, .int .i64 ob, .int .i64 oc] 61) := by
    refine (hTake_any hd.sh.heap k hk4).mono ?_
    rintro e w' ⟨rfl, g1, g2⟩
    obtain ⟨h1, kk⟩ := hd.setHeap g2 g1 (takeP_c _ _)
    have km : Keep (In o (stepI m.id)) w w' := hkd.noneO.trans kk
    exact ⟨rfl, h1, km, k0.keepO km o0 (stepI_0 _), k1.keepO km o1 (stepI_0 _), k2.keepO km o2 (stepI_0 _)⟩
  rcases takeP_two s.H k with hz | ⟨hz, hsame⟩
  · have e1 : stepM s m (.alloc ⟨ok, oa, ob, oc⟩ k) = ⟨{ s with H := (s.H.takeP k).2.2 }, m, .fill ⟨ok, oa, ob, oc⟩ (s.H.takeP k).1, none⟩ := by simp only [stepM]; rw [if_pos hz]
    rw [hz] at HF
    have HZ : Hid (∀ W, MAt o W G g { s with H := (s.H.takeP k).2.2 } m none nv → Keep (In o (stepI m.id)) w W → Calls Tryz.prog 206 #[.pointer (some ⟨g.M, 0, none⟩), .agg #[.int .i64 ok, .int .i64 oa, .int .i64 ob, .int .i64 oc], .int .i64 ((s.H.takeP k).1 : Int)] W fun e w' => ∃ fn caps, e = .returned (.func (.func fn) #[] caps) ∧ StepPost o w G g nv m.id (stepM s m (.alloc ⟨ok, oa, ob, oc⟩ k)) (.returned (.func (.func fn) #[] caps)) w' ∨ e = .returned .nilFunc ∧ StepPost o w G g nv m.id (stepM s m (.alloc ⟨ok, oa, ob, oc⟩ k)) (.returned .nilFunc) w') := fun W hW hk => by
      rw [e1]
      exact StepPost.made (r := ⟨{ s with H := (s.H.takeP k).2.2 }, m, .fill ⟨ok, oa, ob, oc⟩ (s.H.takeP k).1, none⟩) hW hk (mFill_new hW.sh.fut g.Nt g.M ⟨ok, oa, ob, oc⟩ (s.H.takeP k).1) rfl
    clear e1
    generalize stepM s m (.alloc ⟨ok, oa, ob, oc⟩ k) = R at *
    generalize { s with H := (s.H.takeP k).2.2 } = s' at *
    generalize (s.H.takeP k).1 = x at *
    generalize m.id = mi at *
    clear h hcap hbs hkd hd k0 k1 k2 o0 o1 o2 hz
    go_enter Tryz.func205, Tryz.ntmps205
    go_wp2_with fail
    refine wp_region_still_mid 8 rfl (by kernel_rfl) (by kernel_rfl) (fun K hK => ?_)
    change wpStill _ _ (World.drew _) _ _ _
    simp only [List.take_succ_cons, List.take_zero, List.drop_succ_cons, List.drop_zero] at hK ⊢
    repeat still_step
    refine wpStill_nil ?_
    change ite _ (Oper.wp _ _ _ _ _ _) _
    go_simp
    refine HF.out.mono ?_
    rintro e w1 ⟨rfl, g1, g2, g3, g4, g5⟩
    refine hK _ _ ?_
    clear hK K
    have H1 := Lib.hid g1
    have K1 := Lib.hid g2
    clear g1 g2 c0 c1 m0 s0
    repeat still_step
    refine wpStill_nil ?_
    have c0 : w1.cell? ⟨b0, 0, none⟩ = some (.pointer (some ⟨g.M, 0, none⟩)) := g3.cell 0 rfl
    have p0 := g5.cell 0 rfl; have p1 := g5.cell 1 rfl; have p2 := g5.cell 2 rfl; have p3 := g5.cell 3 rfl
    clear g3 g4 g5
    go_wp2_with fail
    refine (HZ.out _ H1.out K1.out).mono ?_
    rintro e w2 ⟨fn, caps, ⟨rfl, hp⟩ | ⟨rfl, hp⟩⟩
    all_goals
      have HP := Lib.hid hp
      clear hp c0 p0 p1 p2 p3
      go_wp2_with fail
      go_ret
      exact HP.out
  · have e1 : stepM s m (.alloc ⟨ok, oa, ob, oc⟩ k) = ⟨s, m, .assign ⟨ok, oa, ob, oc⟩ k, none⟩ := by simp only [stepM]; rw [if_neg (by omega)]
    rw [hz, hsame] at HF
    have HE : Hid (∀ W, MAt o W G g s m none nv → Keep (In o (stepI m.id)) w W → StepPost o w G g nv m.id (stepM s m (.alloc ⟨ok, oa, ob, oc⟩ k)) (.returned (.func (.func 207) #[] #[.pointer (some ⟨b0, 0, none⟩), .pointer (some ⟨b2, 0, none⟩), .pointer (some ⟨b1, 0, none⟩)])) W) := fun W hW hk => by
      rw [e1]
      refine StepPost.same hW ?_ hk
      exact ⟨[b0, b2, b1], rfl, _, _, rfl, o0, k0.keepO hk o0 (stepI_0 _), _, _, rfl, o2, k2.keepO hk o2 (stepI_0 _), _, _, rfl, o1, k1.keepO hk o1 (stepI_0 _), rfl⟩
    clear e1
    generalize stepM s m (.alloc ⟨ok, oa, ob, oc⟩ k) = R at *
    generalize (s.H.takeP k).1 = x at *
    generalize m.id = mi at *
    clear h hcap hbs hkd hd k0 k1 k2 o0 o1 o2 hz hsame
    go_enter Tryz.func205, Tryz.ntmps205
    go_wp2_with fail
    refine wp_region_still_mid 8 rfl (by kernel_rfl) (by kernel_rfl) (fun K hK => ?_)
    change wpStill _ _ (World.drew _) _ _ _
    simp only [List.take_succ_cons, List.take_zero, List.drop_succ_cons, List.drop_zero] at hK ⊢
    repeat still_step
    refine wpStill_nil ?_
    change ite _ (Oper.wp _ _ _ _ _ _) _
    go_simp
    refine HF.out.mono ?_
    rintro e w1 ⟨rfl, g1, g2, g3, g4, g5⟩
    refine hK _ _ ?_
    clear hK K
    have H1 := Lib.hid g1
    have K1 := Lib.hid g2
    clear g1 g2 g3 g4 g5 c0 c1 m0 s0
    repeat still_step
    refine wpStill_nil ?_
    go_wp2_with fail
    go_ret
    exact HE.out _ H1.out K1.out
set_option maxRecDepth 4000 in
set_option maxHeartbeats 4000000 in
theorem mCarve_new (hf : Fut o w) (Nt M : Nat) (op : OpR) (all : List Nat) (av : Value) (hr : RowO o w 3 av (tabV all)) (h1 : 1 ≤ all.length) : Calls Tryz.prog 222 #[.pointer (some ⟨M, 0, none⟩), .agg op.cells.toArray, av] w fun e w' => ∃ fv, e = .returned fv ∧ MClo o w' Nt M (carveD op all) fv ∧ Keep none_ w w' := by
  obtain ⟨ok, oa, ob, oc⟩ := op
  obtain ⟨a, c, rfl, hlc, hmx, hcell⟩ := hr.form
  rw [show (tabV all).length = all.length by simp [tabV]] at *
  have hnn : ((all.length - 1 : Nat) : Int) = (all.length : Int) - 1 := by omega
  obtain ⟨W4, hW4⟩ : ∃ W4, W4 = allocL w [([ptrV M], 30), ([.int .i64 ok, .int .i64 oa, .int .i64 ob, .int .i64 oc], 61), ([.slice a all.length c], 40), ([.int .i64 ((all.length : Int) - 1)], 3)] := ⟨_, rfl⟩
  have hc := caps_new (o := o) [([ptrV M], 30), ([.int .i64 ok, .int .i64 oa, .int .i64 ob, .int .i64 oc], 61), ([.slice a all.length c], 40), ([.int .i64 ((all.length : Int) - 1)], 3)] w hf
  rw [← hW4] at hc
  have y1 := hc.2
  obtain ⟨b0, b1, b2, b3, e, ⟨o0, k0⟩, ⟨o1, k1⟩, ⟨o2, k2⟩, ⟨o3, k3⟩⟩ := caps4 hc.1
  simp only [idxs, List.cons.injEq] at e
  obtain ⟨rfl, rfl, rfl, rfl, _⟩ := e
  have HW : Hid (((((w.alloc (.cells #[ptrV M] 30)).alloc (.cells #[.int .i64 ok, .int .i64 oa, .int .i64 ob, .int .i64 oc] 61)).alloc (.cells #[.slice a all.length c] 40)).alloc (.cells #[.int .i64 ((all.length : Int) - 1)] 3)) = W4) := by rw [hW4]; rfl
  have hmf := hmkf
  by_cases hl : all.length = 1
  · obtain ⟨x, rfl⟩ := List.length_eq_one_iff.1 hl
    have e1 : carveD ⟨ok, oa, ob, oc⟩ [x] = .fill ⟨ok, oa, ob, oc⟩ x := rfl
    rw [e1]
    obtain ⟨b, off, rfl, hx⟩ := hcell 0 (.int .i64 (x : Nat)) rfl
    have hx4 : W4.cell? ⟨b, off, none⟩ = some (.int .i64 (x : Nat)) := y1.still hx
    have HFL : Hid (Calls Tryz.prog 206 #[.pointer (some ⟨M, 0, none⟩), .agg #[.int .i64 ok, .int .i64 oa, .int .i64 ob, .int .i64 oc], .int .i64 (x : Nat)] W4.drew fun e w' => ∃ fn caps, e = .returned (.func (.func fn) #[] caps) ∧ MClo o w' Nt M (.fill ⟨ok, oa, ob, oc⟩ x) (.func (.func fn) #[] caps) ∧ Keep none_ w w') := by
      have kd : Keep none_ w W4.drew := y1.drew
      refine (mFill_new (hf.keep kd) Nt M ⟨ok, oa, ob, oc⟩ x).mono ?_
      rintro e w' ⟨fv, rfl, g1, g2⟩
      obtain ⟨bs, rfl, hb⟩ := g1
      exact ⟨_, _, rfl, ⟨bs, rfl, hb⟩, kd.trans g2⟩
    have c0 : W4.cell? ⟨w.heap.size, 0, none⟩ = some (.pointer (some ⟨M, 0, none⟩)) := k0.cell 0 rfl
    have p0 := k1.cell 0 rfl; have p1 := k1.cell 1 rfl; have p2 := k1.cell 2 rfl; have p3 := k1.cell 3 rfl
    have c2 := k2.cell 0 rfl
    have HW2 : Hid (((((w.alloc (.cells #[ptrV M] 30)).alloc (.cells #[.int .i64 ok, .int .i64 oa, .int .i64 ob, .int .i64 oc] 61)).alloc (.cells #[.slice (some ⟨b, off, none⟩) 1 c] 40)).alloc (.cells #[.int .i64 0] 3)) = W4) := HW
    have c2 : W4.cell? ⟨w.heap.size + 1 + 1, 0, none⟩ = some (.slice (some ⟨b, off, none⟩) 1 c) := c2
    have hlc : 1 ≤ c := hlc
    show Calls Tryz.prog 222 #[.pointer (some ⟨M, 0, none⟩), .agg #[.int .i64 ok, .int .i64 oa, .int .i64 ob, .int .i64 oc], .slice (some ⟨b, off, none⟩) 1 c] w _
    clear HW
    clear hc k0 k1 k2 k3 o0 o1 o2 o3 y1 hW4 hf hr hcell hx e1 hnn hl h1 hmx
    go_enter Tryz.func222, Tryz.ntmps222
    go_wp2_with fail
    rw [HW2.out]
    refine wp_region_still_mid 5 rfl (by kernel_rfl) (by kernel_rfl) (fun K hK => ?_)
    change wpStill _ _ (World.drew _) _ _ _
    simp only [List.take_succ_cons, List.take_zero, List.drop_succ_cons, List.drop_zero] at hK ⊢
    repeat still_step
    refine wpStill_nil ?_
    change ite _ (Oper.wp _ _ _ _ _ _) _
    go_simp
    refine HFL.out.mono ?_
    rintro e w1 ⟨fn, caps, rfl, g1, g2⟩
    refine hK _ _ ?_
    clear hK K
    have H1 := Lib.hid (And.intro g1 g2)
    clear g1 g2 c0 p0 p1 p2 p3 c2 hx4
    repeat still_step
    refine wpStill_nil ?_
    go_wp2_with fail
    go_ret
    exact ⟨_, rfl, H1.out.1, H1.out.2⟩
  · have e1 : carveD ⟨ok, oa, ob, oc⟩ all = .carve ⟨ok, oa, ob, oc⟩ all := by unfold carveD; rw [if_neg hl]
    rw [e1]
    have HE : Hid (MClo o W4 Nt M (.carve ⟨ok, oa, ob, oc⟩ all) (.func (.func 231) #[] #[.pointer (some ⟨w.heap.size, 0, none⟩), .pointer (some ⟨w.heap.size + 1 + 1, 0, none⟩), .pointer (some ⟨w.heap.size + 1 + 1 + 1, 0, none⟩), .pointer (some ⟨w.heap.size + 1, 0, none⟩)]) ∧ Keep none_ w W4) := by
      refine ⟨⟨by omega, .slice a all.length c, hr.still y1, [w.heap.size, w.heap.size + 1 + 1, w.heap.size + 1 + 1 + 1, w.heap.size + 1], rfl, _, _, rfl, o0, k0, _, _, rfl, o2, k2, _, _, rfl, o3, ?_, _, _, rfl, o1, k1, rfl⟩, y1⟩
      rw [hnn]; exact k3
    have d0 : ((all.length : Int) - 1 == 0) = false := by simp; omega
    generalize all.length = n at *
    clear hc k0 k1 k2 k3 o0 o1 o2 o3 y1 hW4 hf hr hcell e1 hnn hl
    simp only [OpR.cells]
    go_enter Tryz.func222, Tryz.ntmps222
    go_wp2_with fail
    rw [HW.out]
    go_ret
    exact ⟨_, rfl, HE.out.1, HE.out.2⟩
theorem assignP_len {H : HS} (hw0 : 16 ≤ H.ww) (hw1 : H.ww ≤ 256) {k : Nat} (hk : k < 4) (h : (H.assignP k).2.1 = 0) : 1 ≤ (H.assignP k).1.length ∧ (H.assignP k).1.length ≤ 256 := by
  unfold HS.assignP at h ⊢
  revert h
  split
  · intro h; simp at h
  · rename_i B hf
    intro _
    obtain ⟨hB, h0, hl⟩ := List.findIdx?_eq_some_iff_getElem.1 hf
    have hK : (H.assign B k).K.getD B 0 = k + 1  := lset_same hB _
    have hW : (H.assign B k).ww = H.ww := rfl
    dsimp only
    unfold HS.slots
    rw [hK, if_neg (by omega), slotsL_len, hW]
    have h2 : 2 ^ (k + 1) ≤ 16 := by
      have : k = 0 ∨ k = 1 ∨ k = 2 ∨ k = 3 := by omega
      rcases this with rfl | rfl | rfl | rfl <;> decide
    exact ⟨Nat.div_pos (by omega) (Nat.two_pow_pos _), Nat.le_trans (Nat.div_le_self _ _) hw1⟩
theorem MAt.ww {ev : Option Ev} (h : MAt o w G g s m ev nv) : 16 ≤ s.H.ww ∧ s.H.ww ≤ 256 := by
  have h1 := (ok_bounds h.sh.heap.table.ok).2.1
  have h2 := h.sh.heap.cw
  omega
set_option maxRecDepth 4000 in
set_option maxHeartbeats 4000000 in
theorem mAssign_post (h : MAt o w G g s m none nv) (op : OpR) (k : Nat) (hk4 : k < 4) : Calls Tryz.prog 208 #[.pointer (some ⟨g.M, 0, none⟩), .agg op.cells.toArray, .int .i64 (k : Int)] w fun e w' => ∃ fn caps, e = .returned (.func (.func fn) #[] caps) ∧ StepPost o w G g nv m.id (stepM s m (.assign op k)) (.returned (.func (.func fn) #[] caps)) w' ∨ e = .returned .nilFunc ∧ StepPost o w G g nv m.id (stepM s m (.assign op k)) (.returned .nilFunc) w' := by
  obtain ⟨ok, oa, ob, oc⟩ := op
  obtain ⟨W3, hW3⟩ : ∃ W3, W3 = allocL w [([ptrV g.M], 30), ([.int .i64 ok, .int .i64 oa, .int .i64 ob, .int .i64 oc], 61), ([.int .i64 (k : Int)], 3)] := ⟨_, rfl⟩
  have hc := caps_new (o := o) [([ptrV g.M], 30), ([.int .i64 ok, .int .i64 oa, .int .i64 ob, .int .i64 oc], 61), ([.int .i64 (k : Int)], 3)] w h.sh.fut
  rw [← hW3] at hc
  obtain ⟨b0, b1, b2, e, ⟨o0, k0⟩, ⟨o1, k1⟩, ⟨o2, k2⟩⟩ := caps3 hc.1
  simp only [idxs, List.cons.injEq] at e
  obtain ⟨rfl, rfl, rfl, _⟩ := e
  have HW : Hid ((((w.alloc (.cells #[ptrV g.M] 30)).alloc (.cells #[.int .i64 ok, .int .i64 oa, .int .i64 ob, .int .i64 oc] 61)).alloc (.cells #[.int .i64 (k : Int)] 3)) = W3) := by rw [hW3]; rfl
  have hmf := hmkf
  have hkd : Keep none_ w W3.drew := hc.2.drew
  have hd := h.still hkd
  have h3 := h.still hc.2
  have m0 := h3.m0
  have s0 := h3.s0.1
  have c0 : W3.cell? ⟨w.heap.size, 0, none⟩ = some (.pointer (some ⟨g.M, 0, none⟩)) := k0.cell 0 rfl
  have c2 : W3.cell? ⟨w.heap.size + 1 + 1, 0, none⟩ = some (.int .i64 (k : Int)) := k2.cell 0 rfl
  have hkd3 : Keep none_ W3 W3.drew := (Keep.refl none_ W3).drew
  have HF : Hid (Calls Tryz.prog 103 #[.pointer (some ⟨G.D 0, 0, none⟩), .int .i64 (k : Int)] W3.drew fun e w' => (∃ a c, e = .returned (.tuple #[.slice a (s.H.assignP k).1.length c, .int .i64 ((s.H.assignP k).2.1 : Int)]) ∧ RowO o w' 3 (.slice a (s.H.assignP k).1.length c) (tabV (s.H.assignP k).1)) ∧ MAt o w' G g { s with H := (s.H.assignP k).2.2 } m none nv ∧ Keep (In o (stepI m.id)) w w' ∧ Blk w' w.heap.size [ptrV g.M] 30 ∧ Blk w' (w.heap.size + 1) [.int .i64 ok, .int .i64 oa, .int .i64 ob, .int .i64 oc] 61 ∧ Blk w' (w.heap.size + 1 + 1) [.int .i64 (k : Int)] 3) := by
    refine (hAssign_any hd.sh.heap k hk4).mono ?_
    rintro e w' ⟨v, rfl, g0, g1, g2⟩
    obtain ⟨h1, kk⟩ := hd.setHeap g2 g1 (assignP_c _ _)
    have km : Keep (In o (stepI m.id)) w w' := hkd.noneO.trans kk
    have km3 : Keep (In o (stepI m.id)) W3 w' := hkd3.noneO.trans kk
    have hlen : (s.H.assignP k).1.length ≤ 256 := by
      rcases assignP_two s.H k with hz | ⟨hz, _⟩
      · exact (assignP_len h.ww.1 h.ww.2 hk4 hz).2
      · unfold HS.assignP at hz ⊢
        revert hz
        split
        · intro _; exact Nat.zero_le _
        · intro hz; simp at hz
    have hro := RowO.ofOwn g0 (by omega) (fun b hb => hd.sh.fut b hb)
    obtain ⟨a, c, hv, _⟩ := hro.form
    rw [List.length_map] at hv
    subst hv
    exact ⟨⟨a, c, rfl, hro⟩, h1, km, k0.keepO km3 o0 (stepI_0 _), k1.keepO km3 o1 (stepI_0 _), k2.keepO km3 o2 (stepI_0 _)⟩
  rcases assignP_two s.H k with hz | ⟨hz, hsame⟩
  · have e1 : stepM s m (.assign ⟨ok, oa, ob, oc⟩ k) = ⟨{ s with H := (s.H.assignP k).2.2 }, m, carveD ⟨ok, oa, ob, oc⟩ (s.H.assignP k).1, none⟩ := by simp only [stepM]; rw [if_pos hz]
    have hl1 := (assignP_len h.ww.1 h.ww.2 hk4 hz).1
    rw [hz] at HF
    have HZ : Hid (∀ W a c, MAt o W G g { s with H := (s.H.assignP k).2.2 } m none nv → Keep (In o (stepI m.id)) w W → RowO o W 3 (.slice a (s.H.assignP k).1.length c) (tabV (s.H.assignP k).1) → Calls Tryz.prog 222 #[.pointer (some ⟨g.M, 0, none⟩), .agg #[.int .i64 ok, .int .i64 oa, .int .i64 ob, .int .i64 oc], .slice a (s.H.assignP k).1.length c] W fun e w' => ∃ fn caps, e = .returned (.func (.func fn) #[] caps) ∧ StepPost o w G g nv m.id (stepM s m (.assign ⟨ok, oa, ob, oc⟩ k)) (.returned (.func (.func fn) #[] caps)) w' ∨ e = .returned .nilFunc ∧ StepPost o w G g nv m.id (stepM s m (.assign ⟨ok, oa, ob, oc⟩ k)) (.returned .nilFunc) w') := fun W a c hW hk hr => by
      rw [e1]
      exact StepPost.made (r := ⟨{ s with H := (s.H.assignP k).2.2 }, m, carveD ⟨ok, oa, ob, oc⟩ (s.H.assignP k).1, none⟩) hW hk (mCarve_new hW.sh.fut g.Nt g.M ⟨ok, oa, ob, oc⟩ (s.H.assignP k).1 _ hr hl1) rfl
    clear e1
    generalize stepM s m (.assign ⟨ok, oa, ob, oc⟩ k) = R at *
    generalize { s with H := (s.H.assignP k).2.2 } = s' at *
    generalize (s.H.assignP k).1 = l at *
    generalize m.id = mi at *
    clear h h3 hc hkd hkd3 hd k0 k1 k2 o0 o1 o2 hz hl1 hW3
    simp only [OpR.cells]
    go_enter Tryz.func208, Tryz.ntmps208
    go_wp2_with fail
    rw [HW.out]
    refine wp_region_still_mid 8 rfl (by kernel_rfl) (by kernel_rfl) (fun K hK => ?_)
    change wpStill _ _ (World.drew _) _ _ _
    simp only [List.take_succ_cons, List.take_zero, List.drop_succ_cons, List.drop_zero] at hK ⊢
    repeat still_step
    refine wpStill_nil ?_
    change ite _ (Oper.wp _ _ _ _ _ _) _
    go_simp
    refine HF.out.mono ?_
    rintro e w1 ⟨⟨a, c, rfl, g0⟩, g1, g2, g3, g4, g5⟩
    refine hK _ _ ?_
    clear hK K
    have H0 := Lib.hid g0
    have H1 := Lib.hid g1
    have K1 := Lib.hid g2
    clear g0 g1 g2 c0 c2 m0 s0
    repeat still_step
    refine wpStill_nil ?_
    have c0 : w1.cell? ⟨w.heap.size, 0, none⟩ = some (.pointer (some ⟨g.M, 0, none⟩)) := g3.cell 0 rfl
    have p0 := g4.cell 0 rfl; have p1 := g4.cell 1 rfl; have p2 := g4.cell 2 rfl; have p3 := g4.cell 3 rfl
    clear g3 g4 g5
    go_wp2_with fail
    refine (HZ.out _ _ _ H1.out K1.out H0.out).mono ?_
    rintro e w2 ⟨fn, caps, ⟨rfl, hp⟩ | ⟨rfl, hp⟩⟩
    all_goals
      have HP := Lib.hid hp
      clear hp c0 p0 p1 p2 p3
      go_wp2_with fail
      go_ret
      first
        | exact ⟨fn, caps, .inl ⟨rfl, HP.out⟩⟩
        | exact ⟨fn, caps, .inr ⟨rfl, HP.out⟩⟩
  · have e1 : stepM s m (.assign ⟨ok, oa, ob, oc⟩ k) = ⟨s, m, .claim ⟨ok, oa, ob, oc⟩ k, none⟩ := by simp only [stepM]; rw [if_neg (by omega)]
    rw [hz, hsame] at HF
    have HE : Hid (∀ W, MAt o W G g s m none nv → Keep (In o (stepI m.id)) w W → Blk W w.heap.size [ptrV g.M] 30 → Blk W (w.heap.size + 1) [.int .i64 ok, .int .i64 oa, .int .i64 ob, .int .i64 oc] 61 → Blk W (w.heap.size + 1 + 1) [.int .i64 (k : Int)] 3 → StepPost o w G g nv m.id (stepM s m (.assign ⟨ok, oa, ob, oc⟩ k)) (.returned (.func (.func 220) #[] #[.pointer (some ⟨w.heap.size, 0, none⟩), .pointer (some ⟨w.heap.size + 1, 0, none⟩), .pointer (some ⟨w.heap.size + 1 + 1, 0, none⟩)])) W) := fun W hW hk g0 g1 g2 => by
      rw [e1]
      refine StepPost.same hW ?_ hk
      exact ⟨[w.heap.size, w.heap.size + 1, w.heap.size + 1 + 1], rfl, _, _, rfl, o0, g0, _, _, rfl, o1, g1, _, _, rfl, o2, g2, rfl⟩
    clear e1
    generalize stepM s m (.assign ⟨ok, oa, ob, oc⟩ k) = R at *
    generalize (s.H.assignP k).1 = l at *
    generalize m.id = mi at *
    clear h h3 hc hkd hkd3 hd k0 k1 k2 o0 o1 o2 hz hsame hW3
    simp only [OpR.cells]
    go_enter Tryz.func208, Tryz.ntmps208
    go_wp2_with fail
    rw [HW.out]
    refine wp_region_still_mid 8 rfl (by kernel_rfl) (by kernel_rfl) (fun K hK => ?_)
    change wpStill _ _ (World.drew _) _ _ _
    simp only [List.take_succ_cons, List.take_zero, List.drop_succ_cons, List.drop_zero] at hK ⊢
    repeat still_step
    refine wpStill_nil ?_
    change ite _ (Oper.wp _ _ _ _ _ _) _
    go_simp
    refine HF.out.mono ?_
    rintro e w1 ⟨⟨a, c, rfl, g0⟩, g1, g2, g3, g4, g5⟩
    refine hK _ _ ?_
    clear hK K
    have HX := Lib.hid (HE.out _ g1 g2 g3 g4 g5)
    clear g0 g1 g2 g3 g4 g5 c0 c2 m0 s0
    repeat still_step
    refine wpStill_nil ?_
    go_wp2_with fail
    go_ret
    exact ⟨_, _, .inl ⟨rfl, HX.out⟩⟩
set_option maxRecDepth 4000 in
set_option maxHeartbeats 4000000 in
theorem stAssign_any (h : MAt o w G g s m none nv) (op : OpR) (k : Nat) (v : Value) (hv : MClo o w g.Nt g.M (.assign op k) v) (hk4 : k < 4) : ∃ bs : List Nat, v = .func (.func 207) #[] (bs.map ptrV).toArray ∧ Calls Tryz.prog 207 (bs.map ptrV).toArray w (StepPost o w G g nv m.id (stepM s m (.assign op k))) := by
  obtain ⟨bs, hbs, hcap⟩ := hv
  refine ⟨bs, hbs, ?_⟩
  obtain ⟨b0, b1, b2, rfl, ⟨o0, k0⟩, ⟨o1, k1⟩, ⟨o2, k2⟩⟩ := caps3 hcap
  have HC := Lib.hid (mAssign_post h op k hk4)
  obtain ⟨ok, oa, ob, oc⟩ := op
  have c0 : w.cell? ⟨b0, 0, none⟩ = some (.pointer (some ⟨g.M, 0, none⟩)) := k0.cell 0 rfl
  have p0 := k1.cell 0 rfl; have p1 := k1.cell 1 rfl; have p2 := k1.cell 2 rfl; have p3 := k1.cell 3 rfl
  have c2 := k2.cell 0 rfl
  show Calls Tryz.prog 207 #[.pointer (some ⟨b0, 0, none⟩), .pointer (some ⟨b1, 0, none⟩), .pointer (some ⟨b2, 0, none⟩)] w _
  simp only [OpR.cells] at HC
  generalize stepM s m (.assign ⟨ok, oa, ob, oc⟩ k) = R at *
  generalize m.id = mi at *
  clear h hcap hbs k0 k1 k2 o0 o1 o2
  go_enter Tryz.func207, Tryz.ntmps207
  go_wp2_with fail
  refine HC.out.mono ?_
  rintro e w2 ⟨fn, caps, ⟨rfl, hp⟩ | ⟨rfl, hp⟩⟩
  all_goals
    have HP := Lib.hid hp
    clear hp c0 p0 p1 p2 p3 c2
    go_wp2_with fail
    go_ret
    exact HP.out
/-- A step that made a closure last, and not none. -/
theorem StepPost.made1 {r : StepR} {W : World} {i : Nat} (h : MAt o W G g r.s r.m r.ev nv) (k : Keep (In o (stepI i)) w W) {f : Nat} {args : Array Value} (hc : Calls Tryz.prog f args W fun e w' => ∃ fv, e = .returned fv ∧ MClo o w' g.Nt g.M r.next fv ∧ Keep none_ W w') (hev : r.ev = none) (hn : ∀ w' fv, MClo o w' g.Nt g.M r.next fv → fv ≠ .nilFunc) : Calls Tryz.prog f args W fun e w' => ∃ fn caps, e = .returned (.func (.func fn) #[] caps) ∧ StepPost o w G g nv i r (.returned (.func (.func fn) #[] caps)) w' := by
  refine hc.mono ?_
  rintro e w' ⟨fv, rfl, h1, h2⟩
  rw [hev] at h
  have hp : StepPost o w G g nv i r (.returned fv) w' := ⟨o, fv, rfl, OExt.refl _ _, by rw [hev]; exact h.still h2, NClo.of (g := (g.Nt, g.M)) h1, k.trans h2.noneO⟩
  rcases h1.form with rfl | ⟨fn, caps, rfl⟩
  · exact absurd rfl (hn _ _ h1)
  · exact ⟨fn, caps, rfl, hp⟩
theorem carveD_fun {op : OpR} {all : List Nat} {w' : World} {fv : Value} {Nt M : Nat} (h : MClo o w' Nt M (carveD op all) fv) : fv ≠ .nilFunc := by
  unfold carveD at h
  rintro rfl
  split at h
  · obtain ⟨bs, e, _⟩ := h; cases e
  · obtain ⟨_, _, _, bs, e, _⟩ := h; cases e
theorem run_cut0 {P : Program} {T e : TypeId} (ht : P.underlying T = some (.slice e)) (hi : (P.info? e).map (·.size) = some 1) (a : Addr) (n c j : Nat) (hc : j < c) (w : World) :
    (Instr.slice T (.slice (some a) n c) none (some (.int .i64 (j : Int))) none).run P w = .ok (.slice (some a) j c) w := by
  obtain ⟨i, hi1, hi2⟩ := Option.map_eq_some_iff.1 hi
  have hb2 : (Instr.sliceBound (.int .i64 (j : Int)) c .sliceAcap).run P w = .ok ((j : Int).toNat) w := run_sliceBound (P := P) (w := w) .i64 (j : Int) c .sliceAcap (by omega) (by omega)
  have h0 : c ≠ 0 := by omega
  simp [Instr.slice, run_underlying ht, sizeOf, typeInfo, hi1, hi2, Instr.sliceBounds, hb2, Sem.run_bind, Result.andThen, h0, Addr.add]
set_option maxRecDepth 4000 in
set_option maxHeartbeats 4000000 in
theorem stCarve_any (h : MAt o w G g s m none nv) (op : OpR) (all : List Nat) (v : Value) (hv : MClo o w g.Nt g.M (.carve op all) v) : ∃ bs : List Nat, v = .func (.func 231) #[] (bs.map ptrV).toArray ∧ Calls Tryz.prog 231 (bs.map ptrV).toArray w (StepPost o w G g nv m.id (stepM s m (.carve op all))) := by
  obtain ⟨hl2, av, hr, bs, hbs, hcap⟩ := hv
  refine ⟨bs, hbs, ?_⟩
  obtain ⟨b0, b1, b2, b3, rfl, ⟨o0, k0⟩, ⟨o1, k1⟩, ⟨o2, k2⟩, ⟨o3, k3⟩⟩ := caps4 hcap
  obtain ⟨ok, oa, ob, oc⟩ := op
  obtain ⟨a, c, rfl, hlc, hmx, hcell⟩ := hr.form
  rw [show (tabV all).length = all.length by simp [tabV]] at *
  obtain ⟨n, hn⟩ : ∃ n, all.length = n := ⟨_, rfl⟩
  obtain ⟨j, hj⟩ : ∃ j, n = j + 1 := ⟨n - 1, by omega⟩
  rw [hn] at hr hlc hmx k1
  rw [show all.length - 1 = j by omega] at k2
  obtain ⟨b, off, rfl, hx⟩ := hcell j (.int .i64 (all.getD j 0 : Nat)) (tabV_at (by omega))
  have e1 : stepM s m (.carve ⟨ok, oa, ob, oc⟩ all) = ⟨{ s with H := s.H.putP (all.getD j 0) }, m, carveD ⟨ok, oa, ob, oc⟩ (all.take j), none⟩ := by
    simp only [stepM]; rw [show all.length - 1 = j by omega]
  have c0 : w.cell? ⟨b0, 0, none⟩ = some (.pointer (some ⟨g.M, 0, none⟩)) := k0.cell 0 rfl
  have c1 := k1.cell 0 rfl
  have c2 := k2.cell 0 rfl
  have m0 := h.m0
  have s0 := h.s0.1
  show Calls Tryz.prog 231 #[.pointer (some ⟨b0, 0, none⟩), .pointer (some ⟨b1, 0, none⟩), .pointer (some ⟨b2, 0, none⟩), .pointer (some ⟨b3, 0, none⟩)] w _
  have hkd : Keep none_ w w.drew := (Keep.refl none_ w).drew
  have hd := h.still hkd
  have HF : Hid (Calls Tryz.prog 105 #[.pointer (some ⟨G.D 0, 0, none⟩), .int .i64 (all.getD j 0 : Nat)] w.drew fun e w' => (∃ er : Int, e = .returned (.int .i64 er)) ∧ MAt o w' G g { s with H := s.H.putP (all.getD j 0) } m none nv ∧ Keep (In o (stepI m.id)) w w' ∧ Blk w' b0 [ptrV g.M] 30 ∧ Blk w' b1 [.slice (some ⟨b, off, none⟩) n c] 40 ∧ Blk w' b2 [.int .i64 (j : Int)] 3 ∧ Blk w' b3 [.int .i64 ok, .int .i64 oa, .int .i64 ob, .int .i64 oc] 61 ∧ RowO o w' 3 (.slice (some ⟨b, off, none⟩) n c) (tabV all)) := by
    refine (hPut_any hd.sh.heap _).mono ?_
    rintro e w' ⟨⟨er, rfl⟩, g1, g2⟩
    obtain ⟨h1, kk⟩ := hd.setHeap g2 g1 (freeP_c _ _)
    have km : Keep (In o (stepI m.id)) w w' := hkd.noneO.trans kk
    exact ⟨⟨_, rfl⟩, h1, km, k0.keepO km o0 (stepI_0 _), k1.keepO km o1 (stepI_0 _), k2.keepO km o2 (stepI_0 _), k3.keepO km o3 (stepI_0 _), hr.keepO km (stepI_0 _)⟩
  have HZ : Hid (∀ W, MAt o W G g { s with H := s.H.putP (all.getD j 0) } m none nv → Keep (In o (stepI m.id)) w W → RowO o W 3 (.slice (some ⟨b, off, none⟩) n c) (tabV all) → Calls Tryz.prog 222 #[.pointer (some ⟨g.M, 0, none⟩), .agg #[.int .i64 ok, .int .i64 oa, .int .i64 ob, .int .i64 oc], .slice (some ⟨b, off, none⟩) j c] W.drew fun e w' => ∃ fn caps, e = .returned (.func (.func fn) #[] caps) ∧ StepPost o w G g nv m.id (stepM s m (.carve ⟨ok, oa, ob, oc⟩ all)) (.returned (.func (.func fn) #[] caps)) w') := fun W hW hk hr => by
    rw [e1]
    have kd : Keep none_ W W.drew := (Keep.refl none_ W).drew
    have hr2 : RowO o W.drew 3 (.slice (some ⟨b, off, none⟩) j c) (tabV (all.take j)) := by
      have := (hr.still kd).take j (by omega)
      unfold tabV at this ⊢
      rw [List.map_take]; exact this
    have hl : 1 ≤ (all.take j).length := by rw [List.length_take]; omega
    exact StepPost.made1 (r := ⟨{ s with H := s.H.putP (all.getD j 0) }, m, carveD ⟨ok, oa, ob, oc⟩ (all.take j), none⟩) (hW.still kd) (hk.trans kd.noneO) (mCarve_new (hW.sh.fut.keep kd) g.Nt g.M ⟨ok, oa, ob, oc⟩ (all.take j) _ hr2 hl) rfl (fun _ _ => carveD_fun)
  have hrun := run_cut0 (P := Tryz.prog) (T := 40) (e := 3) (by kernel_rfl) (by kernel_rfl) ⟨b, off, none⟩ n c j (by omega)
  clear e1
  generalize stepM s m (.carve ⟨ok, oa, ob, oc⟩ all) = R at *
  generalize { s with H := s.H.putP (all.getD j 0) } = s' at *
  generalize all.getD j 0 = x at *
  generalize m.id = mi at *
  have hjI : (j : Int) < (n : Int) := by omega
  have hj0 : (0 : Int) ≤ (j : Int) := by omega
  clear h hcap hbs hkd hd k0 k1 k2 k3 o0 o1 o2 o3 hcell hr hl2 hj hn
  go_enter Tryz.func231, Tryz.ntmps231
  go_wp2_with fail
  refine wp_region_still_mid 11 rfl (by kernel_rfl) (by kernel_rfl) (fun K hK => ?_)
  change wpStill _ _ (World.drew _) _ _ _
  simp only [List.take_succ_cons, List.take_zero, List.drop_succ_cons, List.drop_zero] at hK ⊢
  repeat still_step
  refine wpStill_nil ?_
  change ite _ (Oper.wp _ _ _ _ _ _) _
  go_simp
  refine HF.out.mono ?_
  rintro e w1 ⟨⟨er, rfl⟩, g1, g2, g3, g4, g5, g6, g7⟩
  refine hK _ _ ?_
  clear hK K
  have H1 := Lib.hid g1
  have K1 := Lib.hid g2
  have R1 := Lib.hid g7
  clear g1 g2 g7 c0 c1 c2 m0 s0 hx
  repeat still_step
  refine wpStill_nil ?_
  have c0 : w1.cell? ⟨b0, 0, none⟩ = some (.pointer (some ⟨g.M, 0, none⟩)) := g3.cell 0 rfl
  have c1 := g4.cell 0 rfl
  have c2 := g5.cell 0 rfl
  have p0 := g6.cell 0 rfl; have p1 := g6.cell 1 rfl; have p2 := g6.cell 2 rfl; have p3 := g6.cell 3 rfl
  clear g3 g4 g5 g6
  have HZ1 := Lib.hid (HZ.out _ H1.out K1.out R1.out)
  go_wp2_with fail
  refine wp_region_still_mid 5 rfl (by kernel_rfl) (by kernel_rfl) (fun K hK => ?_)
  change wpStill _ _ (World.drew _) _ _ _
  simp only [List.take_succ_cons, List.take_zero, List.drop_succ_cons, List.drop_zero] at hK ⊢
  repeat still_step
  refine wpStill_nil ?_
  change ite _ (Oper.wp _ _ _ _ _ _) _
  go_simp
  refine HZ1.out.mono ?_
  rintro e w2 ⟨fn, caps, rfl, hp⟩
  refine hK _ _ ?_
  clear hK K
  have HP := Lib.hid hp
  clear hp c0 c1 c2 p0 p1 p2 p3
  repeat still_step
  refine wpStill_nil ?_
  go_wp2_with fail
  go_ret
  exact HP.out
end
end Go.Proofs.YtjdnkhljgnjkcaaGreatDoor
