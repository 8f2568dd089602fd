/- Parts of a walk, put together by a small program of mine from texts of their own: NoteS NoteS2 NoteS3 NoteS4. -/
import Derived.Test.YtjdnkhljgnjkcaaGreatDoorZzp
import Derived.Deep.RegionHeld3
import Derived.Deep.QuietTactic
import Derived.BigQuiet
/- Steps of logging, each with all that it changes. -/
namespace Go.Proofs.YtjdnkhljgnjkcaaGreatDoor
open Go.RowKit
attribute [local go_sem] Oper.semAt_some

/-- Whose blocks a mutator's step may write. -/
def stepI (i : Nat) : List Nat := [1, 2, 3, 4, 10 + i, 20 + i, 30 + i]
/-- What a step leaves: nv0 lies in the mutator's struct as its next step still. -/
def StepPost (o : Ow) (w : World) (G : Geo) (g : MG) (nv0 : Value) (i : Nat) (r : StepR) (e : Ending) (w' : World) : Prop :=
  ∃ o' nv, e = .returned nv ∧ OExt w o o' ∧ MAt o' w' G g r.s r.m r.ev nv0 ∧ NClo o' w' (G.D 0) (g.Nt, g.M) (30 + i) r.next nv ∧ Keep (In o (stepI i)) w w'
theorem stepI_0 (i : Nat) : (stepI i).contains 0 = false := by simp [stepI]; omega
section
variable {o : Ow} {w w' : World} {G : Geo} {g : MG} {s : Sh} {m : MS} {ev : Option Ev} {nv0 : Value}
theorem MAt.cl (h : MAt o w G g s m ev nv0) : 1 ≤ m.c.l ∧ m.c.l ≤ 256 := by
  have h1 := (ok_bounds h.sh.heap.table.ok).2.2.2.2.2.1
  rw [← h.conf] at h1; exact h1
theorem MAt.full (h : MAt o w G g s m ev nv0) : ((m.buf.length : Int) == m.c.l) = decide (m.buf.length = m.c.l.toNat) := by
  have := h.cl
  rw [Bool.eq_iff_iff]
  simp; omega
theorem MAt.bufl (h : MAt o w G g s m ev nv0) : (m.buf.length : Int) ≤ m.c.l := h.blen
theorem MAt.boxAt (h : MAt o w G g s m ev nv0) : RwAt o w (G.bx m.id) 131 [] (s.box m.id) ∧ o (G.bx m.id) = 10 + m.id := by
  have := h.sh.box m.id (s.boxes[m.id]'h.idl) (List.getElem?_eq_getElem h.idl)
  unfold Sh.box
  rw [List.getD_eq_getElem?_getD, List.getElem?_eq_getElem h.idl]
  exact this
/-- Without a new owner. -/
theorem StepPost.same {r : StepR} {nv : Value} {w' : World} {i : Nat} (h : MAt o w' G g r.s r.m r.ev nv0) (hc : MClo o w' g.Nt g.M r.next nv) (k : Keep (In o (stepI i)) w w') : StepPost o w G g nv0 i r (.returned nv) w' := ⟨o, nv, rfl, OExt.refl _ _, h, NClo.of (g := (g.Nt, g.M)) hc, k⟩
theorem only_buf (h : MAt o w G g s m ev nv0) (k : Keep (only g.Bf) w w') : Keep (In o (stepI m.id)) w w' := k.onlyO h.oBf (by simp [stepI])
set_option maxRecDepth 4000 in
set_option maxHeartbeats 1000000 in
theorem stAdd_any (h : MAt o w G g s m ev nv0) (x : Nat) (t : MD) (tv : Value) (ht : MClo o w g.Nt g.M t tv) (b0 b1 b2 : Nat) (o0 : o b0 = 0) (o1 : o b1 = 0) (o2 : o b2 = 0) (h0 : Blk w b0 [ptrV g.Nt] 98) (h1 : Blk w b1 [.int .i64 (x : Int)] 3) (h2 : Blk w b2 [tv] 103) :
    Calls Tryz.prog 163 #[.pointer (some ⟨b0, 0, none⟩), .pointer (some ⟨b1, 0, none⟩), .pointer (some ⟨b2, 0, none⟩)] w fun e w' => e = .returned tv ∧ MAt o w' G g (stepM s m (.add x t)).s (stepM s m (.add x t)).m ev nv0 ∧ MClo o w' g.Nt g.M t tv ∧ Keep (In o (stepI m.id)) w w' := by
  have c0 : w.cell? ⟨b0, 0, none⟩ = some (.pointer (some ⟨g.Nt, 0, none⟩)) := h0.cell 0 rfl
  have c1 := h1.cell 0 rfl
  have n1 : w.cell? ⟨g.Nt, 1, none⟩ = some (.pointer (some ⟨g.Bf, 0, none⟩)) := h.nt.cell 1 rfl
  have hcl := h.cl
  have hblen := h.blen
  have HEND : Hid (Calls Tryz.prog 164 #[.pointer (some ⟨g.Bf, 0, none⟩), .int .i64 (x : Int)] w.drew fun e w' => (∃ r, e = .returned (.bool r)) ∧ MAt o w' G g (stepM s m (.add x t)).s (stepM s m (.add x t)).m ev nv0 ∧ MClo o w' g.Nt g.M t tv ∧ Keep (In o (stepI m.id)) w w' ∧ Blk w' b2 [tv] 103) := by
    have hd := h.still (k := (Keep.refl none_ w).drew)
    have htd := ht.still (k := (Keep.refl none_ w).drew)
    have hkd : Keep none_ w w.drew := (Keep.refl none_ w).drew
    have hful := h.full
    by_cases hf : m.buf.length = m.c.l.toNat
    · rw [decide_eq_true hf] at hful
      refine (bfAdd_full hd.buf x hful).mono ?_
      rintro e w' ⟨rfl, k⟩
      have e1 : stepM s m (.add x t) = ⟨s, m, t, none⟩ := by simp only [stepM, if_pos hf]
      rw [e1]
      exact ⟨⟨_, rfl⟩, hd.still k, htd.still k, (hkd.trans k).noneO, (hkd.trans k).blk h2 (fun f => f)⟩
    · rw [decide_eq_false hf] at hful
      refine (bfAdd_room hd.buf x hful hd.sh.fut (by omega)).mono ?_
      rintro e w' ⟨rfl, hb, k⟩
      have e1 : stepM s m (.add x t) = ⟨s, { m with buf := m.buf ++ [x] }, t, none⟩ := by simp only [stepM, if_neg hf]
      rw [e1]
      have kk : Keep (In o (stepI m.id)) w w' := (hkd.noneO).trans (only_buf hd k)
      have hlen : ((m.buf ++ [x]).length : Int) ≤ m.c.l := by
        have h9 := h.bufl
        simp only [List.length_append, List.length_cons, List.length_nil]
        omega
      exact ⟨⟨_, rfl⟩, (hd.setBuf k hb hlen).1, ht.keepO kk (stepI_0 _), kk, h2.keepO kk o2 (stepI_0 _)⟩
  have _ := o0
  have _ := o1
  have hform := ht.form
  generalize (stepM s m (.add x t)).s = s' at *
  generalize (stepM s m (.add x t)).m = m' at *
  clear h ht o0 o1 o2 h0 h1 h2 hcl hblen
  rcases hform with rfl | ⟨fn, caps, rfl⟩
  all_goals
    go_enter Tryz.func163, Tryz.ntmps163
    go_wp2_with fail
    refine wp_region_still_mid 5 rfl (by kernel_rfl) (by kernel_rfl) (fun K hK => ?_)
    change wpStill _ _ (World.drew _) _ _ _
    simp only [List.take_succ_cons, List.take_zero, List.drop_succ_cons, List.drop_zero] at hK ⊢
    repeat still_step
    refine wpStill_nil ?_
    change ite _ (Oper.wp _ _ _ w.drew _ _) _
    go_simp
    refine HEND.out.mono ?_
    rintro e w1 ⟨⟨r, rfl⟩, g1, g2, g3, g4⟩
    refine hK _ _ ?_
    clear hK K
    have HR := Lib.hid (And.intro g1 (And.intro g2 g3))
    have c2 := g4.cell 0 rfl
    clear g1 g2 g3 g4 c0 c1 n1 HEND
    refine wpStill_nil ?_
    go_wp2_with fail
    go_ret
    exact ⟨rfl, HR.out.1, HR.out.2.1, HR.out.2.2⟩
end
end Go.Proofs.YtjdnkhljgnjkcaaGreatDoor

/- Steps of logging: a value noted, the buffer poured. -/
namespace Go.Proofs.YtjdnkhljgnjkcaaGreatDoor
open Go.RowKit
attribute [local go_sem] Oper.semAt_some

section
variable {o : Ow} {w w' : World} {G : Geo} {g : MG} {s : Sh} {m : MS} {ev : Option Ev} {nv0 : Value}
set_option maxRecDepth 4000 in
set_option maxHeartbeats 1000000 in
theorem ntPour_any (h : MAt o w G g s m ev nv0) (c : Nat) (t : MD) (tv : Value) (ht : MClo o w g.Nt g.M t tv) : Calls Tryz.prog 138 #[.pointer (some ⟨g.Nt, 0, none⟩), .int .i64 (c : Int), tv] w fun e w' => ∃ nv, e = .returned nv ∧ MClo o w' g.Nt g.M (m.pourD c t) nv ∧ Keep none_ w w' := by
  have hc := caps_new (o := o) [([ptrV g.Nt], 98), ([.int .i64 (c : Int)], 3), ([tv], 103)] w h.sh.fut
  obtain ⟨W, hW⟩ : ∃ W, W = allocL w [([ptrV g.Nt], 98), ([.int .i64 (c : Int)], 3), ([tv], 103)] := ⟨_, rfl⟩
  rw [← hW] at hc
  have HL := Lib.hid (bfLen_any (h.still hc.2).buf)
  have n1 : ∀ a b c, (((w.alloc a).alloc b).alloc c).cell? ⟨g.Nt, 1, none⟩ = some (.pointer (some ⟨g.Bf, 0, none⟩)) := fun a b c => (h.still ((((Keep.refl none_ w).alloc a).alloc b).alloc c)).nt.cell 1 rfl
  have hWE : W = ((w.alloc (.cells #[.pointer (some ⟨g.Nt, 0, none⟩)] 98)).alloc (.cells #[.int .i64 (c : Int)] 3)).alloc (.cells #[tv] 103) := by rw [hW]; rfl
  have HWE := Lib.hid hWE
  clear hWE
  have hform := ht.form
  obtain ⟨b0, r0, e0, o0, k0, hc1⟩ := hc.1
  obtain ⟨b1, r1, e1, o1, k1, hc2⟩ := hc1
  obtain ⟨b2, r2, e2, o2, k2, hc3⟩ := hc2
  simp only [idxs, List.cons.injEq] at e0
  obtain ⟨rfl, rfl⟩ := e0
  simp only [List.cons.injEq] at e1
  obtain ⟨rfl, rfl⟩ := e1
  simp only [List.cons.injEq] at e2
  obtain ⟨rfl, rfl⟩ := e2
  have c0 : W.cell? ⟨w.heap.size, 0, none⟩ = some (.pointer (some ⟨g.Nt, 0, none⟩)) := k0.cell 0 rfl
  have c2 := k2.cell 0 rfl
  have hmf : ∀ (fn : Fn) (first cap : Array Value) (w : World), (Instr.makeFunc fn first cap).run Tryz.prog w = .ok (.func fn first cap) w := fun _ _ _ _ => rfl
  by_cases hb : m.buf = []
  · have HE : Hid (MClo o W g.Nt g.M (m.pourD c t) tv ∧ Keep none_ w W) := by
      refine ⟨?_, hc.2⟩
      unfold MS.pourD
      rw [if_pos hb]
      exact ht.still hc.2
    rw [hb] at HL
    clear h ht hc hW k0 k1 k2 o0 o1 o2 hb
    rcases hform with rfl | ⟨fn, caps, rfl⟩
    all_goals
      go_enter Tryz.func138, Tryz.ntmps138
      go_wp2_with fail
      rw [← HWE.out]
      refine HL.out.mono ?_
      rintro e w2 ⟨rfl, rfl⟩
      go_wp2_with fail
      go_ret
      exact ⟨_, rfl, HE.out.1, HE.out.2⟩
  · have HE : Hid (MClo o W g.Nt g.M (m.pourD c t) (.func (.func 169) #[] #[ptrV w.heap.size, ptrV (w.heap.size + 1 + 1), ptrV (w.heap.size + 1)]) ∧ Keep none_ w W) := by
      refine ⟨?_, hc.2⟩
      unfold MS.pourD
      rw [if_neg hb]
      exact ⟨tv, ht.still hc.2, ⟨[w.heap.size, w.heap.size + 1 + 1, w.heap.size + 1], rfl, ⟨_, _, rfl, o0, k0, _, _, rfl, o2, k2, _, _, rfl, o1, k1, rfl⟩⟩⟩
    have hpos : 0 < m.buf.length := List.length_pos_iff.2 hb
    have d0 : ((m.buf.length : Int) == 0) = false := by simp; omega
    generalize m.buf.length = n at *
    clear h ht hc hW k0 k1 k2 o0 o1 o2 hb
    rcases hform with rfl | ⟨fn, caps, rfl⟩
    all_goals
      go_enter Tryz.func138, Tryz.ntmps138
      go_wp2_with fail
      rw [← HWE.out]
      refine HL.out.mono ?_
      rintro e w2 ⟨rfl, rfl⟩
      go_wp2_with fail
      go_ret
      exact ⟨_, rfl, HE.out.1, HE.out.2⟩
/-- Facts on a closure's boxes. -/
theorem caps3 {l0 l1 l2 : List Value × TypeId} {bs : List Nat} (h : Caps o w [l0, l1, l2] bs) : ∃ b0 b1 b2, bs = [b0, b1, b2] ∧ (o b0 = 0 ∧ Blk w b0 l0.1 l0.2) ∧ (o b1 = 0 ∧ Blk w b1 l1.1 l1.2) ∧ (o b2 = 0 ∧ Blk w b2 l2.1 l2.2) := by
  obtain ⟨b0, r0, rfl, o0, k0, b1, r1, rfl, o1, k1, b2, r2, rfl, o2, k2, rfl⟩ := h
  exact ⟨b0, b1, b2, rfl, ⟨o0, k0⟩, ⟨o1, k1⟩, ⟨o2, k2⟩⟩
theorem caps2 {l0 l1 : List Value × TypeId} {bs : List Nat} (h : Caps o w [l0, l1] bs) : ∃ b0 b1, bs = [b0, b1] ∧ (o b0 = 0 ∧ Blk w b0 l0.1 l0.2) ∧ (o b1 = 0 ∧ Blk w b1 l1.1 l1.2) := by
  obtain ⟨b0, r0, rfl, o0, k0, b1, r1, rfl, o1, k1, rfl⟩ := h
  exact ⟨b0, b1, rfl, ⟨o0, k0⟩, ⟨o1, k1⟩⟩
theorem caps1 {l0 : List Value × TypeId} {bs : List Nat} (h : Caps o w [l0] bs) : ∃ b0, bs = [b0] ∧ (o b0 = 0 ∧ Blk w b0 l0.1 l0.2) := by
  obtain ⟨b0, r0, rfl, o0, k0, rfl⟩ := h
  exact ⟨b0, rfl, ⟨o0, k0⟩⟩
theorem caps4 {l0 l1 l2 l3 : List Value × TypeId} {bs : List Nat} (h : Caps o w [l0, l1, l2, l3] bs) : ∃ b0 b1 b2 b3, bs = [b0, b1, b2, b3] ∧ (o b0 = 0 ∧ Blk w b0 l0.1 l0.2) ∧ (o b1 = 0 ∧ Blk w b1 l1.1 l1.2) ∧ (o b2 = 0 ∧ Blk w b2 l2.1 l2.2) ∧ (o b3 = 0 ∧ Blk w b3 l3.1 l3.2) := by
  obtain ⟨b0, r0, rfl, o0, k0, b1, r1, rfl, o1, k1, b2, r2, rfl, o2, k2, b3, r3, rfl, o3, k3, rfl⟩ := h
  exact ⟨b0, b1, b2, b3, rfl, ⟨o0, k0⟩, ⟨o1, k1⟩, ⟨o2, k2⟩, ⟨o3, k3⟩⟩
theorem caps5 {l0 l1 l2 l3 l4 : List Value × TypeId} {bs : List Nat} (h : Caps o w [l0, l1, l2, l3, l4] bs) : ∃ b0 b1 b2 b3 b4, bs = [b0, b1, b2, b3, b4] ∧ (o b0 = 0 ∧ Blk w b0 l0.1 l0.2) ∧ (o b1 = 0 ∧ Blk w b1 l1.1 l1.2) ∧ (o b2 = 0 ∧ Blk w b2 l2.1 l2.2) ∧ (o b3 = 0 ∧ Blk w b3 l3.1 l3.2) ∧ (o b4 = 0 ∧ Blk w b4 l4.1 l4.2) := by
  obtain ⟨b0, r0, rfl, o0, k0, b1, r1, rfl, o1, k1, b2, r2, rfl, o2, k2, b3, r3, rfl, o3, k3, b4, r4, rfl, o4, k4, rfl⟩ := h
  exact ⟨b0, b1, b2, b3, b4, rfl, ⟨o0, k0⟩, ⟨o1, k1⟩, ⟨o2, k2⟩, ⟨o3, k3⟩, ⟨o4, k4⟩⟩
set_option maxRecDepth 4000 in
set_option maxHeartbeats 4000000 in
theorem stNote_any (h : MAt o w G g s m none nv0) (x c : Nat) (t : MD) (v : Value) (hv : MClo o w g.Nt g.M (.note x c t) v) : ∃ bs : List Nat, v = .func (.func 165) #[] (bs.map ptrV).toArray ∧ Calls Tryz.prog 165 (bs.map ptrV).toArray w (StepPost o w G g nv0 m.id (stepM s m (.note x c t))) := by
  obtain ⟨tv, av, ht, ha, bs, hbs, hcap⟩ := hv
  refine ⟨bs, hbs, ?_⟩
  obtain ⟨b0, b1, b2, b3, b4, rfl, ⟨o0, k0⟩, ⟨o1, k1⟩, ⟨o2, k2⟩, ⟨o3, k3⟩, ⟨o4, k4⟩⟩ := caps5 hcap
  obtain ⟨al, rfl, hca⟩ := ha
  obtain ⟨a0, a1, a2, rfl, ⟨p0, q0⟩, ⟨p1, q1⟩, ⟨p2, q2⟩⟩ := caps3 hca
  have c0 : w.cell? ⟨b0, 0, none⟩ = some (.pointer (some ⟨g.Nt, 0, none⟩)) := k0.cell 0 rfl
  have c1 := k1.cell 0 rfl
  have c2 := k2.cell 0 rfl
  have c3 := k3.cell 0 rfl
  have n0 : w.cell? ⟨g.Nt, 0, none⟩ = some (.pointer (some ⟨G.D 0, 0, none⟩)) := h.nt.cell 0 rfl
  have HC : Hid (∀ W, Keep none_ w W → Calls Tryz.prog 166 #[.pointer (some ⟨G.D 0, 0, none⟩), .int .i64 (x : Int)] W fun e w' => e = .returned (.tuple #[.int .i64 ((if s.H.bn x then s.H.colorP x else 0 : Nat) : Int), .int .i64 (if s.H.bn x then 0 else 1)]) ∧ W = w') := fun W hW => hColor_any (h.sh.heap.still hW) x
  have hform := ht.form
  show Calls Tryz.prog 165 #[.pointer (some ⟨b0, 0, none⟩), .pointer (some ⟨b1, 0, none⟩), .pointer (some ⟨b2, 0, none⟩), .pointer (some ⟨b3, 0, none⟩), .pointer (some ⟨b4, 0, none⟩)] w _
  -- what there is behind the look at the color
  obtain ⟨n, hn⟩ : ∃ n, n = w := ⟨_, rfl⟩
  clear hn n
  cases hb : s.H.bn x with
  | false =>
    have HE : Hid (∀ W, Keep none_ w W → StepPost o w G g nv0 m.id (stepM s m (.note x c t)) (.returned tv) W) := fun W hW => by
      have e1 : stepM s m (.note x c t) = ⟨s, m, t, none⟩ := by simp only [stepM, hb]; rfl
      rw [e1]
      exact StepPost.same (h.still hW) (ht.still hW) hW.noneO
    simp only [hb, Bool.false_eq_true, if_false] at HC
    clear h ht hcap hca k0 k1 k2 k3 k4 q0 q1 q2 o0 o1 o2 o3 o4 p0 p1 p2 hbs hb
    rcases hform with rfl | ⟨fn, caps, rfl⟩
    all_goals
      go_enter Tryz.func165, Tryz.ntmps165
      go_wp2_with fail
      go_quiet (first | (go_at_call 166; exact Calls.quiet_of_same (calls_flip (HC.out _ ((Keep.refl none_ w).drewN _)))))
      have HK : Hid (Keep none_ w (w.drewN nq)) := (Keep.refl _ _).drewN _
      go_wp2_with fail
      go_ret
      exact HE.out _ HK.out
  | true =>
    simp only [hb, if_true] at HC
    by_cases hcol : s.H.colorP x = c
    · have HE : Hid (∀ W, Keep none_ w W → StepPost o w G g nv0 m.id (stepM s m (.note x c t)) (.returned tv) W) := fun W hW => by
        have e1 : stepM s m (.note x c t) = ⟨s, m, t, none⟩ := by simp only [stepM, hb, hcol]; simp
        rw [e1]
        exact StepPost.same (h.still hW) (ht.still hW) hW.noneO
      rw [hcol] at HC
      clear h ht hcap hca k0 k1 k2 k3 k4 q0 q1 q2 o0 o1 o2 o3 o4 p0 p1 p2 hbs hb hcol
      rcases hform with rfl | ⟨fn, caps, rfl⟩
      all_goals
        go_enter Tryz.func165, Tryz.ntmps165
        go_wp2_with fail
        go_quiet (first | (go_at_call 166; exact Calls.quiet_of_same (calls_flip (HC.out _ ((Keep.refl none_ w).drewN _)))))
        have HK : Hid (Keep none_ w (w.drewN nq)) := (Keep.refl _ _).drewN _
        go_wp2_with fail
        go_ret
        exact HE.out _ HK.out
    · have d1 : ((s.H.colorP x : Int) == (c : Int)) = false := int_ne hcol
      have HN1 : Hid (∀ W, Keep none_ w W → W.cell? ⟨g.Nt, 1, none⟩ = some (.pointer (some ⟨g.Bf, 0, none⟩))) := fun W hW => (h.still hW).nt.cell 1 rfl
      have HF : Hid (∀ W, Keep none_ w W → Calls Tryz.prog 167 #[.pointer (some ⟨g.Bf, 0, none⟩)] W fun e w' => e = .returned (.bool (decide (m.buf.length = m.c.l.toNat))) ∧ Keep none_ W w') := fun W hW => by
        have h9 := bfFull_any (h.still hW).buf
        rw [h.full] at h9; exact h9
      have HC4 : Hid (∀ W, Keep none_ w W → W.cell? ⟨b4, 0, none⟩ = some (.func (.func 163) #[] #[.pointer (some ⟨a0, 0, none⟩), .pointer (some ⟨a1, 0, none⟩), .pointer (some ⟨a2, 0, none⟩)])) := fun W hW => (hW.blk k4 (fun f => f)).cell 0 rfl
      by_cases hf : m.buf.length = m.c.l.toNat
      · have HP : Hid (∀ W, Keep none_ w W → Calls Tryz.prog 138 #[.pointer (some ⟨g.Nt, 0, none⟩), .int .i64 (c : Int), .func (.func 163) #[] #[.pointer (some ⟨a0, 0, none⟩), .pointer (some ⟨a1, 0, none⟩), .pointer (some ⟨a2, 0, none⟩)]] W (StepPost o w G g nv0 m.id (stepM s m (.note x c t)))) := fun W hW => by
          have hav : MClo o W g.Nt g.M (.add x t) (.func (.func 163) #[] #[.pointer (some ⟨a0, 0, none⟩), .pointer (some ⟨a1, 0, none⟩), .pointer (some ⟨a2, 0, none⟩)]) :=
            MClo.still (d := .add x t) ⟨tv, ht, ⟨[a0, a1, a2], rfl, hca⟩⟩ hW
          refine (ntPour_any (h.still hW) c (.add x t) _ hav).mono ?_
          rintro e w' ⟨nv, rfl, hm, hk⟩
          have e1 : stepM s m (.note x c t) = ⟨s, m, m.pourD c (.add x t), none⟩ := by
            simp only [stepM, hb]
            rw [if_neg (by simpa using hcol), if_pos hf]
          rw [e1]
          exact StepPost.same ((h.still hW).still hk) hm (hW.trans hk).noneO
        rw [decide_eq_true hf] at HF
        have H0 : Hid (∀ W, Keep none_ w W → W.cell? ⟨b0, 0, none⟩ = some (.pointer (some ⟨g.Nt, 0, none⟩)) ∧ W.cell? ⟨b2, 0, none⟩ = some (.int .i64 (c : Int))) := fun W hW => ⟨(hW.blk k0 (fun f => f)).cell 0 rfl, (hW.blk k2 (fun f => f)).cell 0 rfl⟩
        generalize s.H.colorP x = col at *
        generalize stepM s m (.note x c t) = R at *
        clear h ht hcap hca k0 k1 k2 k3 k4 q0 q1 q2 o0 o1 o2 o3 o4 p0 p1 p2 hbs hb hcol hf hform
        go_enter Tryz.func165, Tryz.ntmps165
        go_wp2_with fail
        go_quiet (first | (go_at_call 166; exact Calls.quiet_of_same (calls_flip (HC.out _ ((Keep.refl none_ w).drewN _)))))
        obtain ⟨W1, hW1⟩ : ∃ W1, W1 = w.drewN nq := ⟨_, rfl⟩
        rw [← hW1]
        have HK1 : Hid (Keep none_ w W1) := by rw [hW1]; exact (Keep.refl _ _).drewN _
        clear hW1 c0 c1 c2 c3 n0
        have c0 := (H0.out _ HK1.out).1
        have c2 := (H0.out _ HK1.out).2
        have z1 := HN1.out _ HK1.out
        have HF1 := Lib.hid (HF.out _ HK1.out)
        go_wp2_with fail
        refine HF1.out.mono ?_
        rintro e w2 ⟨rfl, hk2⟩
        have HK2 := Lib.hid (HK1.out.trans hk2)
        clear hk2 c0 c2 z1
        have c0 := (H0.out _ HK2.out).1
        have c2 := (H0.out _ HK2.out).2
        have c4 := HC4.out _ HK2.out
        go_wp2_with fail
        refine (HP.out _ HK2.out).mono ?_
        rintro e w3 hp
        obtain ⟨o', nv, rfl, hp⟩ := hp
        have HPP : Hid (StepPost o w G g nv0 m.id R (.returned nv) w3) := ⟨o', nv, rfl, hp⟩
        have hfm := hp.2.2.1.form
        clear hp c0 c2 c4
        rcases hfm with rfl | ⟨fn, caps, rfl⟩
        all_goals
          go_wp2_with fail
          go_ret
          exact HPP.out
      · have HA : Hid (∀ W, Keep none_ w W → Calls Tryz.prog 163 #[.pointer (some ⟨a0, 0, none⟩), .pointer (some ⟨a1, 0, none⟩), .pointer (some ⟨a2, 0, none⟩)] W fun e w' => e = .returned tv ∧ StepPost o w G g nv0 m.id (stepM s m (.note x c t)) (.returned tv) w') := fun W hW => by
          refine (stAdd_any (h.still hW) x t tv (ht.still hW) a0 a1 a2 p0 p1 p2 (hW.blk q0 (fun f => f)) (hW.blk q1 (fun f => f)) (hW.blk q2 (fun f => f))).mono ?_
          rintro e w' ⟨rfl, g1, g2, g3⟩
          have e1 : stepM s m (.note x c t) = ⟨s, { m with buf := m.buf ++ [x] }, t, none⟩ := by
            simp only [stepM, hb]
            rw [if_neg (by simpa using hcol), if_neg hf]
          have e2 : stepM s m (.add x t) = ⟨s, { m with buf := m.buf ++ [x] }, t, none⟩ := by simp only [stepM, if_neg hf]
          rw [e2] at g1
          rw [e1]
          exact ⟨rfl, StepPost.same g1 g2 (hW.noneO.trans g3)⟩
        rw [decide_eq_false hf] at HF
        have H0 : Hid (∀ W, Keep none_ w W → W.cell? ⟨b0, 0, none⟩ = some (.pointer (some ⟨g.Nt, 0, none⟩)) ∧ W.cell? ⟨b2, 0, none⟩ = some (.int .i64 (c : Int))) := fun W hW => ⟨(hW.blk k0 (fun f => f)).cell 0 rfl, (hW.blk k2 (fun f => f)).cell 0 rfl⟩
        generalize s.H.colorP x = col at *
        generalize stepM s m (.note x c t) = R at *
        clear h ht hcap hca k0 k1 k2 k3 k4 q0 q1 q2 o0 o1 o2 o3 o4 p0 p1 p2 hbs hb hcol hf
        rcases hform with rfl | ⟨fn, caps, rfl⟩
        all_goals
          go_enter Tryz.func165, Tryz.ntmps165
          go_wp2_with fail
          go_quiet (first | (go_at_call 166; exact Calls.quiet_of_same (calls_flip (HC.out _ ((Keep.refl none_ w).drewN _)))))
          obtain ⟨W1, hW1⟩ : ∃ W1, W1 = w.drewN nq := ⟨_, rfl⟩
          rw [← hW1]
          have HK1 : Hid (Keep none_ w W1) := by rw [hW1]; exact (Keep.refl _ _).drewN _
          clear hW1 c0 c1 c2 c3 n0
          have c0 := (H0.out _ HK1.out).1
          have c2 := (H0.out _ HK1.out).2
          have z1 := HN1.out _ HK1.out
          have HF1 := Lib.hid (HF.out _ HK1.out)
          go_wp2_with fail
          refine HF1.out.mono ?_
          rintro e w2 ⟨rfl, hk2⟩
          have HK2 := Lib.hid (HK1.out.trans hk2)
          clear hk2 c0 c2 z1
          have c4 := HC4.out _ HK2.out
          go_wp2_with fail
          refine (HA.out _ HK2.out).mono ?_
          rintro e w3 ⟨rfl, hp⟩
          have HPP := Lib.hid hp
          clear hp c4
          go_wp2_with fail
          go_ret
          exact HPP.out
end
end Go.Proofs.YtjdnkhljgnjkcaaGreatDoor

/- Steps of logging: the buffer handed over, or painted; the flag raised. -/
namespace Go.Proofs.YtjdnkhljgnjkcaaGreatDoor
open Go.RowKit
attribute [local go_sem] Oper.semAt_some

section
variable {o : Ow} {w w' : World} {G : Geo} {g : MG} {s : Sh} {m : MS} {nv0 : Value}
theorem MAt.setHeap {H : HS} (h : MAt o w G g s m none nv0) (k : Keep (HF G.D) w w') (hH : HeapAt w' G.D H) (hc : H.c = s.H.c) : MAt o w' G g { s with H := H } m none nv0 ∧ Keep (In o (stepI m.id)) w w' := by
  obtain ⟨h1, k1⟩ := h.sh.setHeap k hH h.box8
  exact ⟨h.share k1 rfl (by simp; omega) h1 rfl hc, k1.moreO (by simp [stepI])⟩
set_option maxRecDepth 4000 in
set_option maxHeartbeats 4000000 in
theorem stRaise_any (h : MAt o w G g s m none nv0) (t : MD) (v : Value) (hv : MClo o w g.Nt g.M (.raise t) v) : ∃ bs : List Nat, v = .func (.func 202) #[] (bs.map ptrV).toArray ∧ Calls Tryz.prog 202 (bs.map ptrV).toArray w (StepPost o w G g nv0 m.id (stepM s m (.raise t))) := by
  obtain ⟨tv, ht, bs, hbs, hcap⟩ := hv
  refine ⟨bs, hbs, ?_⟩
  obtain ⟨b0, b1, rfl, ⟨o0, k0⟩, ⟨o1, k1⟩⟩ := caps2 hcap
  have c0 : w.cell? ⟨b0, 0, none⟩ = some (.pointer (some ⟨g.Nt, 0, none⟩)) := k0.cell 0 rfl
  have n3 : w.cell? ⟨g.Nt, 3, none⟩ = some (.pointer (some ⟨G.Fl, 0, none⟩)) := h.nt.cell 3 rfl
  have hform := ht.form
  have HR : Hid (Calls Tryz.prog 203 #[.pointer (some ⟨G.Fl, 0, none⟩)] w fun e w' => e = .returned (.tuple #[]) ∧ StepPost o w G g nv0 m.id (stepM s m (.raise t)) (.returned tv) w' ∧ Blk w' b1 [tv] 103) := by
    refine (flRaise_any G.Fl s.flag h.sh.flag).mono ?_
    rintro e w' ⟨rfl, g1, g2⟩
    obtain ⟨h1, kk⟩ := h.sh.setFlag g2 g1
    have km : Keep (In o (stepI m.id)) w w' := kk.moreO (by simp [stepI])
    exact ⟨rfl, StepPost.same (r := stepM s m (.raise t)) (h.share kk rfl (by simp; omega) h1 rfl rfl) (ht.keepO kk rfl) km, k1.keepO kk o1 rfl⟩
  show Calls Tryz.prog 202 #[.pointer (some ⟨b0, 0, none⟩), .pointer (some ⟨b1, 0, none⟩)] w _
  generalize stepM s m (.raise t) = R at *
  clear h ht hcap k0 k1 o0 o1 hbs
  rcases hform with rfl | ⟨fn, caps, rfl⟩
  all_goals
    go_enter Tryz.func202, Tryz.ntmps202
    go_wp2_with fail
    refine HR.out.mono ?_
    rintro e w1 ⟨rfl, hp, hb⟩
    have HP := Lib.hid hp
    have c1 := hb.cell 0 rfl
    clear hp hb c0 n3
    go_wp2_with fail
    go_ret
    exact HP.out
set_option maxRecDepth 4000 in
set_option maxHeartbeats 4000000 in
theorem stPour_any (h : MAt o w G g s m none nv0) (c : Nat) (t : MD) (v : Value) (hv : MClo o w g.Nt g.M (.pour c t) v) : ∃ bs : List Nat, v = .func (.func 169) #[] (bs.map ptrV).toArray ∧ Calls Tryz.prog 169 (bs.map ptrV).toArray w (StepPost o w G g nv0 m.id (stepM s m (.pour c t))) := by
  obtain ⟨tv, ht, bs, hbs, hcap⟩ := hv
  refine ⟨bs, hbs, ?_⟩
  obtain ⟨b0, b1, b2, rfl, ⟨o0, k0⟩, ⟨o1, k1⟩, ⟨o2, k2⟩⟩ := caps3 hcap
  have c0 : w.cell? ⟨b0, 0, none⟩ = some (.pointer (some ⟨g.Nt, 0, none⟩)) := k0.cell 0 rfl
  have n1 : w.cell? ⟨g.Nt, 1, none⟩ = some (.pointer (some ⟨g.Bf, 0, none⟩)) := h.nt.cell 1 rfl
  have n2 : w.cell? ⟨g.Nt, 2, none⟩ = some (.pointer (some ⟨G.bx m.id, 0, none⟩)) := h.nt.cell 2 rfl
  have hform := ht.form
  have hkd : Keep none_ w w.drew := (Keep.refl none_ w).drew
  have hd := h.still hkd
  show Calls Tryz.prog 169 #[.pointer (some ⟨b0, 0, none⟩), .pointer (some ⟨b1, 0, none⟩), .pointer (some ⟨b2, 0, none⟩)] w _
  by_cases hx : s.box m.id = []
  · have HR : Hid (Calls Tryz.prog 170 #[.pointer (some ⟨G.bx m.id, 0, none⟩), .pointer (some ⟨g.Bf, 0, none⟩)] w.drew fun e w' => e = .returned (.bool true) ∧ StepPost o w G g nv0 m.id (stepM s m (.pour c t)) (.returned tv) w' ∧ Blk w' b1 [tv] 103) := by
      have hbx := hd.boxAt
      rw [hx] at hbx
      have hne : G.bx m.id ≠ g.Bf := fun e => by have h1 := hbx.2; rw [e, h.oBf] at h1; omega
      refine (bxHand_yes hd.buf hbx.1 hne hd.sh.fut).mono ?_
      rintro e w' ⟨rfl, g1, g2, g3⟩
      have kk : Keep (In o [10 + m.id, 20 + m.id]) w.drew w' := g3.mono (fun i _ e => by
        unfold In
        rcases e with e | e
        · rw [e, hbx.2]; simp
        · rw [e, h.oBf]; simp)
      have h0 : ([10 + m.id, 20 + m.id] : List Nat).contains 0 = false := by simp; omega
      have km : Keep (In o (stepI m.id)) w w' := (hkd.noneO).trans (kk.moreO (by simp [stepI]))
      have hs' : ShAt o w' G { s with boxes := s.boxes.set m.id m.buf } := by
        refine hd.sh.upd (s' := { s with boxes := s.boxes.set m.id m.buf }) kk h0 (hd.sh.heapK kk h0 (by simp; omega)) (hd.sh.board.keep kk (not_in' hd.sh.oB (by simp; omega))) (hd.sh.queue.keepO kk h0 hd.sh.oQ (by simp; omega)) (hd.sh.flag.keepO kk hd.sh.oF (by simp; omega)) (by simp) (fun i l hi => ?_)
        by_cases e : m.id = i
        · rw [← e, List.getElem?_set_self h.idl] at hi
          cases hi
          rw [← e]; exact g2
        · rw [List.getElem?_set_ne e] at hi
          have hil := (List.getElem?_eq_some_iff.1 hi).1
          have h8 := h.box8
          have hidl := h.idl
          exact (hd.sh.box i l hi).1.keepO kk h0 (hd.sh.box i l hi).2 (by simp; omega)
      obtain ⟨pv, rv, p1, p2, p3⟩ := hd.blk
      have ap := hd.apart
      have nM : ¬ (g.M = G.bx m.id ∨ g.M = g.Bf) := by
        rintro (e | e)
        · have h1 := hbx.2; rw [← e, h.oM] at h1; omega
        · exact ap.2.1 e
      have nX : ¬ (g.X = G.bx m.id ∨ g.X = g.Bf) := by
        rintro (e | e)
        · have h1 := hbx.2; rw [← e, h.oX] at h1; omega
        · exact ap.2.2.1 e
      have hm : MAt o w' G g { s with boxes := s.boxes.set m.id m.buf } { m with buf := [] } none nv0 := by
        refine ⟨hs', ⟨pv, rv, g3.blk p1 nM, p2.keepO kk h0, ⟨own_keep p3.1 g3 (fun b hb e => ?_), p3.2⟩⟩, h.oM, g3.blk hd.regs nX, h.oX, g1, h.oBf, hd.nt.keepO kk h.oNt h0, h.oNt, by simpa using h.idl, by simpa using h.box8, h.conf, h.rlen, by have := h.cl; simp; omega⟩
        rcases e with e | e
        · have h1 := hbx.2; rw [← e, p3.2 b hb] at h1; omega
        · exact (ap.2.2.2 rv _ b p3 hb).2.2 e
      have e1 : stepM s m (.pour c t) = ⟨{ s with boxes := s.boxes.set m.id m.buf }, { m with buf := [] }, t, none⟩ := by simp only [stepM, if_pos hx]
      rw [e1]
      exact ⟨rfl, StepPost.same hm (ht.keepO km (stepI_0 _)) km, k1.keepO km o1 (stepI_0 _)⟩
    generalize stepM s m (.pour c t) = R at *
    clear h ht hcap k0 k1 k2 o0 o1 o2 hbs hkd hd hx
    rcases hform with rfl | ⟨fn, caps, rfl⟩
    all_goals
      go_enter Tryz.func169, Tryz.ntmps169
      go_wp2_with fail
      refine wp_region_still_mid 8 rfl (by kernel_rfl) (by kernel_rfl) (fun K hK => ?_)
      change wpStill _ _ (World.drew _) _ _ _
      simp only [List.take_succ_cons, List.take_zero, List.drop_succ_cons, List.drop_zero] at hK ⊢
      repeat still_step
      refine wpStill_nil ?_
      change ite _ (Oper.wp _ _ _ w.drew _ _) _
      go_simp
      refine HR.out.mono ?_
      rintro e w1 ⟨rfl, hp, hb⟩
      refine hK _ _ ?_
      clear hK K
      have HP := Lib.hid hp
      have c1 := hb.cell 0 rfl
      clear hp hb c0 n1 n2
      refine wpStill_nil ?_
      go_wp2_with fail
      go_ret
      exact HP.out
  · have HR : Hid (Calls Tryz.prog 170 #[.pointer (some ⟨G.bx m.id, 0, none⟩), .pointer (some ⟨g.Bf, 0, none⟩)] w.drew fun e w' => e = .returned (.bool false) ∧ w.drew = w') := bxHand_no hd.buf hd.boxAt.1 hx
    have d0 : w.drew.cell? ⟨b0, 0, none⟩ = some (.pointer (some ⟨g.Nt, 0, none⟩)) := (hkd.blk k0 (fun f => f)).cell 0 rfl
    have d1 := (hkd.blk k1 (fun f => f)).cell 0 rfl
    have d2 := (hkd.blk k2 (fun f => f)).cell 0 rfl
    have HP : Hid (Calls Tryz.prog 171 #[.pointer (some ⟨g.Nt, 0, none⟩), .int .i64 (c : Int), .bool false, tv] w.drew (StepPost o w G g nv0 m.id (stepM s m (.pour c t)))) := by
      refine (ntPaint_any (M := g.M) hd.sh.fut c false t tv (ht.still hkd)).mono ?_
      rintro e w' ⟨nv, rfl, h1, h2⟩
      have e1 : stepM s m (.pour c t) = ⟨s, m, .paint c false t, none⟩ := by simp only [stepM, if_neg hx]
      rw [e1]
      exact StepPost.same (hd.still h2) h1 (hkd.trans h2).noneO
    generalize stepM s m (.pour c t) = R at *
    clear h ht hcap k0 k1 k2 o0 o1 o2 hbs hkd hd hx
    rcases hform with rfl | ⟨fn, caps, rfl⟩
    all_goals
      go_enter Tryz.func169, Tryz.ntmps169
      go_wp2_with fail
      refine wp_region_still_mid 8 rfl (by kernel_rfl) (by kernel_rfl) (fun K hK => ?_)
      change wpStill _ _ (World.drew _) _ _ _
      simp only [List.take_succ_cons, List.take_zero, List.drop_succ_cons, List.drop_zero] at hK ⊢
      repeat still_step
      refine wpStill_nil ?_
      change ite _ (Oper.wp _ _ _ w.drew _ _) _
      go_simp
      refine HR.out.mono ?_
      rintro e w1 ⟨rfl, rfl⟩
      refine hK _ _ ?_
      clear hK K c0 n1 n2 HR
      refine wpStill_nil ?_
      obtain ⟨W1, hW1⟩ : ∃ W1, W1 = w.drew := ⟨_, rfl⟩
      rw [← hW1] at d0 d1 d2 HP ⊢
      clear hW1
      go_wp2_with fail
      refine HP.out.mono ?_
      rintro e w2 ⟨o', nv, rfl, hp⟩
      have HPP : Hid (StepPost o w G g nv0 m.id R (.returned nv) w2) := ⟨o', nv, rfl, hp⟩
      have hfm := hp.2.2.1.form
      clear hp d0 d1 d2
      rcases hfm with rfl | ⟨fn, caps, rfl⟩
      all_goals
        go_wp2_with fail
        go_ret
        exact HPP.out
end
end Go.Proofs.YtjdnkhljgnjkcaaGreatDoor

/- Steps of logging: the buffer's first address painted. -/
namespace Go.Proofs.YtjdnkhljgnjkcaaGreatDoor
open Go.RowKit
attribute [local go_sem] Oper.semAt_some

section
variable {o : Ow} {w w' : World} {G : Geo} {g : MG} {s : Sh} {m : MS} {nv0 : Value}
set_option maxRecDepth 4000 in
set_option maxHeartbeats 8000000 in
theorem stPaint_any (h : MAt o w G g s m none nv0) (c : Nat) (f : Bool) (t : MD) (v : Value) (hv : MClo o w g.Nt g.M (.paint c f t) v) : ∃ bs : List Nat, v = .func (.func 199) #[] (bs.map ptrV).toArray ∧ Calls Tryz.prog 199 (bs.map ptrV).toArray w (StepPost o w G g nv0 m.id (stepM s m (.paint c f t))) := by
  obtain ⟨tv, ht, bs, hbs, hcap⟩ := hv
  refine ⟨bs, hbs, ?_⟩
  obtain ⟨b0, b1, b2, b3, rfl, ⟨o0, k0⟩, ⟨o1, k1⟩, ⟨o2, k2⟩, ⟨o3, k3⟩⟩ := caps4 hcap
  have c0 : w.cell? ⟨b0, 0, none⟩ = some (.pointer (some ⟨g.Nt, 0, none⟩)) := k0.cell 0 rfl
  have n1 : w.cell? ⟨g.Nt, 1, none⟩ = some (.pointer (some ⟨g.Bf, 0, none⟩)) := h.nt.cell 1 rfl
  have hform := ht.form
  show Calls Tryz.prog 199 #[.pointer (some ⟨b0, 0, none⟩), .pointer (some ⟨b1, 0, none⟩), .pointer (some ⟨b2, 0, none⟩), .pointer (some ⟨b3, 0, none⟩)] w _
  -- what holds behind Next
  have HB : Hid (∀ I W, Keep (In o I) w W → I.contains 0 = false → W.cell? ⟨b0, 0, none⟩ = some (.pointer (some ⟨g.Nt, 0, none⟩)) ∧ W.cell? ⟨b1, 0, none⟩ = some (.int .i64 (c : Int)) ∧ W.cell? ⟨b2, 0, none⟩ = some (.bool f) ∧ W.cell? ⟨b3, 0, none⟩ = some tv ∧ W.cell? ⟨g.Nt, 1, none⟩ = some (.pointer (some ⟨g.Bf, 0, none⟩)) ∧ W.cell? ⟨g.Nt, 0, none⟩ = some (.pointer (some ⟨G.D 0, 0, none⟩))) := fun I W hW hI =>
    ⟨(k0.keepO hW o0 hI).cell 0 rfl, (k1.keepO hW o1 hI).cell 0 rfl, (k2.keepO hW o2 hI).cell 0 rfl, (k3.keepO hW o3 hI).cell 0 rfl, (h.nt.keepO hW h.oNt hI).cell 1 rfl, (h.nt.keepO hW h.oNt hI).cell 0 rfl⟩
  have HN : Hid (Calls Tryz.prog 200 #[.pointer (some ⟨g.Bf, 0, none⟩)] w fun e w' => e = .returned (.tuple #[.int .i64 (headN m.buf : Int), .bool (!m.buf.isEmpty)]) ∧ MAt o w' G g s { m with buf := m.buf.tail } none nv0 ∧ Keep (In o (stepI m.id)) w w') := by
    refine (bfNext_any h.buf).mono ?_
    rintro e w' ⟨rfl, g1, g2⟩
    have hl : (m.buf.tail.length : Int) ≤ m.c.l := by have := h.blen; simp; omega
    exact ⟨rfl, (h.setBuf g2 g1 hl).1, only_buf h g2⟩
  have HP : Hid (∀ W, MAt o W G g s { m with buf := m.buf.tail } none nv0 → Calls Tryz.prog 201 #[.pointer (some ⟨G.D 0, 0, none⟩), .int .i64 (headN m.buf : Int), .int .i64 (c : Int)] W fun e w' => (∃ er : Int, e = .returned (.tuple #[.bool (s.H.paints (headN m.buf) c), .int .i64 er])) ∧ MAt o w' G g { s with H := s.H.paintP (headN m.buf) c } { m with buf := m.buf.tail } none nv0 ∧ Keep (In o (stepI m.id)) W w') := fun W hW => by
    refine (hPaint_any hW.sh.heap (headN m.buf) c).mono ?_
    rintro e w' ⟨rfl, g1, g2⟩
    have hc : (s.H.paintP (headN m.buf) c).c = s.H.c := by unfold HS.paintP; split <;> rfl
    obtain ⟨h1, h2⟩ := hW.setHeap g2 g1 hc
    exact ⟨⟨_, rfl⟩, h1, h2⟩
  have HL : Hid (∀ W, MAt o W G g { s with H := s.H.paintP (headN m.buf) c } { m with buf := m.buf.tail } none nv0 → Calls Tryz.prog 168 #[.pointer (some ⟨g.Bf, 0, none⟩)] W fun e w' => e = .returned (.int .i64 (m.buf.tail.length : Int)) ∧ W = w') := fun W hW => bfLen_any hW.buf
  have HDR : Hid (∀ W, MAt o W G g s { m with buf := m.buf.tail } none nv0 → MAt o W.drew G g s { m with buf := m.buf.tail } none nv0) := fun W hW => hW.still (Keep.refl none_ W).drew
  -- the step's end, on each way
  have HPT : Hid (m.buf.tail ≠ [] → ∀ W, MAt o W G g { s with H := s.H.paintP (headN m.buf) c } { m with buf := m.buf.tail } none nv0 → Keep (In o (stepI m.id)) w W → Calls Tryz.prog 171 #[.pointer (some ⟨g.Nt, 0, none⟩), .int .i64 (c : Int), .bool (f || s.H.paints (headN m.buf) c), tv] W (StepPost o w G g nv0 m.id (stepM s m (.paint c f t)))) := fun hne W hW hk => by
    refine (ntPaint_any (M := g.M) hW.sh.fut c _ t tv (ht.keepO hk (stepI_0 _))).mono ?_
    rintro e w' ⟨nv, rfl, h1, h2⟩
    have e1 : stepM s m (.paint c f t) = ⟨{ s with H := s.H.paintP (headN m.buf) c }, { m with buf := m.buf.tail }, .paint c (f || s.H.paints (headN m.buf) c) t, none⟩ := by simp only [stepM]; rw [if_pos hne]
    rw [e1]
    exact StepPost.same (hW.still h2) h1 (hk.trans h2.noneO)
  have HRT : Hid (m.buf.tail = [] → (f || s.H.paints (headN m.buf) c) = true → ∀ W, MAt o W G g { s with H := s.H.paintP (headN m.buf) c } { m with buf := m.buf.tail } none nv0 → Keep (In o (stepI m.id)) w W → StepPost o w G g nv0 m.id (stepM s m (.paint c f t)) (.returned (.func (.func 202) #[] #[.pointer (some ⟨b0, 0, none⟩), .pointer (some ⟨b3, 0, none⟩)])) W) := fun he hfr W hW hk => by
    have e1 : stepM s m (.paint c f t) = ⟨{ s with H := s.H.paintP (headN m.buf) c }, { m with buf := m.buf.tail }, .raise t, none⟩ := by simp only [stepM]; rw [if_neg (by simpa using he), if_pos hfr]
    rw [e1]
    exact StepPost.same hW ⟨tv, ht.keepO hk (stepI_0 _), ⟨[b0, b3], rfl, ⟨_, _, rfl, o0, k0.keepO hk o0 (stepI_0 _), _, _, rfl, o3, k3.keepO hk o3 (stepI_0 _), rfl⟩⟩⟩ hk
  have HTT : Hid (m.buf.tail = [] → (f || s.H.paints (headN m.buf) c) = false → ∀ W, MAt o W G g { s with H := s.H.paintP (headN m.buf) c } { m with buf := m.buf.tail } none nv0 → Keep (In o (stepI m.id)) w W → StepPost o w G g nv0 m.id (stepM s m (.paint c f t)) (.returned tv) W) := fun he hfr W hW hk => by
    have e1 : stepM s m (.paint c f t) = ⟨{ s with H := s.H.paintP (headN m.buf) c }, { m with buf := m.buf.tail }, t, none⟩ := by simp only [stepM]; rw [if_neg (by simpa using he), if_neg (by rw [hfr]; decide)]
    rw [e1]
    exact StepPost.same hW (ht.keepO hk (stepI_0 _)) hk
  have hmf : ∀ (fn : Fn) (first cap : Array Value) (w : World), (Instr.makeFunc fn first cap).run Tryz.prog w = .ok (.func fn first cap) w := fun _ _ _ _ => rfl
  have H0I : Hid ((stepI m.id).contains 0 = false) := stepI_0 _
  have hlen : m.buf.tail.length ≤ 256 := by have h1 := h.blen; have h2 := h.cl; simp; omega
  generalize { s with H := s.H.paintP (headN m.buf) c } = s' at *
  generalize s.H.paints (headN m.buf) c = was at *
  generalize headN m.buf = a at *
  generalize (!m.buf.isEmpty) = okb at *
  generalize hm' : ({ m with buf := m.buf.tail } : MS) = m' at *
  generalize m.buf.tail = bt at *
  generalize stepM s m (.paint c f t) = R at *
  generalize stepI m.id = II at *
  generalize m.id = mi at *
  clear h ht hcap k0 k1 k2 k3 o0 o1 o2 o3 hbs hm'
  have key : ∀ (Q : Prop) , Q → Q := fun _ q => q
  clear key
  rcases hform with rfl | ⟨fn, caps, rfl⟩
  all_goals
    cases hb : bt with
    | nil =>
      rw [hb] at HL
      cases hf : (f || was) with
      | false =>
        obtain ⟨hf1, hf2⟩ := Bool.or_eq_false_iff.1 hf
        subst hf1
        subst hf2
        have HE := Lib.hid (HTT.out hb rfl)
        clear HPT HRT HTT hb hf hlen
        go_enter Tryz.func199, Tryz.ntmps199
        go_wp2_with fail
        refine HN.out.mono ?_
        rintro e w1 ⟨rfl, g1, g2⟩
        have H1 := Lib.hid g1
        have K1 := Lib.hid g2
        clear g1 g2 c0 n1
        obtain ⟨c0, c1, c2, c3, n1, n0⟩ := HB.out _ w1 K1.out H0I.out
        have HP1 := Lib.hid (HP.out _ (HDR.out _ H1.out))
        go_wp2_with fail
        refine wp_region_still_mid 6 rfl (by kernel_rfl) (by kernel_rfl) (fun K hK => ?_)
        change wpStill _ _ (World.drew _) _ _ _
        simp only [List.take_succ_cons, List.take_zero, List.drop_succ_cons, List.drop_zero] at hK ⊢
        repeat still_step
        refine wpStill_nil ?_
        change ite _ (Oper.wp _ _ _ w1.drew _ _) _
        go_simp
        refine HP1.out.mono ?_
        rintro e w2 ⟨⟨er, rfl⟩, g1, g2⟩
        refine hK _ _ ?_
        clear hK K
        have H2 := Lib.hid g1
        have K2 : Hid (Keep (In o II) w w2) := K1.out.trans ((Keep.refl (In o II) w1).drew.trans g2)
        clear g1 g2 c0 c1 c2 c3 n0 n1
        repeat still_step
        refine wpStill_nil ?_
        obtain ⟨c0, c1, c2, c3, n1, n0⟩ := HB.out _ w2 K2.out H0I.out
        have HL2 := Lib.hid (HL.out _ H2.out)
        go_wp2_with fail
        refine HL2.out.mono ?_
        rintro e w3 ⟨rfl, rfl⟩
        go_wp2_with fail
        go_ret
        exact HE.out _ H2.out K2.out
      | true =>
        have HE := Lib.hid (HRT.out hb hf)
        have HFW : Hid (f = true ∨ (f = false ∧ was = true)) := by revert hf; cases f <;> cases was <;> simp [Hid]
        clear HPT HRT HTT hb hf hlen
        rcases HFW.out with rfl | ⟨rfl, rfl⟩
        all_goals
          clear HFW
          go_enter Tryz.func199, Tryz.ntmps199
          go_wp2_with fail
          refine HN.out.mono ?_
          rintro e w1 ⟨rfl, g1, g2⟩
          have H1 := Lib.hid g1
          have K1 := Lib.hid g2
          clear g1 g2 c0 n1
          obtain ⟨c0, c1, c2, c3, n1, n0⟩ := HB.out _ w1 K1.out H0I.out
          have HP1 := Lib.hid (HP.out _ (HDR.out _ H1.out))
          go_wp2_with fail
          refine wp_region_still_mid 6 rfl (by kernel_rfl) (by kernel_rfl) (fun K hK => ?_)
          change wpStill _ _ (World.drew _) _ _ _
          simp only [List.take_succ_cons, List.take_zero, List.drop_succ_cons, List.drop_zero] at hK ⊢
          repeat still_step
          refine wpStill_nil ?_
          change ite _ (Oper.wp _ _ _ w1.drew _ _) _
          go_simp
          refine HP1.out.mono ?_
          rintro e w2 ⟨⟨er, rfl⟩, g1, g2⟩
          refine hK _ _ ?_
          clear hK K
          have H2 := Lib.hid g1
          have K2 : Hid (Keep (In o II) w w2) := K1.out.trans ((Keep.refl (In o II) w1).drew.trans g2)
          clear g1 g2 c0 c1 c2 c3 n0 n1
          repeat still_step
          refine wpStill_nil ?_
          obtain ⟨c0, c1, c2, c3, n1, n0⟩ := HB.out _ w2 K2.out H0I.out
          have HL2 := Lib.hid (HL.out _ H2.out)
          go_wp2_with fail
          refine HL2.out.mono ?_
          rintro e w3 ⟨rfl, rfl⟩
          go_wp2_with fail
          go_ret
          exact HE.out _ H2.out K2.out
    | cons y ys =>
      have HE := Lib.hid (HPT.out (by rw [hb]; simp))
      have hpos : 0 < bt.length := by rw [hb]; simp
      have d0 : decide ((0 : Int) < (bt.length : Int)) = true := decide_eq_true (by omega)
      have d1 : decide (0 < bt.length) = true := decide_eq_true hpos
      generalize bt.length = bl at *
      clear HPT HRT HTT hb hlen
      cases f
      all_goals
        simp only [Bool.false_or, Bool.true_or] at HE
        go_enter Tryz.func199, Tryz.ntmps199
        go_wp2_with fail
        refine HN.out.mono ?_
        rintro e w1 ⟨rfl, g1, g2⟩
        have H1 := Lib.hid g1
        have K1 := Lib.hid g2
        clear g1 g2 c0 n1
        obtain ⟨c0, c1, c2, c3, n1, n0⟩ := HB.out _ w1 K1.out H0I.out
        have HP1 := Lib.hid (HP.out _ (HDR.out _ H1.out))
        go_wp2_with fail
        refine wp_region_still_mid 6 rfl (by kernel_rfl) (by kernel_rfl) (fun K hK => ?_)
        change wpStill _ _ (World.drew _) _ _ _
        simp only [List.take_succ_cons, List.take_zero, List.drop_succ_cons, List.drop_zero] at hK ⊢
        repeat still_step
        refine wpStill_nil ?_
        change ite _ (Oper.wp _ _ _ w1.drew _ _) _
        go_simp
        refine HP1.out.mono ?_
        rintro e w2 ⟨⟨er, rfl⟩, g1, g2⟩
        refine hK _ _ ?_
        clear hK K
        have H2 := Lib.hid g1
        have K2 : Hid (Keep (In o II) w w2) := K1.out.trans ((Keep.refl (In o II) w1).drew.trans g2)
        clear g1 g2 c0 c1 c2 c3 n0 n1
        repeat still_step
        refine wpStill_nil ?_
        obtain ⟨c0, c1, c2, c3, n1, n0⟩ := HB.out _ w2 K2.out H0I.out
        have HL2 := Lib.hid (HL.out _ H2.out)
        go_wp2_with fail
        refine HL2.out.mono ?_
        rintro e w3 ⟨rfl, rfl⟩
        go_wp2_with fail
        refine (HE.out _ H2.out K2.out).mono ?_
        rintro e w4 ⟨o', nv, rfl, hp⟩
        have HPP : Hid (StepPost o w G g nv0 mi R (.returned nv) w4) := ⟨o', nv, rfl, hp⟩
        have hfm := hp.2.2.1.form
        clear hp c0 c1 c2 c3 n0 n1
        rcases hfm with rfl | ⟨fn', caps', rfl⟩
        all_goals
          go_wp2_with fail
          go_ret
          exact HPP.out
end
end Go.Proofs.YtjdnkhljgnjkcaaGreatDoor
