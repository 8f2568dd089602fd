/- Parts of a walk, put together by a small program of mine from texts of their own: MutS16 MutS17 MutS18 MutS19 MutS20 BackS NoteG. -/
import Derived.Test.YtjdnkhljgnjkcaaGreatDoorZzv
import Derived.Deep.RegionHeld3
import Derived.Test.YtjdnkhljgnjkcaaGreatDoorZzd
import Derived.Test.YtjdnkhljgnjkcaaGreatDoorZzo
import Derived.Test.YtjdnkhljgnjkcaaGreatDoorZzp
/- A mutator's answers: what each does. -/
namespace Go.Proofs.YtjdnkhljgnjkcaaGreatDoor
open Go.RowKit
attribute [local go_sem] Oper.semAt_some

section
variable {o : Ow} {w w' : World} {G : Geo} {g : MG} {s : Sh} {m : MS} {nv : Value}
/-- What a closure without arguments does to a mutator. -/
def DoesM (o : Ow) (w : World) (G : Geo) (g : MG) (s : Sh) (i : Nat) (m' : MS) (nv v : Value) : Prop :=
  ∃ fn caps, v = .func (.func fn) #[] caps ∧ (∀ args w, (callFunc fn args).run Tryz.prog w = .ok (.enter fn args) w) ∧ Calls Tryz.prog fn caps w fun e w' => e = .returned (.tuple #[]) ∧ MAt o w' G g s m' none nv ∧ Keep (In o (stepI i)) w w'
set_option maxRecDepth 4000 in
set_option maxHeartbeats 1000000 in
theorem ans3_any (h : MAt o w G g s m none nv) (v : Value) (hv : Clo o w 135 [] v) : DoesM o w G g s m.id m nv v := by
  obtain ⟨bs, rfl, hcap⟩ := hv
  have : bs = [] := hcap
  subst this
  refine ⟨_, _, rfl, fun args w => (by simp [callFunc, Tryz.func135, go_sem]; rfl), ?_⟩
  show Calls Tryz.prog 135 #[] w _
  have H := Lib.hid h
  clear h hcap
  go_enter Tryz.func135, Tryz.ntmps135
  go_wp2_with fail
  go_end0
  exact ⟨rfl, H.out, Keep.refl _ _⟩
set_option maxRecDepth 4000 in
set_option maxHeartbeats 1000000 in
theorem ans5_any (h : MAt o w G g s m none nv) (v : Value) (hv : Clo o w 139 [([ptrV g.M], 30)] v) : DoesM o w G g s m.id (onceM m 5) nv v := by
  obtain ⟨bs, rfl, b0, r0, rfl, o0, k0, rfl⟩ := hv
  refine ⟨_, _, rfl, fun args w => (by simp [callFunc, Tryz.func139, go_sem]; rfl), ?_⟩
  show Calls Tryz.prog 139 #[.pointer (some ⟨b0, 0, none⟩)] w _
  have c0 : w.cell? ⟨b0, 0, none⟩ = some (.pointer (some ⟨g.M, 0, none⟩)) := k0.cell 0 rfl
  have c12 := h.c12
  have f12 := h.free 12
  obtain ⟨h1, kk⟩ := h.put 12 (.int .i64 1) { m with mode := 1 } none nv (fun _ _ => rfl) ⟨rfl, rfl, rfl, rfl, rfl, rfl⟩
  have HE : Hid (MAt o (w.setCell ⟨g.M, 12, none⟩ (.int .i64 1)) G g s (onceM m 5) none nv ∧ Keep (In o (stepI m.id)) w (w.setCell ⟨g.M, 12, none⟩ (.int .i64 1))) := ⟨h1, kk.moreO (by simp [stepI])⟩
  generalize onceM m 5 = m' at *
  generalize m.id = mi at *
  clear h h1 kk k0
  go_enter Tryz.func139, Tryz.ntmps139
  go_wp2_with fail
  go_end0
  exact ⟨rfl, HE.out.1, HE.out.2⟩
set_option maxRecDepth 4000 in
set_option maxHeartbeats 1000000 in
theorem ans6_any (h : MAt o w G g s m none nv) (v : Value) (k : Int) (hk : k ≠ 1 ∧ k ≠ 2 ∧ k ≠ 3 ∧ k ≠ 5) (hv : Clo o w 140 [([ptrV g.M], 30)] v) : DoesM o w G g s m.id (onceM m k) nv v := by
  obtain ⟨bs, rfl, b0, r0, rfl, o0, k0, rfl⟩ := hv
  refine ⟨_, _, rfl, fun args w => (by simp [callFunc, Tryz.func140, go_sem]; rfl), ?_⟩
  show Calls Tryz.prog 140 #[.pointer (some ⟨b0, 0, none⟩)] w _
  have c0 : w.cell? ⟨b0, 0, none⟩ = some (.pointer (some ⟨g.M, 0, none⟩)) := k0.cell 0 rfl
  have m10 : w.cell? ⟨g.M, 10, none⟩ = some (.pointer (some ⟨g.Bf, 0, none⟩)) := h.cell 10 _ (fun _ _ => rfl)
  have e1 : onceM m k = { m with buf := [], mode := 0 } := by unfold onceM; rw [if_neg hk.1, if_neg hk.2.1, if_neg hk.2.2.1, if_neg hk.2.2.2]
  rw [e1]
  have HC : Hid (Calls Tryz.prog 134 #[.pointer (some ⟨g.Bf, 0, none⟩)] w fun e w' => e = .returned (.tuple #[]) ∧ w'.cell? ⟨b0, 0, none⟩ = some (.pointer (some ⟨g.M, 0, none⟩)) ∧ w'.frozen? ⟨g.M, 12, none⟩ = false ∧ w'.cell? ⟨g.M, 12, none⟩ = some (.int .i64 (m.mode : Int)) ∧ Hid (MAt o (w'.setCell ⟨g.M, 12, none⟩ (.int .i64 0)) G g s { m with buf := [], mode := 0 } none nv ∧ Keep (In o (stepI m.id)) w (w'.setCell ⟨g.M, 12, none⟩ (.int .i64 0)))) := by
    refine (bfClear_any h.buf).mono ?_
    rintro e w' ⟨rfl, hb, kk⟩
    have hcl := h.cl
    obtain ⟨h1, k1⟩ := h.setBuf kk hb (by simp; omega)
    obtain ⟨h2, k2⟩ := h1.put 12 (.int .i64 0) { m with buf := [], mode := 0 } none nv (fun _ _ => rfl) ⟨rfl, rfl, rfl, rfl, rfl, rfl⟩
    exact ⟨rfl, (k0.keepO k1 o0 (by simp <;> omega)).cell 0 rfl, h1.free 12, h1.c12, h2, (k1.trans k2).moreO (by simp [stepI])⟩
  generalize ({ m with buf := [], mode := 0 } : MS) = m' at *
  generalize m.mode = mo at *
  generalize m.id = mi at *
  clear h k0 e1 hk
  go_enter Tryz.func140, Tryz.ntmps140
  go_wp2_with fail
  refine HC.out.mono ?_
  rintro e w1 ⟨rfl, d0, d1, d2, hx⟩
  clear c0 m10 HC
  go_wp2_with fail
  go_end0
  exact ⟨rfl, hx.out.1, hx.out.2⟩
set_option maxRecDepth 4000 in
set_option maxHeartbeats 1000000 in
theorem ans4_any (h : MAt o w G g s m none nv) (v : Value) (hv : Clo o w 136 [([ptrV g.M], 30)] v) : DoesM o w G g s m.id (onceM m 3) nv v := by
  obtain ⟨bs, rfl, b0, r0, rfl, o0, k0, rfl⟩ := hv
  refine ⟨_, _, rfl, fun args w => (by simp [callFunc, Tryz.func136, go_sem]; rfl), ?_⟩
  show Calls Tryz.prog 136 #[.pointer (some ⟨b0, 0, none⟩)] w _
  have c0 : w.cell? ⟨b0, 0, none⟩ = some (.pointer (some ⟨g.M, 0, none⟩)) := k0.cell 0 rfl
  have c14 := h.c14
  have c13 : w.cell? ⟨g.M, 13, none⟩ = some (.int .i64 (m.color : Int)) := h.cell 13 _ (fun _ _ => rfl)
  have f13 := h.free 13
  have hkd : Keep none_ w w.drew := (Keep.refl none_ w).drew
  obtain ⟨h1, kk⟩ := (h.still hkd).put 13 (.int .i64 (m.want : Int)) { m with color := m.want } none nv (fun _ _ => rfl) ⟨rfl, rfl, rfl, rfl, rfl, rfl⟩
  have HE : Hid (MAt o (w.drew.setCell ⟨g.M, 13, none⟩ (.int .i64 (m.want : Int))) G g s (onceM m 3) none nv ∧ Keep (In o (stepI m.id)) w (w.drew.setCell ⟨g.M, 13, none⟩ (.int .i64 (m.want : Int)))) := ⟨h1, hkd.noneO.trans (kk.moreO (by simp [stepI]))⟩
  generalize onceM m 3 = m' at *
  generalize m.want = mw at *
  generalize m.color = mc at *
  generalize m.id = mi at *
  clear h h1 kk k0 hkd
  go_enter Tryz.func136, Tryz.ntmps136
  go_wp2_with fail
  go_region
  go_wp2_with fail
  go_end0
  exact ⟨rfl, HE.out.1, HE.out.2⟩
set_option maxRecDepth 4000 in
set_option maxHeartbeats 1000000 in
theorem ans2_any (h : MAt o w G g s m none nv) (v : Value) (hcol : m.color < 2) (hv : Clo o w 133 [([ptrV g.M], 30)] v) : DoesM o w G g s m.id (onceM m 1) nv v := by
  obtain ⟨bs, rfl, b0, r0, rfl, o0, k0, rfl⟩ := hv
  refine ⟨_, _, rfl, fun args w => (by simp [callFunc, Tryz.func133, go_sem]; rfl), ?_⟩
  show Calls Tryz.prog 133 #[.pointer (some ⟨b0, 0, none⟩)] w _
  have c0 : w.cell? ⟨b0, 0, none⟩ = some (.pointer (some ⟨g.M, 0, none⟩)) := k0.cell 0 rfl
  have m10 : w.cell? ⟨g.M, 10, none⟩ = some (.pointer (some ⟨g.Bf, 0, none⟩)) := h.cell 10 _ (fun _ _ => rfl)
  have e1 : onceM m 1 = { m with buf := [], mode := 2, want := 1 - m.color } := rfl
  have hsub : ((1 - m.color : Nat) : Int) = 1 - (m.color : Int) := by omega
  have HC : Hid (Calls Tryz.prog 134 #[.pointer (some ⟨g.Bf, 0, none⟩)] w fun e w' => e = .returned (.tuple #[]) ∧ w'.cell? ⟨b0, 0, none⟩ = some (.pointer (some ⟨g.M, 0, none⟩)) ∧ w'.frozen? ⟨g.M, 12, none⟩ = false ∧ w'.frozen? ⟨g.M, 14, none⟩ = false ∧ w'.cell? ⟨g.M, 12, none⟩ = some (.int .i64 (m.mode : Int)) ∧ w'.cell? ⟨g.M, 13, none⟩ = some (.int .i64 (m.color : Int)) ∧ w'.cell? ⟨g.M, 14, none⟩ = some (.int .i64 (m.want : Int)) ∧ Hid (MAt o ((w'.setCell ⟨g.M, 12, none⟩ (.int .i64 2)).setCell ⟨g.M, 14, none⟩ (.int .i64 (1 - (m.color : Int)))).drew G g s (onceM m 1) none nv ∧ Keep (In o (stepI m.id)) w ((w'.setCell ⟨g.M, 12, none⟩ (.int .i64 2)).setCell ⟨g.M, 14, none⟩ (.int .i64 (1 - (m.color : Int)))).drew)) := by
    refine (bfClear_any h.buf).mono ?_
    rintro e w' ⟨rfl, hb, kk⟩
    have hcl := h.cl
    obtain ⟨h1, k1⟩ := h.setBuf kk hb (by simp; omega)
    obtain ⟨h2, k2⟩ := h1.put 12 (.int .i64 2) { m with buf := [], mode := 2 } none nv (fun _ _ => rfl) ⟨rfl, rfl, rfl, rfl, rfl, rfl⟩
    obtain ⟨h3, k3⟩ := h2.put 14 (.int .i64 ((1 - m.color : Nat) : Int)) { m with buf := [], mode := 2, want := 1 - m.color } none nv (fun _ _ => rfl) ⟨rfl, rfl, rfl, rfl, rfl, rfl⟩
    rw [hsub] at h3 k3
    have hkd : Keep none_ ((w'.setCell ⟨g.M, 12, none⟩ (.int .i64 2)).setCell ⟨g.M, 14, none⟩ (.int .i64 (1 - (m.color : Int)))) ((w'.setCell ⟨g.M, 12, none⟩ (.int .i64 2)).setCell ⟨g.M, 14, none⟩ (.int .i64 (1 - (m.color : Int)))).drew := (Keep.refl none_ _).drew
    exact ⟨rfl, (k0.keepO k1 o0 (by simp <;> omega)).cell 0 rfl, h1.free 12, h1.free 14, h1.c12, h1.cell 13 _ (fun _ _ => rfl), h1.c14, h3.still hkd, ((k1.moreO (by simp [stepI])).trans ((k2.trans k3).moreO (by simp [stepI]))).trans hkd.noneO⟩
  have hw1 : IntKind.i64.wrap (1 - (m.color : Int)) = 1 - (m.color : Int) := IntWalk.i64_in _ (by omega)
  clear e1 hsub hcol
  generalize onceM m 1 = m' at *
  generalize m.mode = mo at *
  generalize m.want = mw at *
  generalize hmc : (m.color : Int) = mc at *
  generalize m.id = mi at *
  clear h k0 hmc
  go_enter Tryz.func133, Tryz.ntmps133
  go_wp2_with fail
  refine HC.out.mono ?_
  rintro e w1 ⟨rfl, d0, d1, d2, d3, d4, d5, hx⟩
  clear c0 m10 HC
  go_wp2_with fail
  go_region
  go_end0
  exact ⟨rfl, hx.out.1, hx.out.2⟩
end
end Go.Proofs.YtjdnkhljgnjkcaaGreatDoor

/- A mutator's step: once, the last of an answer. -/
namespace Go.Proofs.YtjdnkhljgnjkcaaGreatDoor
open Go.RowKit
attribute [local go_sem] Oper.semAt_some

section
variable {o : Ow} {w w' : World} {G : Geo} {g : MG} {s : Sh} {m : MS} {nv : Value}
theorem MAt.setBoard {ev : Option Ev} {B : Bd} (h : MAt o w G g s m ev nv) (k : Keep (only G.B) w w') (hB : BdAt w' G.B B) : MAt o w' G g { s with B := B } m ev nv ∧ Keep (In o (stepI m.id)) w w' := by
  obtain ⟨h1, k1⟩ := h.sh.setBoard k hB
  exact ⟨h.share k1 rfl (by simp <;> omega) h1 rfl rfl, k1.moreO (by simp [stepI])⟩
set_option maxRecDepth 4000 in
set_option maxHeartbeats 4000000 in
theorem ans11_any (m' : MS) (hid : m'.id = m.id) (dv lv : Value) (hl : DoesM o w G g s m.id m' nv lv) (hv : Clo o w 131 [([lv], 1), ([ptrV g.M], 30)] dv) : ∃ fn caps, dv = .func (.func fn) #[] caps ∧ (∀ args w, (callFunc fn args).run Tryz.prog w = .ok (.enter fn args) w) ∧ Calls Tryz.prog fn caps w fun e w' => e = .returned (.tuple #[]) ∧ MAt o w' G g { s with B := s.B.ansB m.id } m' none nv ∧ Keep (In o (stepI m.id)) w w' := by
  obtain ⟨bs, rfl, hcap⟩ := hv
  obtain ⟨b0, b1, rfl, ⟨o0, k0⟩, ⟨o1, k1⟩⟩ := caps2 hcap
  refine ⟨_, _, rfl, fun args w => (by simp [callFunc, Tryz.func131, go_sem]; rfl), ?_⟩
  obtain ⟨fl, cl, rfl, hfl, hrun⟩ := hl
  show Calls Tryz.prog 131 #[.pointer (some ⟨b0, 0, none⟩), .pointer (some ⟨b1, 0, none⟩)] w _
  have c0 := k0.cell 0 rfl
  have HL : Hid (Calls Tryz.prog fl cl w fun e w' => e = .returned (.tuple #[]) ∧ w'.cell? ⟨b1, 0, none⟩ = some (.pointer (some ⟨g.M, 0, none⟩)) ∧ w'.cell? ⟨g.M, 0, none⟩ = some (.pointer (some ⟨G.S, 0, none⟩)) ∧ w'.cell? ⟨G.S, 1, none⟩ = some (.pointer (some ⟨G.B, 0, none⟩)) ∧ w'.cell? ⟨g.M, 8, none⟩ = some (.int .i64 (m.id : Int)) ∧
      Hid (Calls Tryz.prog 132 #[.pointer (some ⟨G.B, 0, none⟩), .int .i64 (m.id : Int)] w'.drew fun e w2 => (∃ er : Int, e = .returned (.int .i64 er)) ∧ MAt o w2 G g { s with B := s.B.ansB m.id } m' none nv ∧ Keep (In o (stepI m.id)) w w2)) := by
    refine hrun.mono ?_
    rintro e w' ⟨rfl, h1, kk⟩
    refine ⟨rfl, (k1.keepO kk o1 (stepI_0 _)).cell 0 rfl, h1.m0, h1.s0.2.1, by rw [← hid]; exact h1.c8, ?_⟩
    have hkd : Keep none_ w' w'.drew := (Keep.refl none_ w').drew
    have hd := h1.still hkd
    refine (bd_answer_any G.B s.B (m.id : Int) w'.drew hd.sh.board).mono ?_
    rintro e w2 ⟨rfl, hb, k2⟩
    obtain ⟨h3, k3⟩ := hd.setBoard k2 hb
    rw [hid] at k3
    exact ⟨⟨_, rfl⟩, h3, kk.trans (hkd.noneO.trans k3)⟩
  generalize ({ s with B := s.B.ansB m.id } : Sh) = s' at *
  generalize m.id = mi at *
  clear hrun hcap k0 k1 hid
  go_enter Tryz.func131, Tryz.ntmps131
  go_wp2_with fail
  refine HL.out.mono ?_
  rintro e w1 ⟨rfl, d0, d1, d2, d3, hx⟩
  clear c0 HL
  go_wp2_with fail
  refine wp_region_still_mid 11 rfl (by kernel_rfl) (by kernel_rfl) (fun K hK => ?_)
  change wpStill _ _ (World.drew _) _ _ _
  simp only [List.take_succ_cons, List.take_zero, List.drop_succ_cons, List.drop_zero] at hK ⊢
  repeat still_step
  refine wpStill_nil ?_
  change ite _ (Oper.wp _ _ _ _ _ _) _
  go_simp
  refine hx.out.mono ?_
  rintro e w2 ⟨⟨er, rfl⟩, g1, g2⟩
  refine hK _ _ ?_
  clear hK K
  have H1 := Lib.hid (And.intro g1 g2)
  clear g1 g2 d0 d1 d2 d3 hx
  repeat still_step
  refine wpStill_nil ?_
  go_end0
  exact ⟨rfl, H1.out.1, H1.out.2⟩
theorem onceM_id (m : MS) (k : Int) : (onceM m k).id = m.id := by
  unfold onceM
  split
  · rfl
  split
  · rfl
  split
  · rfl
  split <;> rfl
set_option maxRecDepth 4000 in
set_option maxHeartbeats 4000000 in
theorem stOnce_any (h : MAt o w G g s m none nv) (k : Int) (v : Value) (hv : MClo o w g.Nt g.M (.once k) v) (hcol : m.color < 2) : ∃ bs : List Nat, v = .func (.func 162) #[] (bs.map ptrV).toArray ∧ Calls Tryz.prog 162 (bs.map ptrV).toArray w (StepPost o w G g nv m.id (stepM s m (.once k))) := by
  obtain ⟨dv, ⟨bs, hbs, hcap⟩, hk⟩ := hv
  refine ⟨bs, hbs, ?_⟩
  obtain ⟨b0, r0, rfl, o0, k0, rfl⟩ := hcap
  have hd : ∃ lv, Clo o w 131 [([lv], 1), ([ptrV g.M], 30)] dv ∧ DoesM o w G g s m.id (onceM m k) nv lv := by
    by_cases h1 : k = 1
    · subst h1
      rw [if_pos rfl] at hk
      obtain ⟨lv, h1, h2⟩ := hk
      exact ⟨lv, h1, ans2_any h lv hcol h2⟩
    rw [if_neg h1] at hk
    by_cases h2 : k = 2
    · subst h2
      rw [if_pos rfl] at hk
      obtain ⟨lv, h1, h2⟩ := hk
      exact ⟨lv, h1, ans3_any h lv h2⟩
    rw [if_neg h2] at hk
    by_cases h3 : k = 3
    · subst h3
      rw [if_pos rfl] at hk
      obtain ⟨lv, h1, h2⟩ := hk
      exact ⟨lv, h1, ans4_any h lv h2⟩
    rw [if_neg h3] at hk
    by_cases h5 : k = 5
    · subst h5
      rw [if_pos rfl] at hk
      obtain ⟨lv, h1, h2⟩ := hk
      exact ⟨lv, h1, ans5_any h lv h2⟩
    rw [if_neg h5] at hk
    obtain ⟨lv, h6, h7⟩ := hk
    exact ⟨lv, h6, ans6_any h lv k ⟨h1, h2, h3, h5⟩ h7⟩
  obtain ⟨lv, hc, hl⟩ := hd
  obtain ⟨fn, caps, rfl, hfn, hrun⟩ := ans11_any (onceM m k) (onceM_id m k) dv lv hl hc
  have c0 := k0.cell 0 rfl
  show Calls Tryz.prog 162 #[.pointer (some ⟨b0, 0, none⟩)] w _
  have HR : Hid (Calls Tryz.prog fn caps w fun e w' => e = .returned (.tuple #[]) ∧ StepPost o w G g nv m.id (stepM s m (.once k)) (.returned .nilFunc) w') := by
    refine hrun.mono ?_
    rintro e w' ⟨rfl, h1, k1⟩
    exact ⟨rfl, StepPost.same (r := ⟨{ s with B := s.B.ansB m.id }, onceM m k, .nil, none⟩) h1 rfl k1⟩
  have hneq : ∀ w, (binOp .neq 1 (.func (.func fn) #[] caps) .nilFunc).run Tryz.prog w = .ok (.bool true) w := fun w => by first | rfl | (simp [binOp, go_sem]; done) | (simp [binOp, go_sem]; rfl)
  generalize stepM s m (.once k) = R at *
  generalize m.id = mi at *
  clear h hk hc hl hrun k0 o0 hbs
  go_enter Tryz.func162, Tryz.ntmps162
  go_wp2_with fail
  refine HR.out.mono ?_
  rintro e w1 ⟨rfl, hp⟩
  have HP := Lib.hid hp
  clear hp c0 HR
  go_wp2_with fail
  go_ret
  exact HP.out
end
end Go.Proofs.YtjdnkhljgnjkcaaGreatDoor

/- A mutator's answers: how they begin. -/
namespace Go.Proofs.YtjdnkhljgnjkcaaGreatDoor
open Go.RowKit
attribute [local go_sem] Oper.semAt_some

section
variable {o : Ow} {w w' : World} {Nt M : Nat}
theorem ntOnce_any (fn : Nat) (caps : Array Value) (w : World) : Calls Tryz.prog 130 #[.func (.func fn) #[] caps] w fun e w' => e = .returned (.func (.func 162) #[] #[ptrV w.heap.size]) ∧ w' = w.alloc (.cells #[.func (.func fn) #[] caps] 1) := by
  have hmf := hmkf
  go_enter Tryz.func130, Tryz.ntmps130
  go_wp2_with fail
  go_ret
  exact ⟨rfl, rfl⟩
/-- What an answer of a kind does, as a closure. -/
def AnsL (o : Ow) (w : World) (M : Nat) (k : Int) (lv : Value) : Prop :=
  if k = 1 then Clo o w 133 [([ptrV M], 30)] lv
  else if k = 2 then Clo o w 135 [] lv
  else if k = 3 then Clo o w 136 [([ptrV M], 30)] lv
  else if k = 5 then Clo o w 139 [([ptrV M], 30)] lv
  else Clo o w 140 [([ptrV M], 30)] lv
theorem AnsL.still {k : Int} {lv : Value} (h : AnsL o w M k lv) (kk : Keep none_ w w') : AnsL o w' M k lv := by
  unfold AnsL at h ⊢
  by_cases e1 : k = 1
  · rw [if_pos e1] at h ⊢; exact h.keep kk (fun _ _ f => f)
  rw [if_neg e1] at h ⊢
  by_cases e2 : k = 2
  · rw [if_pos e2] at h ⊢; exact h.keep kk (fun _ _ f => f)
  rw [if_neg e2] at h ⊢
  by_cases e3 : k = 3
  · rw [if_pos e3] at h ⊢; exact h.keep kk (fun _ _ f => f)
  rw [if_neg e3] at h ⊢
  by_cases e5 : k = 5
  · rw [if_pos e5] at h ⊢; exact h.keep kk (fun _ _ f => f)
  rw [if_neg e5] at h ⊢
  exact h.keep kk (fun _ _ f => f)
theorem AnsL.once {k : Int} {lv dv v : Value} (h : AnsL o w M k lv) (h1 : Clo o w 131 [([lv], 1), ([ptrV M], 30)] dv) (h2 : Clo o w 162 [([dv], 1)] v) : MClo o w Nt M (.once k) v := by
  refine ⟨dv, h2, ?_⟩
  unfold AnsL at h
  by_cases e1 : k = 1
  · rw [if_pos e1] at h ⊢; exact ⟨lv, h1, h⟩
  rw [if_neg e1] at h ⊢
  by_cases e2 : k = 2
  · rw [if_pos e2] at h ⊢; exact ⟨lv, h1, h⟩
  rw [if_neg e2] at h ⊢
  by_cases e3 : k = 3
  · rw [if_pos e3] at h ⊢; exact ⟨lv, h1, h⟩
  rw [if_neg e3] at h ⊢
  by_cases e5 : k = 5
  · rw [if_pos e5] at h ⊢; exact ⟨lv, h1, h⟩
  rw [if_neg e5] at h ⊢
  exact ⟨lv, h1, h⟩
set_option maxRecDepth 4000 in
set_option maxHeartbeats 1000000 in
/-- The last step of an answer. -/
theorem mLast_new (hf : Fut o w) (k : Int) (fn : Nat) (caps : Array Value) (hl : AnsL o w M k (.func (.func fn) #[] caps)) (b : Nat) (hb : o b = 0) (kb : Blk w b [ptrV M] 30) : Calls Tryz.prog 129 #[.func (.func fn) #[] caps, .pointer (some ⟨b, 0, none⟩)] w fun e w' => ∃ fn caps, e = .returned (.func (.func fn) #[] caps) ∧ MClo o w' Nt M (.once k) (.func (.func fn) #[] caps) ∧ Keep none_ w w' := by
  have hc := caps_new (o := o) [([.func (.func fn) #[] caps], 1), ([.func (.func 131) #[] #[ptrV w.heap.size, ptrV b]], 1)] w hf
  have HE : Hid (MClo o (allocL w [([.func (.func fn) #[] caps], 1), ([.func (.func 131) #[] #[ptrV w.heap.size, ptrV b]], 1)]) Nt M (.once k) (.func (.func 162) #[] #[ptrV (w.heap.size + 1)]) ∧ Keep none_ w (allocL w [([.func (.func fn) #[] caps], 1), ([.func (.func 131) #[] #[ptrV w.heap.size, ptrV b]], 1)])) := by
    obtain ⟨b0, b1, e, ⟨o0, k0⟩, ⟨o1, k1⟩⟩ := caps2 hc.1
    simp only [idxs, List.cons.injEq] at e
    obtain ⟨rfl, rfl, _⟩ := e
    exact ⟨(hl.still hc.2).once ⟨[w.heap.size, b], rfl, _, _, rfl, o0, k0, _, _, rfl, hb, hc.2.blk kb (fun f => f), rfl⟩ ⟨[w.heap.size + 1], rfl, _, _, rfl, o1, k1, rfl⟩, hc.2⟩
  have hmf := hmkf
  clear hc hl hb kb hf
  go_enter Tryz.func129, Tryz.ntmps129
  go_wp2_with fail
  refine (ntOnce_any _ _ _).mono ?_
  rintro e w1 ⟨rfl, rfl⟩
  simp only [World.size_alloc]
  go_wp2_with fail
  go_ret
  exact ⟨_, _, rfl, HE.out.1, HE.out.2⟩
end
end Go.Proofs.YtjdnkhljgnjkcaaGreatDoor

/- A mutator's answers: answer, but for the ones that log. -/
namespace Go.Proofs.YtjdnkhljgnjkcaaGreatDoor
open Go.RowKit
attribute [local go_sem] Oper.semAt_some

section
variable {o : Ow} {w w' : World} {Nt M : Nat}
set_option maxRecDepth 4000 in
set_option maxHeartbeats 1000000 in
theorem mAnswer_once (hf : Fut o w) (k : Int) (h35 : k ≠ 3 ∧ k ≠ 5) : Calls Tryz.prog 94 #[.pointer (some ⟨M, 0, none⟩), .int .i64 k] w fun e w' => ∃ fn caps, e = .returned (.func (.func fn) #[] caps) ∧ MClo o w' Nt M (.once k) (.func (.func fn) #[] caps) ∧ Keep none_ w w' := by
  obtain ⟨W1, hW1⟩ : ∃ W1, W1 = w.alloc (.cells #[ptrV M] 30) := ⟨_, rfl⟩
  have k1 : Keep none_ w W1 := by rw [hW1]; exact (Keep.refl _ _).alloc _
  have hb1 : Blk W1 w.heap.size [ptrV M] 30 := by rw [hW1]; exact Blk.new w _ _
  have ho : o w.heap.size = 0 := hf _ (Nat.le_refl _)
  have HL : Hid (∀ fn caps, AnsL o W1 M k (.func (.func fn) #[] caps) → Calls Tryz.prog 129 #[.func (.func fn) #[] caps, .pointer (some ⟨w.heap.size, 0, none⟩)] W1 fun e w' => ∃ fn caps, e = .returned (.func (.func fn) #[] caps) ∧ MClo o w' Nt M (.once k) (.func (.func fn) #[] caps) ∧ Keep none_ w w') := fun fn caps hl => by
    refine (mLast_new (Nt := Nt) (hf.keep k1) k fn caps hl w.heap.size ho hb1).mono ?_
    rintro e w' ⟨fn, caps, rfl, h1, h2⟩
    exact ⟨fn, caps, rfl, h1, k1.trans h2⟩
  have HW1 := Lib.hid hW1
  have hmf := hmkf
  have d3 : (k == 3) = false := by simpa using h35.1
  have d5 : (k == 5) = false := by simpa using h35.2
  by_cases e1 : k = 1
  · subst e1
    have HL1 := Lib.hid (HL.out 133 #[.pointer (some ⟨w.heap.size, 0, none⟩)] (by unfold AnsL; rw [if_pos rfl]; exact ⟨[w.heap.size], rfl, _, _, rfl, ho, hb1, rfl⟩))
    clear HL d3 d5 k1 hb1 ho hW1 hf h35
    go_enter Tryz.func94, Tryz.ntmps94
    go_wp2_with fail
    rw [← HW1.out]
    refine HL1.out.mono ?_
    rintro e w2 ⟨fn, caps, rfl, h1, h2⟩
    have HE := Lib.hid (And.intro h1 h2)
    clear h1 h2
    go_wp2_with fail
    go_ret
    exact ⟨_, _, rfl, HE.out.1, HE.out.2⟩
  have d1 : (k == 1) = false := by simpa using e1
  by_cases e2 : k = 2
  · subst e2
    have HL1 := Lib.hid (HL.out 135 #[] (by unfold AnsL; rw [if_neg (by decide), if_pos rfl]; exact ⟨[], rfl, rfl⟩))
    clear HL d3 d5 d1 k1 hb1 ho hW1 hf h35 e1
    go_enter Tryz.func94, Tryz.ntmps94
    go_wp2_with fail
    rw [← HW1.out]
    refine HL1.out.mono ?_
    rintro e w2 ⟨fn, caps, rfl, h1, h2⟩
    have HE := Lib.hid (And.intro h1 h2)
    clear h1 h2
    go_wp2_with fail
    go_ret
    exact ⟨_, _, rfl, HE.out.1, HE.out.2⟩
  have d2 : (k == 2) = false := by simpa using e2
  have HL1 := Lib.hid (HL.out 140 #[.pointer (some ⟨w.heap.size, 0, none⟩)] (by unfold AnsL; rw [if_neg e1, if_neg e2, if_neg h35.1, if_neg h35.2]; exact ⟨[w.heap.size], rfl, _, _, rfl, ho, hb1, rfl⟩))
  clear HL k1 hb1 ho hW1 hf h35 e1 e2
  go_enter Tryz.func94, Tryz.ntmps94
  go_wp2_with fail
  rw [← HW1.out]
  refine HL1.out.mono ?_
  rintro e w2 ⟨fn, caps, rfl, h1, h2⟩
  have HE := Lib.hid (And.intro h1 h2)
  clear h1 h2
  go_wp2_with fail
  go_ret
  exact ⟨_, _, rfl, HE.out.1, HE.out.2⟩
end
end Go.Proofs.YtjdnkhljgnjkcaaGreatDoor

/- A mutator's answers: the one that pours. -/
namespace Go.Proofs.YtjdnkhljgnjkcaaGreatDoor
open Go.RowKit
attribute [local go_sem] Oper.semAt_some

section
variable {o : Ow} {w w' : World} {G : Geo} {g : MG} {s : Sh} {m : MS} {nv : Value} {ev : Option Ev}
theorem pourD_fun {c : Nat} {t : MD} (h : funD t = true) : funD (m.pourD c t) = true := by
  unfold MS.pourD
  split
  · exact h
  · rfl
set_option maxRecDepth 4000 in
set_option maxHeartbeats 4000000 in
theorem mAnswer_pour (h : MAt o w G g s m ev nv) : Calls Tryz.prog 94 #[.pointer (some ⟨g.M, 0, none⟩), .int .i64 5] w fun e w' => ∃ fn caps, e = .returned (.func (.func fn) #[] caps) ∧ MClo o w' g.Nt g.M (m.pourD m.want (.once 5)) (.func (.func fn) #[] caps) ∧ Keep none_ w w' := by
  obtain ⟨W1, hW1⟩ : ∃ W1, W1 = w.alloc (.cells #[ptrV g.M] 30) := ⟨_, rfl⟩
  have k1 : Keep none_ w W1 := by rw [hW1]; exact (Keep.refl _ _).alloc _
  have hb1 : Blk W1 w.heap.size [ptrV g.M] 30 := by rw [hW1]; exact Blk.new w _ _
  have ho : o w.heap.size = 0 := h.sh.fut _ (Nat.le_refl _)
  have h1 := h.still k1
  have c0 : W1.cell? ⟨w.heap.size, 0, none⟩ = some (.pointer (some ⟨g.M, 0, none⟩)) := hb1.cell 0 rfl
  have c11 := h1.c11
  have c14 := h1.c14
  have hkd : Keep none_ W1 W1.drew := (Keep.refl none_ W1).drew
  have HL : Hid (Calls Tryz.prog 129 #[.func (.func 139) #[] #[.pointer (some ⟨w.heap.size, 0, none⟩)], .pointer (some ⟨w.heap.size, 0, none⟩)] W1.drew fun e w' => ∃ fn caps, e = .returned (.func (.func fn) #[] caps) ∧ (w'.cell? ⟨w.heap.size, 0, none⟩ = some (.pointer (some ⟨g.M, 0, none⟩)) ∧ w'.cell? ⟨g.M, 11, none⟩ = some (.pointer (some ⟨g.Nt, 0, none⟩)) ∧ w'.cell? ⟨g.M, 14, none⟩ = some (.int .i64 (m.want : Int))) ∧
      Hid (Calls Tryz.prog 138 #[.pointer (some ⟨g.Nt, 0, none⟩), .int .i64 (m.want : Int), .func (.func fn) #[] caps] w' fun e w2 => ∃ fn caps, e = .returned (.func (.func fn) #[] caps) ∧ (w2.cell? ⟨w.heap.size, 0, none⟩ = some (.pointer (some ⟨g.M, 0, none⟩)) ∧ w2.cell? ⟨g.M, 11, none⟩ = some (.pointer (some ⟨g.Nt, 0, none⟩)) ∧ w2.cell? ⟨g.M, 14, none⟩ = some (.int .i64 (m.want : Int))) ∧ MClo o w2 g.Nt g.M (m.pourD m.want (.once 5)) (.func (.func fn) #[] caps) ∧ Keep none_ w w2)) := by
    refine (mLast_new (Nt := g.Nt) (h1.sh.fut.keep hkd) 5 139 #[.pointer (some ⟨w.heap.size, 0, none⟩)] (by unfold AnsL; rw [if_neg (by decide), if_neg (by decide), if_neg (by decide), if_pos rfl]; exact ⟨[w.heap.size], rfl, _, _, rfl, ho, hkd.blk hb1 (fun f => f), rfl⟩) w.heap.size ho (hkd.blk hb1 (fun f => f))).mono ?_
    rintro e w2 ⟨fn, caps, rfl, h2, k2⟩
    have k12 := hkd.trans k2
    have hM2 := h1.still k12
    refine ⟨fn, caps, rfl, ⟨k12.still c0, k12.still c11, k12.still c14⟩, ?_⟩
    refine (ntPour_any hM2 m.want (.once 5) _ h2).mono ?_
    rintro e w3 ⟨nv3, rfl, h3, k3⟩
    obtain ⟨fn3, caps3, rfl⟩ := h3.fun_ (pourD_fun rfl)
    have k13 := k12.trans k3
    exact ⟨fn3, caps3, rfl, ⟨k13.still c0, k13.still c11, k13.still c14⟩, h3, k1.trans k13⟩
  have HW1 := Lib.hid hW1
  have hmf := hmkf
  generalize m.pourD m.want (.once 5) = d at *
  generalize m.want = mw at *
  clear h h1 hW1 k1 hb1 ho hkd
  go_enter Tryz.func94, Tryz.ntmps94
  go_wp2_with fail
  rw [← HW1.out]
  go_region_held3 (fun w' => w'.cell? ⟨w.heap.size, 0, none⟩ = some (.pointer (some ⟨g.M, 0, none⟩)) ∧ w'.cell? ⟨g.M, 11, none⟩ = some (.pointer (some ⟨g.Nt, 0, none⟩)) ∧ w'.cell? ⟨g.M, 14, none⟩ = some (.int .i64 (mw : Int)))
    (first | exact ⟨c0, c11, c14⟩ | exact h5.out | exact h6.out | fail "SFAIL")
    (first
      | (refine HL.out.mono ?_
         rintro e w5 ⟨fn, caps, rfl, h5', HFi⟩
         have h5 := Lib.hid h5'
         clear h5')
      | (refine HFi.out.mono ?_
         rintro e w6 ⟨fn6, caps6, rfl, h6', hp, hk⟩
         have h6 := Lib.hid h6'
         have HP := Lib.hid (And.intro hp hk)
         clear h6' hp hk)
      | fail "CFAIL")
  clear HL HFi c0 c11 c14 h5 h6
  go_wp2_with fail
  go_ret
  exact ⟨_, _, rfl, HP.out.1, HP.out.2⟩
end
end Go.Proofs.YtjdnkhljgnjkcaaGreatDoor

/- slices.Backward of a slice of numbers. -/
namespace Go.Proofs.YtjdnkhljgnjkcaaGreatDoor
open Go.RowKit
attribute [local go_sem] Oper.semAt_some

/-- Numbers with their places, from the last one on. -/
def backL (xs : List Nat) : List (Nat × Nat) := (List.range xs.length).map fun j => (xs.length - 1 - j, xs.getD (xs.length - 1 - j) 0)
theorem backL_len (xs : List Nat) : (backL xs).length = xs.length := by simp [backL]
theorem backL_at {xs : List Nat} {j : Nat} (h : j < xs.length) : (backL xs)[j]? = some (xs.length - 1 - j, xs.getD (xs.length - 1 - j) 0) := by simp [backL, h]
def backG (pB X : Nat) : Nat → Prop := fun i => i = pB ∨ i = X
theorem bwNew_any (a : Option Addr) (n c : Nat) (w : World) : Calls Tryz.prog 104 #[.slice a n c] w fun e w' => e = .returned (.func (.func 148) #[] #[.pointer (some ⟨w.heap.size, 0, none⟩)]) ∧ w' = w.alloc (.cells #[.slice a n c] 40) := by
  have hmf : ∀ (fn : Fn) (first cap : Array Value) (w : World), (Instr.makeFunc fn first cap).run Tryz.prog w = .ok (.func fn first cap) w := fun _ _ _ _ => rfl
  go_enter Tryz.func104, Tryz.ntmps104
  go_wp2_with fail
  go_ret
  exact ⟨rfl, rfl⟩
set_option maxRecDepth 100000 in
set_option maxHeartbeats 1000000 in
theorem back_seq (xs : List Nat) (pB X : Nat) (hn : xs.length ≤ 64) (m : Nat) (w : World) (hbp : Blk w pB [.slice (some ⟨X, 0, none⟩) xs.length xs.length] 40) (hbx : Blk w X (tabV xs) 3) :
    SeqL Fence.wide m Tryz.prog 148 #[.pointer (some ⟨pB, 0, none⟩)] (backL xs) EncS (backG pB X) w := by
  intro l J Jx W hW hJ hJx hY h0
  have hbp1 := hW.blk hbp (fun f => f)
  have hbx1 := hW.blk hbx (fun f => f)
  have hc0 := hbp1.cell 0 (v := .slice (some ⟨X, 0, none⟩) xs.length xs.length) rfl
  have HLEN := Lib.hid (backL_len xs)
  have HAT : Hid (∀ j q, j + q + 1 = xs.length → (backL xs)[j]? = some (q, xs.getD q 0)) := fun j q e => by
    rw [backL_at (by omega), show xs.length - 1 - j = q by omega]
  have HV : Hid (∀ q wr, q < xs.length → Blk wr X (tabV xs) 3 → wr.cell? ⟨X, q, none⟩ = some (.int .i64 ((xs.getD q 0 : Nat) : Int))) := fun q wr hq hb => hb.cell q (tabV_at hq)
  have hnI : (xs.length : Int) ≤ 64 := by omega
  have hw0 : IntKind.i64.wrap ((xs.length : Int) - 1) = (xs.length : Int) - 1 := IntWalk.i64_in _ (by omega)
  generalize backL xs = L at *
  obtain ⟨tv, htv⟩ : ∃ tv, tv = tabV xs := ⟨_, rfl⟩
  rw [← htv] at hbx1 HV
  obtain ⟨at_, hat⟩ : ∃ f : Nat → Nat, f = fun q => xs.getD q 0 := ⟨_, rfl⟩
  have HAT2 : Hid (∀ j q, j + q + 1 = xs.length → L[j]? = some (q, at_ q)) := fun j q e => by rw [hat]; exact HAT.out j q e
  have HV2 : Hid (∀ q wr, q < xs.length → Blk wr X tv 3 → wr.cell? ⟨X, q, none⟩ = some (.int .i64 ((at_ q : Nat) : Int))) := fun q wr h1 h2 => by rw [hat]; exact HV.out q wr h1 h2
  clear HAT HV hat htv hbx hbp
  generalize xs.length = n at *
  refine callsIn_of_wp Tryz.func148 rfl trivial ?_ rfl
  simp only [Tryz.ntmps148, List.size_toArray, List.length_cons, List.length_nil, Nat.reduceAdd, Nat.reduceSub, Array.replicate_succ, Array.replicate_zero, List.push_toArray, List.append_toArray, List.nil_append, List.cons_append]
  gi_wp2_with fail
  gi_loopw [3] (fun v wr => ∃ (j : Nat) (i : Int), j ≤ n ∧ i = (n : Int) - 1 - j ∧ v = .int .i64 i ∧ J j wr ∧ Holds (backG pB X) W wr) (fun v _ => (intOf v + 1).toNat)
  case atStart => exact ⟨0, _, by omega, by omega, rfl, h0, Holds.refl _ _⟩
  case round =>
    obtain ⟨j, i, hj, hi, rfl, hJj, hH⟩ := hrel
    have b1 := hH.blk (.inl rfl) hbp1
    have b2 := hH.blk (.inr rfl) hbx1
    have c1 := b1.cell 0 (v := .slice (some ⟨X, 0, none⟩) n n) rfl
    by_cases hlt : j < n
    · obtain ⟨q, rfl⟩ : ∃ q : Nat, i = (q : Int) := ⟨i.toNat, by omega⟩
      have hq : j + q + 1 = n := by omega
      have hqn : q < n := by omega
      have hq0 : (0 : Int) ≤ (q : Int) := by omega
      have hqI : (q : Int) < (n : Int) := by omega
      have c2 := HV2.out q wr hqn b2
      have hL := HAT2.out j q hq
      have hwq : IntKind.i64.wrap ((q : Int) - 1) = (q : Int) - 1 := IntWalk.i64_in _ (by omega)
      generalize at_ q = x at *
      have HY := Lib.hid hY
      have HJ := Lib.hid hJj
      have HQ := Lib.hid hq
      clear hY hJj hi hq
      obtain ⟨fn, tmps, assign, body, hy, hR⟩ := HY.out j (q, x) #[.int .i64 (q : Int), .int .i64 (x : Int)] wr hL HJ.out rfl
      gi_wp2_with fail
      refine ⟨fun h => (by cases h), hR.mono ?_⟩
      rintro e W' (⟨rfl, hJ', hk⟩ | ⟨rfl, hJx'⟩)
      · gi_wp2_with fail
        go_roundw
        case rel => exact ⟨j + 1, (q : Int) - 1, by omega, by have := HQ.out; omega, by go_num, hJ', hH.trans hk⟩
        case measure => simp [intOf] <;> omega
      · gi_wp2_with fail
        refine bodyPost_ret (results_none rfl _ _ _) rfl ?_
        exact ⟨⟨_, rfl⟩, .inr ⟨j + 1, by rw [HLEN.out]; omega, hJx'⟩⟩
    · clear hY
      obtain rfl : i = -1 := by omega
      have HJE : Hid (j = n) := by unfold Hid; omega
      clear hi
      gi_wp2_with fail
      go_end0
      exact ⟨⟨_, rfl⟩, .inl (by rw [HLEN.out, ← HJE.out]; exact hJj)⟩
end Go.Proofs.YtjdnkhljgnjkcaaGreatDoor

/- Closures keep their boxes, wherever the boxes that nobody writes are the same. -/
namespace Go.Proofs.YtjdnkhljgnjkcaaGreatDoor
open Go.RowKit

/-- The boxes that nobody writes are the same. -/
def SameB (o o' : Ow) (w w' : World) : Prop := ∀ b cs T, o b = 0 → Blk w b cs T → o' b = 0 ∧ Blk w' b cs T
theorem Caps.gen {o o' : Ow} {w w' : World} (k : SameB o o' w w') : ∀ {l : List (List Value × TypeId)} {bs : List Nat}, Caps o w l bs → Caps o' w' l bs
  | [], _, h => h
  | (cs, T) :: l, bs, h => by
    obtain ⟨b, r, e, h1, h2, h3⟩ := h
    obtain ⟨g1, g2⟩ := k b cs T h1 h2
    exact ⟨b, r, e, g1, g2, Caps.gen k h3⟩
theorem Clo.gen {o o' : Ow} {w w' : World} {fn : Nat} {l : List (List Value × TypeId)} {v : Value} (h : Clo o w fn l v) (k : SameB o o' w w') : Clo o' w' fn l v := by
  obtain ⟨bs, e, hc⟩ := h
  exact ⟨bs, e, hc.gen k⟩
theorem RowO.gen {o o' : Ow} {w w' : World} {T : TypeId} {v : Value} {xs : List Value} (h : RowO o w T v xs) (k : SameB o o' w w') : RowO o' w' T v xs := by
  obtain ⟨a, c, rfl, hl, hm, hc⟩ := h
  refine ⟨a, c, rfl, hl, hm, fun h0 => ?_⟩
  obtain ⟨b, off, cs, e, h0, hb, hj⟩ := hc h0
  obtain ⟨g1, g2⟩ := k b cs T h0 hb
  exact ⟨b, off, cs, e, g1, g2, hj⟩
theorem RdClo.gen {o o' : Ow} {w w' : World} {M : Nat} {rd : RD} {v : Value} (h : RdClo o w M rd v) (k : SameB o o' w w') : RdClo o' w' M rd v := by
  cases rd with
  | field base f x => obtain ⟨op, e, h1⟩ := h; exact ⟨op, e, h1.gen k⟩
  | cell i x => obtain ⟨op, e, h1⟩ := h; exact ⟨op, e, h1.gen k⟩
theorem WrClo.gen {o o' : Ow} {w w' : World} {M : Nat} {rd : RD} {v : Value} (h : WrClo o w M rd v) (k : SameB o o' w w') : WrClo o' w' M rd v := by
  cases rd with
  | field base f x => obtain ⟨op, e, h1⟩ := h; exact ⟨op, e, h1.gen k⟩
  | cell i x => obtain ⟨op, e, h1⟩ := h; exact ⟨op, e, h1.gen k⟩
theorem LastClo.gen {o o' : Ow} {w w' : World} {M : Nat} {rd : RD} {v : Value} (h : LastClo o w M rd v) (k : SameB o o' w w') : LastClo o' w' M rd v := by
  obtain ⟨wv, h1, h2⟩ := h
  exact ⟨wv, h1.gen k, h2.gen k⟩
theorem MClo.gen {o o' : Ow} {w w' : World} {Nt M : Nat} (k : SameB o o' w w') : ∀ {d : MD} {v : Value}, MClo o w Nt M d v → MClo o' w' Nt M d v := by
  intro d
  induction d with
  | nil => intro v h; exact h
  | start op => intro v h; exact Clo.gen h k
  | once q =>
    intro v h
    obtain ⟨dv, h1, h2⟩ := h
    refine ⟨dv, h1.gen k, ?_⟩
    revert h2
    split
    · rintro ⟨lv, h2, h3⟩; exact ⟨lv, h2.gen k, h3.gen k⟩
    split
    · rintro ⟨lv, h2, h3⟩; exact ⟨lv, h2.gen k, h3.gen k⟩
    split
    · rintro ⟨lv, h2, h3⟩; exact ⟨lv, h2.gen k, h3.gen k⟩
    split
    · rintro ⟨lv, h2, h3⟩; exact ⟨lv, h2.gen k, h3.gen k⟩
    · rintro ⟨lv, h2, h3⟩; exact ⟨lv, h2.gen k, h3.gen k⟩
  | note x c t ih =>
    intro v h
    obtain ⟨tv, av, h1, h2, h3⟩ := h
    exact ⟨tv, av, ih h1, h2.gen k, h3.gen k⟩
  | add x t ih => intro v h; obtain ⟨tv, h1, h2⟩ := h; exact ⟨tv, ih h1, h2.gen k⟩
  | pour c t ih => intro v h; obtain ⟨tv, h1, h2⟩ := h; exact ⟨tv, ih h1, h2.gen k⟩
  | paint c f t ih => intro v h; obtain ⟨tv, h1, h2⟩ := h; exact ⟨tv, ih h1, h2.gen k⟩
  | raise t ih => intro v h; obtain ⟨tv, h1, h2⟩ := h; exact ⟨tv, ih h1, h2.gen k⟩
  | field base f t ih => intro v h; obtain ⟨tv, h1, h2⟩ := h; exact ⟨tv, ih h1, h2.gen k⟩
  | load op base => intro v h; exact Clo.gen h k
  | get op => intro v h; exact Clo.gen h k
  | lay x rd =>
    intro v h
    obtain ⟨rv, lv, h1, h2, h3⟩ := h
    exact ⟨rv, lv, h1.gen k, h2.gen k, h3.gen k⟩
  | last rd => intro v h; exact LastClo.gen h k
  | alloc op q => intro v h; exact Clo.gen h k
  | assign op q => intro v h; exact Clo.gen h k
  | carve op all =>
    intro v h
    obtain ⟨h1, av, h2, h3⟩ := h
    exact ⟨h1, av, h2.gen k, h3.gen k⟩
  | claim op q => intro v h; exact Clo.gen h k
  | again op q => intro v h; exact Clo.gen h k
  | sweep sl c t => intro v h; exact h.elim
  | fill op a => intro v h; exact Clo.gen h k
  | zero op a i => intro v h; exact Clo.gen h k
end Go.Proofs.YtjdnkhljgnjkcaaGreatDoor
