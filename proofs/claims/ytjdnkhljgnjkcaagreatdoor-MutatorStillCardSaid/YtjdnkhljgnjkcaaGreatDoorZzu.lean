/- Parts of a walk, put together by a small program of mine from texts of their own: MutS7 MutS8 MutS9 MutS10 OfX. -/
import Derived.Test.YtjdnkhljgnjkcaaGreatDoorZzt
import Derived.Deep.RegionHeld3
import Derived.Test.YtjdnkhljgnjkcaaGreatDoorZzb
import Derived.Test.YtjdnkhljgnjkcaaGreatDoorZzh
/- A mutator's steps: claim, sweep. -/
namespace Go.Proofs.YtjdnkhljgnjkcaaGreatDoor
open Go.RowKit
attribute [local go_sem] Oper.semAt_some

section
variable {o : Ow} {w w' : World} {G : Geo} {g : MG} {s : Sh} {m : MS} {nv : Value}
set_option maxRecDepth 4000 in
set_option maxHeartbeats 4000000 in
theorem stClaim_any (h : MAt o w G g s m none nv) (op : OpR) (k : Nat) (v : Value) (hv : MClo o w g.Nt g.M (.claim op k) v) (hk4 : k < 4) (hcol : m.color < 2) (hop : s.Q.opn ≤ 1000000000) (hq : ∀ x ∈ s.Q.rw k, 0 ≤ x ∧ s.H.K.getD x.toNat 0 ≠ 0) : ∃ bs : List Nat, v = .func (.func 220) #[] (bs.map ptrV).toArray ∧ Calls Tryz.prog 220 (bs.map ptrV).toArray w (StepPost o w G g nv m.id (stepM s m (.claim op k))) := by
  obtain ⟨bs, hbs, hcap⟩ := hv
  refine ⟨bs, hbs, ?_⟩
  obtain ⟨b0, b1, b2, rfl, ⟨o0, k0⟩, ⟨o1, k1⟩, ⟨o2, k2⟩⟩ := caps3 hcap
  have HC := Lib.hid (mClaim_post h op k hk4 hcol hop hq)
  obtain ⟨ok, oa, ob, oc⟩ := op
  have c0 : w.cell? ⟨b0, 0, none⟩ = some (.pointer (some ⟨g.M, 0, none⟩)) := k0.cell 0 rfl
  have p0 := k1.cell 0 rfl; have p1 := k1.cell 1 rfl; have p2 := k1.cell 2 rfl; have p3 := k1.cell 3 rfl
  have c2 := k2.cell 0 rfl
  show Calls Tryz.prog 220 #[.pointer (some ⟨b0, 0, none⟩), .pointer (some ⟨b1, 0, none⟩), .pointer (some ⟨b2, 0, none⟩)] w _
  simp only [OpR.cells] at HC
  generalize stepM s m (.claim ⟨ok, oa, ob, oc⟩ k) = R at *
  generalize m.id = mi at *
  clear h hcap hbs k0 k1 k2 o0 o1 o2 hq hop hcol
  go_enter Tryz.func220, Tryz.ntmps220
  go_wp2_with fail
  refine HC.out.mono ?_
  rintro e w2 ⟨fn, caps, rfl, hp⟩
  have HP := Lib.hid hp
  clear hp c0 p0 p1 p2 p3 c2
  go_wp2_with fail
  go_ret
  exact HP.out
theorem doneQ_if (q : Qu) : (if q.opn = 0 then q else q.doneQ) = q.doneQ := by
  split
  · rename_i h
    obtain ⟨r, n⟩ := q
    simp only at h
    subst h
    rfl
  · rfl
set_option maxRecDepth 4000 in
set_option maxHeartbeats 4000000 in
theorem stSweep_any (h : MAt o w G g s m none nv) (sl : List Nat) (c : Nat) (t : MD) (v : Value) (hv : NClo o w (G.D 0) (g.Nt, g.M) (30 + m.id) (.sweep sl c t) v) (hop : s.Q.opn ≤ 1000000000) : ∃ bs : List Nat, v = .func (.func 233) #[] (bs.map ptrV).toArray ∧ Calls Tryz.prog 233 (bs.map ptrV).toArray w (StepPost o w G g nv m.id (stepM s m (.sweep sl c t))) := by
  obtain ⟨cv, tv, hcur, ht, bs, hbs, hcap⟩ := hv
  refine ⟨bs, hbs, ?_⟩
  obtain ⟨b0, b1, b2, rfl, ⟨o0, k0⟩, ⟨o1, k1⟩, ⟨o2, k2⟩⟩ := caps3 hcap
  have c0 := k0.cell 0 rfl
  have c1 : w.cell? ⟨b1, 0, none⟩ = some (.pointer (some ⟨g.M, 0, none⟩)) := k1.cell 0 rfl
  have c2 := k2.cell 0 rfl
  have m0 := h.m0
  have s2 := h.s0.2.2
  have hform := ht.form
  have hcf : (cv = .pointer none) ∨ ∃ C, cv = ptrV C := by
    rcases hcur with ⟨h, _⟩ | ⟨C, _, _, h, _⟩
    · exact .inl h
    · exact .inr ⟨C, h⟩
  show Calls Tryz.prog 233 #[.pointer (some ⟨b0, 0, none⟩), .pointer (some ⟨b1, 0, none⟩), .pointer (some ⟨b2, 0, none⟩)] w _
  cases sl with
  | nil =>
    have HDn : Hid (Calls Tryz.prog 234 #[cv] w fun e w' => e = .returned (.bool true) ∧ w = w') := curDone_any hcur
    have e1 : stepM s m (.sweep [] c t) = ⟨{ s with Q := s.Q.doneQ }, m, t, none⟩ := by simp only [stepM]; rw [doneQ_if]
    have HF : Hid (Calls Tryz.prog 235 #[.pointer (some ⟨G.Q, 0, none⟩)] w fun e w' => (∃ er : Int, e = .returned (.int .i64 er)) ∧ StepPost o w G g nv m.id (stepM s m (.sweep [] c t)) (.returned tv) w' ∧ w'.cell? ⟨b2, 0, none⟩ = some tv) := by
      refine (qDone_any G.Q s.Q w h.sh.queue hop).mono ?_
      rintro e w' ⟨rfl, g1, g2⟩
      obtain ⟨h1, kk⟩ := h.setQueue g2 g1
      refine ⟨⟨_, rfl⟩, ?_, (k2.keepO kk o2 (stepI_0 _)).cell 0 rfl⟩
      rw [e1]
      exact StepPost.same h1 (ht.keepO kk (stepI_0 _)) kk
    clear e1
    generalize stepM s m (.sweep [] c t) = R at *
    generalize m.id = mi at *
    clear h hcap hbs k0 k1 k2 o0 o1 o2 hop hcur ht
    rcases hform with rfl | ⟨fn, caps, rfl⟩ <;> rcases hcf with rfl | ⟨C, rfl⟩
    all_goals
      go_enter Tryz.func233, Tryz.ntmps233
      go_wp2_with fail
      refine HDn.out.mono ?_
      rintro e w1 ⟨rfl, rfl⟩
      clear HDn
      go_wp2_with fail
      refine HF.out.mono ?_
      rintro e w1 ⟨⟨er, rfl⟩, g1, g2⟩
      have HP := Lib.hid g1
      clear g1 c0 c1 c2 m0 s2 HF
      go_wp2_with fail
      go_ret
      exact HP.out
  | cons a r =>
    have HDn : Hid (Calls Tryz.prog 234 #[cv] w fun e w' => e = .returned (.bool false) ∧ w = w') := curDone_any hcur
    have HS : Hid (Calls Tryz.prog 236 #[cv] w fun e w' => e = .returned (.tuple #[.int .i64 ((if s.frees c a then a else 0 : Nat) : Int), .bool (s.frees c a)]) ∧ MAt o w' G g { s with H := if s.frees c a then s.H.freeP a else s.H } m none nv ∧ CurAt o w' (G.D 0) (30 + m.id) cv r c ∧ Keep (In o (stepI m.id)) w w' ∧ Blk w' b0 [cv] 239 ∧ Blk w' b1 [ptrV g.M] 30 ∧ Blk w' b2 [tv] 103) := by
      refine (curStep_any h.sh hcur (by omega) h.box8).mono ?_
      rintro e w' ⟨rfl, g1, g2, g3⟩
      have km : Keep (In o (stepI m.id)) w w' := g3.moreO (by simp [stepI])
      refine ⟨rfl, ?_, g2, km, k0.keepO km o0 (stepI_0 _), k1.keepO km o1 (stepI_0 _), k2.keepO km o2 (stepI_0 _)⟩
      refine h.share g3 (by simp <;> omega) (by simp <;> omega) g1 rfl ?_
      show (if s.frees c a then s.H.freeP a else s.H).c = s.H.c
      split
      · unfold HS.freeP
        split
        · rw [freeP_c]; rfl
        · rfl
      · rfl
    have HZ : Hid (∀ W ev, MAt o W G g { s with H := if s.frees c a then s.H.freeP a else s.H } m ev nv → stepM s m (.sweep (a :: r) c t) = ⟨{ s with H := if s.frees c a then s.H.freeP a else s.H }, m, .sweep r c t, ev⟩ → CurAt o W (G.D 0) (30 + m.id) cv r c → Keep (In o (stepI m.id)) w W → Calls Tryz.prog 230 #[.pointer (some ⟨g.M, 0, none⟩), cv, tv] W fun e w' => ∃ fn caps, e = .returned (.func (.func fn) #[] caps) ∧ StepPost o w G g nv m.id (stepM s m (.sweep (a :: r) c t)) (.returned (.func (.func fn) #[] caps)) w') := fun W ev hW e1 hcW hk => by
      refine (mSweep_new hW.sh.fut g.Nt g.M hcW (ht.keepO hk (stepI_0 _))).mono ?_
      rintro e w4 ⟨fn, caps, rfl, hn4, k4⟩
      refine ⟨fn, caps, rfl, o, _, rfl, OExt.refl _ _, ?_, ?_, hk.trans k4.noneO⟩
      · rw [e1]; exact hW.still k4
      · rw [e1]; exact hn4
    by_cases hfr : s.frees c a = true
    · have e1 : stepM s m (.sweep (a :: r) c t) = ⟨{ s with H := s.H.freeP a }, m, .sweep r c t, some ⟨m.id, 5, 0, 0, a⟩⟩ := by
        simp only [stepM]
        unfold Sh.frees at hfr
        rw [if_neg (by simpa using hfr)]
      rw [hfr, if_pos rfl, if_pos rfl] at HS
      rw [hfr, if_pos rfl] at HZ
      have HT : Hid (∀ W, MAt o W G g { s with H := s.H.freeP a } m none nv → CurAt o W (G.D 0) (30 + m.id) cv r c → Keep (In o (stepI m.id)) w W → Blk W b0 [cv] 239 → Blk W b1 [ptrV g.M] 30 → Blk W b2 [tv] 103 → Calls Tryz.prog 176 #[.pointer (some ⟨g.M, 0, none⟩), .int .i64 5, .int .i64 0, .int .i64 0, .int .i64 (a : Int)] W fun e w' => e = .returned (.tuple #[]) ∧ Blk w' b0 [cv] 239 ∧ Blk w' b1 [ptrV g.M] 30 ∧ Blk w' b2 [tv] 103 ∧ Hid (Calls Tryz.prog 230 #[.pointer (some ⟨g.M, 0, none⟩), cv, tv] w' fun e w' => ∃ fn caps, e = .returned (.func (.func fn) #[] caps) ∧ StepPost o w G g nv m.id (stepM s m (.sweep (a :: r) c t)) (.returned (.func (.func fn) #[] caps)) w')) := fun W hW hcW hk g0 g1 g2 => by
        refine (mTell_any hW 5 0 0 a).mono ?_
        rintro e w' ⟨rfl, h1, kk⟩
        have km : Keep (In o (stepI m.id)) w w' := hk.trans (kk.moreO (by simp [stepI]))
        exact ⟨rfl, g0.keepO kk o0 (by simp <;> omega), g1.keepO kk o1 (by simp <;> omega), g2.keepO kk o2 (by simp <;> omega), HZ.out w' _ h1 e1 (hcW.keepO kk (by simp <;> omega) (by simp <;> omega)) km⟩
      clear e1
      generalize stepM s m (.sweep (a :: r) c t) = R at *
      generalize { s with H := s.H.freeP a } = s' at *
      generalize 30 + m.id = qq at *
      generalize m.id = mi at *
      clear h hcap hbs k0 k1 k2 o0 o1 o2 hop hcur ht HZ hfr
      rcases hform with rfl | ⟨fn, caps, rfl⟩ <;> rcases hcf with rfl | ⟨C, rfl⟩
      all_goals
        go_enter Tryz.func233, Tryz.ntmps233
        go_wp2_with fail
        refine HDn.out.mono ?_
        rintro e w1 ⟨rfl, rfl⟩
        clear HDn
        go_wp2_with fail
        refine HS.out.mono ?_
        rintro e w1 ⟨rfl, g1, g2, g3, g4, g5, g6⟩
        have HT1 := Lib.hid (HT.out w1 g1 g2 g3 g4 g5 g6)
        have c1' : w1.cell? ⟨b1, 0, none⟩ = some (.pointer (some ⟨g.M, 0, none⟩)) := g5.cell 0 rfl
        clear g1 g2 g3 g4 g5 g6 c0 c1 c2 m0 s2 HT HS
        go_wp2_with fail
        refine HT1.out.mono ?_
        rintro e w2 ⟨rfl, g0, g1, g2, g3⟩
        have c0 := g0.cell 0 rfl
        have c1 : w2.cell? ⟨b1, 0, none⟩ = some (.pointer (some ⟨g.M, 0, none⟩)) := g1.cell 0 rfl
        have c2 := g2.cell 0 rfl
        clear g0 g1 g2 c1' HT1
        go_wp2_with fail
        refine g3.out.mono ?_
        rintro e w3 ⟨fn, caps, rfl, hp⟩
        have HP := Lib.hid hp
        clear hp c0 c1 c2 g3
        go_wp2_with fail
        go_ret
        exact HP.out
    · have hff : s.frees c a = false := by simpa using hfr
      have e1 : stepM s m (.sweep (a :: r) c t) = ⟨{ s with H := s.H }, m, .sweep r c t, none⟩ := by
        simp only [stepM]
        unfold Sh.frees at hff
        rw [if_pos (by cases hb : s.H.bn a <;> simp_all)]
      rw [hff, if_neg (by decide), if_neg (by decide)] at HS
      rw [hff, if_neg (by decide)] at HZ
      have HZ2 : Hid (∀ W, MAt o W G g { s with H := s.H } m none nv → CurAt o W (G.D 0) (30 + m.id) cv r c → Keep (In o (stepI m.id)) w W → Calls Tryz.prog 230 #[.pointer (some ⟨g.M, 0, none⟩), cv, tv] W fun e w' => ∃ fn caps, e = .returned (.func (.func fn) #[] caps) ∧ StepPost o w G g nv m.id (stepM s m (.sweep (a :: r) c t)) (.returned (.func (.func fn) #[] caps)) w') := fun W hW hc hk => HZ.out W none hW e1 hc hk
      clear e1
      generalize stepM s m (.sweep (a :: r) c t) = R at *
      generalize 30 + m.id = qq at *
      generalize m.id = mi at *
      clear h hcap hbs k0 k1 k2 o0 o1 o2 hop hcur ht HZ hfr hff
      rcases hform with rfl | ⟨fn, caps, rfl⟩ <;> rcases hcf with rfl | ⟨C, rfl⟩
      all_goals
        go_enter Tryz.func233, Tryz.ntmps233
        go_wp2_with fail
        refine HDn.out.mono ?_
        rintro e w1 ⟨rfl, rfl⟩
        clear HDn
        go_wp2_with fail
        refine HS.out.mono ?_
        rintro e w1 ⟨rfl, g1, g2, g3, g4, g5, g6⟩
        have HT1 := Lib.hid (HZ2.out w1 g1 g2 g3)
        have d0 := g4.cell 0 rfl
        have d1 : w1.cell? ⟨b1, 0, none⟩ = some (.pointer (some ⟨g.M, 0, none⟩)) := g5.cell 0 rfl
        have d2 := g6.cell 0 rfl
        clear g1 g2 g3 g4 g5 g6 c0 c1 c2 m0 s2 HZ2 HS
        go_wp2_with fail
        refine HT1.out.mono ?_
        rintro e w3 ⟨fn, caps, rfl, hp⟩
        have HP := Lib.hid hp
        clear hp d0 d1 d2 HT1
        go_wp2_with fail
        go_ret
        exact HP.out
end
end Go.Proofs.YtjdnkhljgnjkcaaGreatDoor

/- A mutator's steps: what reads a word, what overwrites it; last. -/
namespace Go.Proofs.YtjdnkhljgnjkcaaGreatDoor
open Go.RowKit
attribute [local go_sem] Oper.semAt_some

section
variable {o : Ow} {w w' : World} {G : Geo} {g : MG} {s : Sh} {m : MS} {nv : Value}
set_option maxRecDepth 4000 in
set_option maxHeartbeats 4000000 in
theorem rdRun_any (h : MAt o w G g s m none nv) (rd : RD) (rv : Value) (hv : RdClo o w g.M rd rv) : ∃ fn caps, rv = .func (.func fn) #[] caps ∧ (∀ args w, (callFunc fn args).run Tryz.prog w = .ok (.enter fn args) w) ∧ Calls Tryz.prog fn caps w fun e w' => e = .returned (.int .i64 (rd.read s.H : Int)) ∧ MAt o w' G g s m none nv ∧ Keep (In o (stepI m.id)) w w' := by
  have m0 := h.m0
  have s0 := h.s0.1
  have hkd : Keep none_ w w.drew := (Keep.refl none_ w).drew
  have hd := h.still hkd
  cases rd with
  | field base f x =>
    obtain ⟨⟨ok, oa, ob, oc⟩, hf, bs, rfl, hcap⟩ := hv
    simp only at hf
    subst hf
    obtain ⟨b0, b1, b2, rfl, ⟨o0, k0⟩, ⟨o1, k1⟩, ⟨o2, k2⟩⟩ := caps3 hcap
    refine ⟨_, _, rfl, fun args w => (by simp [callFunc, Tryz.func212, go_sem]; rfl), ?_⟩
    have c0 : w.cell? ⟨b0, 0, none⟩ = some (.pointer (some ⟨g.M, 0, none⟩)) := k0.cell 0 rfl
    have c1 := k1.cell 0 rfl
    have c2 : w.cell? ⟨b2, 2, none⟩ = some (.int .i64 ob) := k2.cell 2 rfl
    show Calls Tryz.prog 212 #[.pointer (some ⟨b0, 0, none⟩), .pointer (some ⟨b1, 0, none⟩), .pointer (some ⟨b2, 0, none⟩)] w _
    have HF : Hid (Calls Tryz.prog 42 #[.pointer (some ⟨G.D 0, 0, none⟩), .int .i64 (base : Int), .int .i64 ob] w.drew fun e w' => (∃ er : Int, e = .returned (.tuple #[.int .i64 (s.H.loadP base ob : Int), .int .i64 er])) ∧ MAt o w' G g s m none nv ∧ Keep (In o (stepI m.id)) w w') := by
      refine (hLoad_any hd.sh.heap base ob).mono ?_
      rintro e w' ⟨rfl, g1, g2⟩
      obtain ⟨h1, kk⟩ := hd.heapSame g2 g1
      exact ⟨⟨_, rfl⟩, h1, hkd.noneO.trans kk⟩
    show Calls Tryz.prog _ _ w fun e w' => e = .returned (.int .i64 (s.H.loadP base ob : Int)) ∧ _
    generalize s.H.loadP base ob = x at *
    generalize m.id = mi at *
    clear h hcap hkd hd k0 k1 k2 o0 o1 o2
    go_enter Tryz.func212, Tryz.ntmps212
    go_wp2_with fail
    refine wp_region_still_mid 10 rfl (by kernel_rfl) (by kernel_rfl) (fun K hK => ?_)
    change wpStill _ _ (World.drew _) _ _ _
    simp only [List.take_succ_cons, List.take_zero, List.drop_succ_cons, List.drop_zero] at hK ⊢
    repeat still_step
    refine wpStill_nil ?_
    change ite _ (Oper.wp _ _ _ _ _ _) _
    go_simp
    refine HF.out.mono ?_
    rintro e w1 ⟨⟨er, rfl⟩, g1, g2⟩
    refine hK _ _ ?_
    clear hK K
    have H1 := Lib.hid g1
    have K1 := Lib.hid g2
    clear g1 g2 c0 c1 c2 m0 s0
    repeat still_step
    refine wpStill_nil ?_
    go_wp2_with fail
    go_ret
    exact ⟨rfl, H1.out, K1.out⟩
  | cell i x =>
    obtain ⟨⟨ok, oa, ob, oc⟩, hf, bs, rfl, hcap⟩ := hv
    simp only at hf
    subst hf
    obtain ⟨b0, b1, rfl, ⟨o0, k0⟩, ⟨o1, k1⟩⟩ := caps2 hcap
    refine ⟨_, _, rfl, fun args w => (by simp [callFunc, Tryz.func216, go_sem]; rfl), ?_⟩
    have c0 : w.cell? ⟨b0, 0, none⟩ = some (.pointer (some ⟨g.M, 0, none⟩)) := k0.cell 0 rfl
    have c1 : w.cell? ⟨b1, 1, none⟩ = some (.int .i64 oa) := k1.cell 1 rfl
    show Calls Tryz.prog 216 #[.pointer (some ⟨b0, 0, none⟩), .pointer (some ⟨b1, 0, none⟩)] w _
    have HF : Hid (Calls Tryz.prog 66 #[.pointer (some ⟨G.D 0, 0, none⟩), .int .i64 oa] w.drew fun e w' => (∃ er : Int, e = .returned (.tuple #[.int .i64 (s.H.cellP oa : Int), .int .i64 er])) ∧ MAt o w' G g s m none nv ∧ Keep (In o (stepI m.id)) w w') := by
      refine (hCell_any hd.sh.heap oa).mono ?_
      rintro e w' ⟨rfl, rfl⟩
      exact ⟨⟨_, rfl⟩, hd, hkd.noneO⟩
    show Calls Tryz.prog _ _ w fun e w' => e = .returned (.int .i64 (s.H.cellP oa : Int)) ∧ _
    generalize s.H.cellP oa = x at *
    generalize m.id = mi at *
    clear h hcap hkd hd k0 k1 o0 o1
    go_enter Tryz.func216, Tryz.ntmps216
    go_wp2_with fail
    refine wp_region_still_mid 9 rfl (by kernel_rfl) (by kernel_rfl) (fun K hK => ?_)
    change wpStill _ _ (World.drew _) _ _ _
    simp only [List.take_succ_cons, List.take_zero, List.drop_succ_cons, List.drop_zero] at hK ⊢
    repeat still_step
    refine wpStill_nil ?_
    change ite _ (Oper.wp _ _ _ _ _ _) _
    go_simp
    refine HF.out.mono ?_
    rintro e w1 ⟨⟨er, rfl⟩, g1, g2⟩
    refine hK _ _ ?_
    clear hK K
    have H1 := Lib.hid g1
    have K1 := Lib.hid g2
    clear g1 g2 c0 c1 m0 s0
    repeat still_step
    refine wpStill_nil ?_
    go_wp2_with fail
    go_ret
    exact ⟨rfl, H1.out, K1.out⟩
theorem rdWrite_c (H : HS) (rd : RD) : (rd.write H).c = H.c := by
  cases rd with
  | field base f v => exact storeP_c _ _ _ _
  | cell i v => exact setP_c _ _ _
set_option maxRecDepth 4000 in
set_option maxHeartbeats 4000000 in
theorem wrRun_any (h : MAt o w G g s m none nv) (rd : RD) (rv : Value) (hv : WrClo o w g.M rd rv) : ∃ fn caps, rv = .func (.func fn) #[] caps ∧ (∀ args w, (callFunc fn args).run Tryz.prog w = .ok (.enter fn args) w) ∧ Calls Tryz.prog fn caps w fun e w' => e = .returned (.tuple #[]) ∧ MAt o w' G g { s with H := rd.write s.H } m none nv ∧ Keep (In o (stepI m.id)) w w' := by
  have m0 := h.m0
  have s0 := h.s0.1
  have hkd : Keep none_ w w.drew := (Keep.refl none_ w).drew
  have hd := h.still hkd
  cases rd with
  | field base f x =>
    obtain ⟨⟨ok, oa, ob, oc⟩, hf, bs, rfl, hcap⟩ := hv
    simp only at hf
    subst hf
    obtain ⟨b0, b1, b2, b3, rfl, ⟨o0, k0⟩, ⟨o1, k1⟩, ⟨o2, k2⟩, ⟨o3, k3⟩⟩ := caps4 hcap
    refine ⟨_, _, rfl, fun args w => (by simp [callFunc, Tryz.func214, go_sem]; rfl), ?_⟩
    have c0 : w.cell? ⟨b0, 0, none⟩ = some (.pointer (some ⟨g.M, 0, none⟩)) := k0.cell 0 rfl
    have c1 := k1.cell 0 rfl
    have c2 : w.cell? ⟨b2, 2, none⟩ = some (.int .i64 ob) := k2.cell 2 rfl
    have c3 := k3.cell 0 rfl
    show Calls Tryz.prog 214 #[.pointer (some ⟨b0, 0, none⟩), .pointer (some ⟨b1, 0, none⟩), .pointer (some ⟨b2, 0, none⟩), .pointer (some ⟨b3, 0, none⟩)] w _
    have HF : Hid (Calls Tryz.prog 64 #[.pointer (some ⟨G.D 0, 0, none⟩), .int .i64 (base : Int), .int .i64 ob, .int .i64 (x : Int)] w.drew fun e w' => (∃ er : Int, e = .returned (.int .i64 er)) ∧ MAt o w' G g { s with H := s.H.storeP base ob x } m none nv ∧ Keep (In o (stepI m.id)) w w') := by
      refine (hStore_any hd.sh.heap base ob x).mono ?_
      rintro e w' ⟨rfl, g1, g2⟩
      obtain ⟨h1, kk⟩ := hd.setHeap g2 g1 (storeP_c _ _ _ _)
      exact ⟨⟨_, rfl⟩, h1, hkd.noneO.trans kk⟩
    show Calls Tryz.prog _ _ w fun e w' => e = .returned (.tuple #[]) ∧ MAt o w' G g { s with H := s.H.storeP base ob x } m none nv ∧ _
    generalize { s with H := s.H.storeP base ob x } = s' at *
    generalize m.id = mi at *
    clear h hcap hkd hd k0 k1 k2 k3 o0 o1 o2 o3
    go_enter Tryz.func214, Tryz.ntmps214
    go_wp2_with fail
    refine wp_region_still_mid 11 rfl (by kernel_rfl) (by kernel_rfl) (fun K hK => ?_)
    change wpStill _ _ (World.drew _) _ _ _
    simp only [List.take_succ_cons, List.take_zero, List.drop_succ_cons, List.drop_zero] at hK ⊢
    repeat still_step
    refine wpStill_nil ?_
    change ite _ (Oper.wp _ _ _ _ _ _) _
    go_simp
    refine HF.out.mono ?_
    rintro e w1 ⟨⟨er, rfl⟩, g1, g2⟩
    refine hK _ _ ?_
    clear hK K
    have H1 := Lib.hid g1
    have K1 := Lib.hid g2
    clear g1 g2 c0 c1 c2 c3 m0 s0
    repeat still_step
    refine wpStill_nil ?_
    go_end0
    exact ⟨rfl, H1.out, K1.out⟩
  | cell i x =>
    obtain ⟨⟨ok, oa, ob, oc⟩, hf, bs, rfl, hcap⟩ := hv
    simp only at hf
    subst hf
    obtain ⟨b0, b1, b2, rfl, ⟨o0, k0⟩, ⟨o1, k1⟩, ⟨o2, k2⟩⟩ := caps3 hcap
    refine ⟨_, _, rfl, fun args w => (by simp [callFunc, Tryz.func217, go_sem]; rfl), ?_⟩
    have c0 : w.cell? ⟨b0, 0, none⟩ = some (.pointer (some ⟨g.M, 0, none⟩)) := k0.cell 0 rfl
    have c1 : w.cell? ⟨b1, 1, none⟩ = some (.int .i64 oa) := k1.cell 1 rfl
    have c2 := k2.cell 0 rfl
    show Calls Tryz.prog 217 #[.pointer (some ⟨b0, 0, none⟩), .pointer (some ⟨b1, 0, none⟩), .pointer (some ⟨b2, 0, none⟩)] w _
    have HF : Hid (Calls Tryz.prog 26 #[.pointer (some ⟨G.D 0, 0, none⟩), .int .i64 oa, .int .i64 (x : Int)] w.drew fun e w' => (∃ er : Int, e = .returned (.int .i64 er)) ∧ MAt o w' G g { s with H := s.H.setP oa x } m none nv ∧ Keep (In o (stepI m.id)) w w') := by
      refine (hSetCell_any hd.sh.heap oa x).mono ?_
      rintro e w' ⟨rfl, g1, g2⟩
      obtain ⟨h1, kk⟩ := hd.setHeap g2 g1 (setP_c _ _ _)
      exact ⟨⟨_, rfl⟩, h1, hkd.noneO.trans kk⟩
    show Calls Tryz.prog _ _ w fun e w' => e = .returned (.tuple #[]) ∧ MAt o w' G g { s with H := s.H.setP oa x } m none nv ∧ _
    generalize { s with H := s.H.setP oa x } = s' at *
    generalize m.id = mi at *
    clear h hcap hkd hd k0 k1 k2 o0 o1 o2
    go_enter Tryz.func217, Tryz.ntmps217
    go_wp2_with fail
    refine wp_region_still_mid 10 rfl (by kernel_rfl) (by kernel_rfl) (fun K hK => ?_)
    change wpStill _ _ (World.drew _) _ _ _
    simp only [List.take_succ_cons, List.take_zero, List.drop_succ_cons, List.drop_zero] at hK ⊢
    repeat still_step
    refine wpStill_nil ?_
    change ite _ (Oper.wp _ _ _ _ _ _) _
    go_simp
    refine HF.out.mono ?_
    rintro e w1 ⟨⟨er, rfl⟩, g1, g2⟩
    refine hK _ _ ?_
    clear hK K
    have H1 := Lib.hid g1
    have K1 := Lib.hid g2
    clear g1 g2 c0 c1 c2 m0 s0
    repeat still_step
    refine wpStill_nil ?_
    go_end0
    exact ⟨rfl, H1.out, K1.out⟩
set_option maxRecDepth 4000 in
set_option maxHeartbeats 4000000 in
theorem stLast_any (h : MAt o w G g s m none nv) (rd : RD) (v : Value) (hv : MClo o w g.Nt g.M (.last rd) v) (hres : m.res.length ≤ 1000000) : ∃ bs : List Nat, v = .func (.func 224) #[] (bs.map ptrV).toArray ∧ Calls Tryz.prog 224 (bs.map ptrV).toArray w (StepPost o w G g nv m.id (stepM s m (.last rd))) := by
  obtain ⟨wv, hw, bs, hbs, hcap⟩ := hv
  refine ⟨bs, hbs, ?_⟩
  obtain ⟨b0, b1, rfl, ⟨o0, k0⟩, ⟨o1, k1⟩⟩ := caps2 hcap
  obtain ⟨fn, caps, rfl, hfn, hrun⟩ := wrRun_any h rd wv hw
  have c0 := k0.cell 0 rfl
  have c1 : w.cell? ⟨b1, 0, none⟩ = some (.pointer (some ⟨g.M, 0, none⟩)) := k1.cell 0 rfl
  show Calls Tryz.prog 224 #[.pointer (some ⟨b0, 0, none⟩), .pointer (some ⟨b1, 0, none⟩)] w _
  have HR : Hid (Calls Tryz.prog fn caps w fun e w' => e = .returned (.tuple #[]) ∧ w'.cell? ⟨b1, 0, none⟩ = some (.pointer (some ⟨g.M, 0, none⟩)) ∧ Hid (Calls Tryz.prog 142 #[.pointer (some ⟨g.M, 0, none⟩), .int .i64 0, .int .i64 0] w' (fun e w' => e = .returned .nilFunc ∧ StepPost o w G g nv m.id (stepM s m (.last rd)) e w'))) := by
    refine hrun.mono ?_
    rintro e w' ⟨rfl, g1, g2⟩
    refine ⟨rfl, (k1.keepO g2 o1 (stepI_0 _)).cell 0 rfl, ?_⟩
    refine (mDid_post g1 0 0 hres).mono ?_
    rintro e w' ⟨rfl, hp⟩
    exact ⟨rfl, hp.after g2⟩
  generalize stepM s m (.last rd) = R at *
  generalize m.id = mi at *
  clear h hcap hbs hw hrun k0 k1 o0 o1 hres
  go_enter Tryz.func224, Tryz.ntmps224
  go_wp2_with fail
  refine HR.out.mono ?_
  rintro e w1 ⟨rfl, g1, g2⟩
  clear c0 c1 HR
  go_wp2_with fail
  refine g2.out.mono ?_
  rintro e w2 ⟨rfl, hp⟩
  have HP := Lib.hid hp
  clear hp g1 g2
  go_wp2_with fail
  go_ret
  exact HP.out
end
end Go.Proofs.YtjdnkhljgnjkcaaGreatDoor

/- A mutator's steps: lay. -/
namespace Go.Proofs.YtjdnkhljgnjkcaaGreatDoor
open Go.RowKit
attribute [local go_sem] Oper.semAt_some

theorem caps5' {o : Ow} {w : World} {a b c d e : List Value × TypeId} {bs : List Nat} (h : Caps o w [a, b, c, d, e] bs) : ∃ b0 b1 b2 b3 b4, bs = [b0, b1, b2, b3, b4] ∧ (o b0 = 0 ∧ Blk w b0 a.1 a.2) ∧ (o b1 = 0 ∧ Blk w b1 b.1 b.2) ∧ (o b2 = 0 ∧ Blk w b2 c.1 c.2) ∧ (o b3 = 0 ∧ Blk w b3 d.1 d.2) ∧ (o b4 = 0 ∧ Blk w b4 e.1 e.2) := by
  obtain ⟨b0, r0, rfl, o0, k0, b1, r1, rfl, o1, k1, b2, r2, rfl, o2, k2, b3, r3, rfl, o3, k3, b4, r4, rfl, o4, k4, rfl⟩ := h
  exact ⟨b0, b1, b2, b3, b4, rfl, ⟨o0, k0⟩, ⟨o1, k1⟩, ⟨o2, k2⟩, ⟨o3, k3⟩, ⟨o4, k4⟩⟩
section
variable {o : Ow} {w w' : World} {G : Geo} {g : MG} {s : Sh} {m : MS} {nv : Value}
theorem RdClo.fun_ {M : Nat} {rd : RD} {v : Value} (h : RdClo o w M rd v) : ∃ (fn : Nat) (caps : Array Value), v = .func (.func fn) #[] caps := by
  cases rd with
  | field base f x => obtain ⟨op, _, bs, rfl, _⟩ := h; exact ⟨_, _, rfl⟩
  | cell i x => obtain ⟨op, _, bs, rfl, _⟩ := h; exact ⟨_, _, rfl⟩
theorem WrClo.fun_ {M : Nat} {rd : RD} {v : Value} (h : WrClo o w M rd v) : ∃ (fn : Nat) (caps : Array Value), v = .func (.func fn) #[] caps := by
  cases rd with
  | field base f x => obtain ⟨op, _, bs, rfl, _⟩ := h; exact ⟨_, _, rfl⟩
  | cell i x => obtain ⟨op, _, bs, rfl, _⟩ := h; exact ⟨_, _, rfl⟩
theorem MAt.c12 {ev : Option Ev} (h : MAt o w G g s m ev nv) : w.cell? ⟨g.M, 12, none⟩ = some (.int .i64 (m.mode : Int)) := h.cell 12 _ (fun _ _ => rfl)
theorem MAt.c11 {ev : Option Ev} (h : MAt o w G g s m ev nv) : w.cell? ⟨g.M, 11, none⟩ = some (.pointer (some ⟨g.Nt, 0, none⟩)) := h.cell 11 _ (fun _ _ => rfl)
theorem MAt.c14 {ev : Option Ev} (h : MAt o w G g s m ev nv) : w.cell? ⟨g.M, 14, none⟩ = some (.int .i64 (m.want : Int)) := h.cell 14 _ (fun _ _ => rfl)
theorem MAt.c18 {ev : Option Ev} (h : MAt o w G g s m ev nv) : w.cell? ⟨g.M, 18, none⟩ = some (.int .i64 (m.held : Int)) := h.cell 18 _ (fun _ _ => rfl)
set_option maxRecDepth 4000 in
set_option maxHeartbeats 4000000 in
theorem mLay_new (h : MAt o w G g s m none nv) (rd : RD) (x : Nat) (rv wv : Value) (hr : RdClo o w g.M rd rv) (hw : WrClo o w g.M rd wv) : Calls Tryz.prog 213 #[.pointer (some ⟨g.M, 0, none⟩), .int .i64 (x : Int), rv, wv] w fun e w' => ∃ fn caps, e = .returned (.func (.func fn) #[] caps) ∧ MClo o w' g.Nt g.M (m.layD x rd) (.func (.func fn) #[] caps) ∧ Keep none_ w w' := by
  have hc := caps_new (o := o) [([ptrV g.M], 30), ([.int .i64 (x : Int)], 3), ([rv], 42), ([wv], 1), ([.func (.func 224) #[] #[ptrV (w.heap.size + 1 + 1 + 1), ptrV w.heap.size]], 102)] w h.sh.fut
  obtain ⟨W5, hW5⟩ : ∃ W5, W5 = allocL w [([ptrV g.M], 30), ([.int .i64 (x : Int)], 3), ([rv], 42), ([wv], 1), ([.func (.func 224) #[] #[ptrV (w.heap.size + 1 + 1 + 1), ptrV w.heap.size]], 102)] := ⟨_, rfl⟩
  rw [← hW5] at hc
  obtain ⟨b0, b1, b2, b3, b4, e, ⟨o0, k0⟩, ⟨o1, k1⟩, ⟨o2, k2⟩, ⟨o3, k3⟩, ⟨o4, k4⟩⟩ := caps5' hc.1
  simp only [idxs, List.cons.injEq] at e
  obtain ⟨rfl, rfl, rfl, rfl, rfl, _⟩ := e
  have HW : Hid ((((((w.alloc (.cells #[ptrV g.M] 30)).alloc (.cells #[.int .i64 (x : Int)] 3)).alloc (.cells #[rv] 42)).alloc (.cells #[wv] 1)).alloc (.cells #[.func (.func 224) #[] #[ptrV (w.heap.size + 1 + 1 + 1), ptrV w.heap.size]] 102)) = W5) := by rw [hW5]; rfl
  have hlast : LastClo o W5 g.M rd (.func (.func 224) #[] #[ptrV (w.heap.size + 1 + 1 + 1), ptrV w.heap.size]) := ⟨wv, hw.keep hc.2 (fun _ _ f => f), [w.heap.size + 1 + 1 + 1, w.heap.size], rfl, _, _, rfl, o3, k3, _, _, rfl, o0, k0, rfl⟩
  have h5 := h.still hc.2
  have c12 : ∀ a b c d e, (((((w.alloc a).alloc b).alloc c).alloc d).alloc e).cell? ⟨g.M, 12, none⟩ = some (.int .i64 (m.mode : Int)) := fun a b c d e => ((((((Keep.refl none_ w).alloc a).alloc b).alloc c).alloc d).alloc e).still h.c12
  have c0 : W5.cell? ⟨w.heap.size, 0, none⟩ = some (.pointer (some ⟨g.M, 0, none⟩)) := k0.cell 0 rfl
  have c4 := k4.cell 0 rfl
  have hmf := hmkf
  obtain ⟨fr, cr, rfl⟩ := hr.fun_
  obtain ⟨fw, cw, rfl⟩ := hw.fun_
  by_cases hm : m.mode = 0
  · have HE : Hid (MClo o W5 g.Nt g.M (m.layD x rd) (.func (.func 224) #[] #[ptrV (w.heap.size + 1 + 1 + 1), ptrV w.heap.size]) ∧ Keep none_ w W5) := by
      unfold MS.layD
      rw [if_pos hm]
      exact ⟨hlast, hc.2⟩
    rw [hm] at c12
    clear h h5 hc hr hw hlast k0 k1 k2 k3 k4 o0 o1 o2 o3 o4 hW5
    go_enter Tryz.func213, Tryz.ntmps213
    go_wp2_with fail
    rw [HW.out]
    go_ret
    exact ⟨_, _, rfl, HE.out.1, HE.out.2⟩
  · have HE : Hid (MClo o W5 g.Nt g.M (m.layD x rd) (.func (.func 225) #[] #[ptrV (w.heap.size + 1 + 1), ptrV w.heap.size, ptrV (w.heap.size + 1 + 1 + 1 + 1), ptrV (w.heap.size + 1)]) ∧ Keep none_ w W5) := by
      unfold MS.layD
      rw [if_neg hm]
      exact ⟨⟨_, _, hr.keep hc.2 (fun _ _ f => f), hlast, [w.heap.size + 1 + 1, w.heap.size, w.heap.size + 1 + 1 + 1 + 1, w.heap.size + 1], rfl, _, _, rfl, o2, k2, _, _, rfl, o0, k0, _, _, rfl, o4, k4, _, _, rfl, o1, k1, rfl⟩, hc.2⟩
    have d0 : ((m.mode : Int) == 0) = false := by simp; omega
    clear h h5 hc hr hw hlast k0 k1 k2 k3 k4 o0 o1 o2 o3 o4 hW5
    go_enter Tryz.func213, Tryz.ntmps213
    go_wp2_with fail
    rw [HW.out]
    go_ret
    exact ⟨_, _, rfl, HE.out.1, HE.out.2⟩
end
end Go.Proofs.YtjdnkhljgnjkcaaGreatDoor

/- A mutator's step: what is there is read, and logged. -/
namespace Go.Proofs.YtjdnkhljgnjkcaaGreatDoor
open Go.RowKit
attribute [local go_sem] Oper.semAt_some

section
variable {o : Ow} {w w' : World} {G : Geo} {g : MG} {s : Sh} {m : MS} {nv : Value}
theorem LastClo.fun_ {M : Nat} {rd : RD} {v : Value} (h : LastClo o w M rd v) : ∃ (fn : Nat) (caps : Array Value), v = .func (.func fn) #[] caps := by
  obtain ⟨_, _, bs, rfl, _⟩ := h; exact ⟨_, _, rfl⟩
def funD : MD → Bool
  | .nil => false
  | .sweep _ _ _ => false
  | _ => true
theorem MClo.fun_ {Nt M : Nat} {d : MD} {v : Value} (h : MClo o w Nt M d v) (hd : funD d = true) : ∃ (fn : Nat) (caps : Array Value), v = .func (.func fn) #[] caps := by
  rcases h.form with rfl | h1
  · exfalso
    cases d
    case nil => cases hd
    case sweep => cases hd
    case last rd => obtain ⟨_, _, bs, e, _⟩ := h; cases e
    case start => obtain ⟨bs, e, _⟩ := h; cases e
    case once => obtain ⟨_, ⟨bs, e, _⟩, _⟩ := h; cases e
    case note => obtain ⟨_, _, _, _, bs, e, _⟩ := h; cases e
    case add => obtain ⟨_, _, bs, e, _⟩ := h; cases e
    case pour => obtain ⟨_, _, bs, e, _⟩ := h; cases e
    case paint => obtain ⟨_, _, bs, e, _⟩ := h; cases e
    case raise => obtain ⟨_, _, bs, e, _⟩ := h; cases e
    case field => obtain ⟨_, _, bs, e, _⟩ := h; cases e
    case load => obtain ⟨bs, e, _⟩ := h; cases e
    case get => obtain ⟨bs, e, _⟩ := h; cases e
    case lay => obtain ⟨_, _, _, _, bs, e, _⟩ := h; cases e
    case alloc => obtain ⟨bs, e, _⟩ := h; cases e
    case assign => obtain ⟨bs, e, _⟩ := h; cases e
    case carve => obtain ⟨_, _, _, bs, e, _⟩ := h; cases e
    case claim => obtain ⟨bs, e, _⟩ := h; cases e
    case again => obtain ⟨bs, e, _⟩ := h; cases e
    case fill => obtain ⟨bs, e, _⟩ := h; cases e
    case zero => obtain ⟨bs, e, _⟩ := h; cases e
  · exact h1
theorem noteD_fun {v c : Nat} {t : MD} (h : funD t = true) : funD (noteD v c t) = true := by
  unfold noteD
  split
  · exact h
  · rfl
/-- Note, where what comes behind is a step. -/
theorem ntNote_fun {Nt M : Nat} (hf : Fut o w) (v c : Nat) (t : MD) (tv : Value) (ht : MClo o w Nt M t tv) (hd : funD t = true) : Calls Tryz.prog 137 #[.pointer (some ⟨Nt, 0, none⟩), .int .i64 (v : Int), .int .i64 (c : Int), tv] w fun e w' => ∃ fn caps, e = .returned (.func (.func fn) #[] caps) ∧ MClo o w' Nt M (noteD v c t) (.func (.func fn) #[] caps) ∧ Keep none_ w w' := by
  refine (ntNote_any hf v c t tv ht).mono ?_
  rintro e w' ⟨nv, rfl, h1, h2⟩
  obtain ⟨fn, caps, rfl⟩ := h1.fun_ (noteD_fun hd)
  exact ⟨fn, caps, rfl, h1, h2⟩
set_option maxRecDepth 4000 in
set_option maxHeartbeats 4000000 in
theorem stLay_any (h : MAt o w G g s m none nv) (rd : RD) (x : Nat) (v : Value) (hv : MClo o w g.Nt g.M (.lay x rd) v) : ∃ bs : List Nat, v = .func (.func 225) #[] (bs.map ptrV).toArray ∧ Calls Tryz.prog 225 (bs.map ptrV).toArray w (StepPost o w G g nv m.id (stepM s m (.lay x rd))) := by
  obtain ⟨rv, lv, hr, hl, bs, hbs, hcap⟩ := hv
  refine ⟨bs, hbs, ?_⟩
  obtain ⟨b0, b1, b2, b3, rfl, ⟨o0, k0⟩, ⟨o1, k1⟩, ⟨o2, k2⟩, ⟨o3, k3⟩⟩ := caps4 hcap
  have hkd : Keep none_ w w.drew := (Keep.refl none_ w).drew
  obtain ⟨fr, cr, rfl, hfr, hrun⟩ := rdRun_any (h.still hkd) rd rv (hr.keep hkd (fun _ _ f => f))
  obtain ⟨fl, cl, rfl⟩ := hl.fun_
  have c0 := k0.cell 0 rfl
  have c1 : w.cell? ⟨b1, 0, none⟩ = some (.pointer (some ⟨g.M, 0, none⟩)) := k1.cell 0 rfl
  show Calls Tryz.prog 225 #[.pointer (some ⟨b0, 0, none⟩), .pointer (some ⟨b1, 0, none⟩), .pointer (some ⟨b2, 0, none⟩), .pointer (some ⟨b3, 0, none⟩)] w _
  have HR : Hid (Calls Tryz.prog fr cr w.drew fun e w' => e = .returned (.int .i64 (rd.read s.H : Int)) ∧ w'.cell? ⟨b0, 0, none⟩ = some (.func (.func fr) #[] cr) ∧ w'.cell? ⟨b1, 0, none⟩ = some (.pointer (some ⟨g.M, 0, none⟩)) ∧ w'.frozen? ⟨g.M, 18, none⟩ = false ∧ (∃ u, w'.cell? ⟨g.M, 18, none⟩ = some u) ∧
      ∃ W2, W2 = w'.setCell ⟨g.M, 18, none⟩ (.int .i64 (rd.read s.H : Int)) ∧ MAt o W2 G g s { m with held := rd.read s.H } none nv ∧ Keep (In o (stepI m.id)) w W2 ∧ MClo o W2 g.Nt g.M (.last rd) (.func (.func fl) #[] cl) ∧ Blk W2 b0 [.func (.func fr) #[] cr] 42 ∧ Blk W2 b1 [ptrV g.M] 30 ∧ Blk W2 b2 [.func (.func fl) #[] cl] 102 ∧ Blk W2 b3 [.int .i64 (x : Int)] 3) := by
    refine hrun.mono ?_
    rintro e w' ⟨rfl, g1, g2⟩
    have km : Keep (In o (stepI m.id)) w w' := hkd.noneO.trans g2
    obtain ⟨h2, kp⟩ := g1.put 18 (.int .i64 (rd.read s.H : Int)) { m with held := rd.read s.H } none nv (fun _ _ => rfl) ⟨rfl, rfl, rfl, rfl, rfl, rfl⟩
    have km2 : Keep (In o (stepI m.id)) w (w'.setCell ⟨g.M, 18, none⟩ (.int .i64 (rd.read s.H : Int))) := km.trans (kp.moreO (by simp [stepI]))
    exact ⟨rfl, (k0.keepO km o0 (stepI_0 _)).cell 0 rfl, (k1.keepO km o1 (stepI_0 _)).cell 0 rfl, g1.free 18, ⟨_, g1.c18⟩, _, rfl, h2, km2, hl.keep km2 (fun b hb => not_in' hb (stepI_0 _)), k0.keepO km2 o0 (stepI_0 _), k1.keepO km2 o1 (stepI_0 _), k2.keepO km2 o2 (stepI_0 _), k3.keepO km2 o3 (stepI_0 _)⟩
  have HN : Hid (∀ W fn caps d, MAt o W G g s { m with held := rd.read s.H } none nv → Keep (In o (stepI m.id)) w W → MClo o W g.Nt g.M d (.func (.func fn) #[] caps) → funD d = true → stepM s m (.lay x rd) = ⟨s, { m with held := rd.read s.H }, noteD (rd.read s.H) m.want d, none⟩ →
      Calls Tryz.prog 137 #[.pointer (some ⟨g.Nt, 0, none⟩), .int .i64 (rd.read s.H : Int), .int .i64 (m.want : Int), .func (.func fn) #[] caps] W.drew fun e w' => ∃ fn caps, e = .returned (.func (.func fn) #[] caps) ∧ StepPost o w G g nv m.id (stepM s m (.lay x rd)) (.returned (.func (.func fn) #[] caps)) w') := fun W fn caps d hW hk hc hd e1 => by
    have kd : Keep none_ W W.drew := (Keep.refl none_ W).drew
    refine (ntNote_fun (hW.sh.fut.keep kd) (rd.read s.H) m.want d _ (hc.still kd) hd).mono ?_
    rintro e w4 ⟨fn, caps, rfl, h4, k4⟩
    rw [e1]
    exact ⟨fn, caps, rfl, StepPost.same (hW.still (kd.trans k4)) h4 (hk.trans (kd.trans k4).noneO)⟩
  obtain ⟨mm, hmm⟩ : ∃ mm, m.mode = mm := ⟨_, rfl⟩
  have hcells : ∀ W, MAt o W G g s { m with held := rd.read s.H } none nv → W.cell? ⟨g.M, 11, none⟩ = some (.pointer (some ⟨g.Nt, 0, none⟩)) ∧ W.cell? ⟨g.M, 12, none⟩ = some (.int .i64 (mm : Int)) ∧ W.cell? ⟨g.M, 14, none⟩ = some (.int .i64 (m.want : Int)) ∧ W.cell? ⟨g.M, 18, none⟩ = some (.int .i64 (rd.read s.H : Int)) := fun W hW => ⟨hW.c11, by rw [← hmm]; exact hW.c12, hW.c14, hW.c18⟩
  by_cases hm : m.mode = 2
  · have e1 : stepM s m (.lay x rd) = ⟨s, { m with held := rd.read s.H }, noteD (rd.read s.H) m.want (noteD x m.want (.last rd)), none⟩ := by simp only [stepM]; rw [if_pos hm]
    have HM : Hid (∀ W, MAt o W G g s { m with held := rd.read s.H } none nv → Keep (In o (stepI m.id)) w W → MClo o W g.Nt g.M (.last rd) (.func (.func fl) #[] cl) → Blk W b1 [ptrV g.M] 30 → Calls Tryz.prog 137 #[.pointer (some ⟨g.Nt, 0, none⟩), .int .i64 (x : Int), .int .i64 (m.want : Int), .func (.func fl) #[] cl] W.drew fun e w3 => ∃ fn caps, e = .returned (.func (.func fn) #[] caps) ∧ w3.cell? ⟨b1, 0, none⟩ = some (.pointer (some ⟨g.M, 0, none⟩)) ∧ w3.cell? ⟨g.M, 11, none⟩ = some (.pointer (some ⟨g.Nt, 0, none⟩)) ∧ w3.cell? ⟨g.M, 14, none⟩ = some (.int .i64 (m.want : Int)) ∧ w3.cell? ⟨g.M, 18, none⟩ = some (.int .i64 (rd.read s.H : Int)) ∧
        Hid (Calls Tryz.prog 137 #[.pointer (some ⟨g.Nt, 0, none⟩), .int .i64 (rd.read s.H : Int), .int .i64 (m.want : Int), .func (.func fn) #[] caps] w3.drew fun e w' => ∃ fn caps, e = .returned (.func (.func fn) #[] caps) ∧ StepPost o w G g nv m.id (stepM s m (.lay x rd)) (.returned (.func (.func fn) #[] caps)) w')) := fun W hW hk hc g1 => by
      have kd : Keep none_ W W.drew := (Keep.refl none_ W).drew
      refine (ntNote_fun (hW.sh.fut.keep kd) x m.want (.last rd) _ (hc.still kd) rfl).mono ?_
      rintro e w3 ⟨fn, caps, rfl, h3, k3⟩
      have k3' := kd.trans k3
      have hW3 := hW.still k3'
      exact ⟨fn, caps, rfl, (k3'.blk g1 (fun f => f)).cell 0 rfl, hW3.c11, hW3.c14, hW3.c18, HN.out w3 fn caps _ hW3 (hk.trans k3'.noneO) h3 (noteD_fun rfl) e1⟩
    clear e1 HN
    obtain rfl : mm = 2 := hmm.symm.trans hm
    have HC := Lib.hid hcells
    generalize stepM s m (.lay x rd) = R at *
    generalize { m with held := rd.read s.H } = m' at *
    generalize rd.read s.H = y at *
    generalize m.want = mw at *
    generalize m.id = mi at *
    clear h hr hl hcap hbs hkd hrun k0 k1 k2 k3 o0 o1 o2 o3 hm hmm hcells
    go_enter Tryz.func225, Tryz.ntmps225
    go_wp2_with fail
    go_region_held3 (fun w' => w'.cell? ⟨b0, 0, none⟩ = some (.func (.func fr) #[] cr) ∧ w'.cell? ⟨b1, 0, none⟩ = some (.pointer (some ⟨g.M, 0, none⟩)))
      (first | exact ⟨c0, c1⟩ | exact ⟨d0, d1⟩ | exact HS2.out | fail "SFAIL")
      ((refine HR.out.mono ?_
        rintro e w1 ⟨rfl, d0, d1, d2, ⟨u, d3⟩, W2, hW2, g1, g2, g3, g4, g5, g6, g7⟩
        have HS2 : Hid ((w1.setCell ⟨g.M, 18, none⟩ (.int .i64 (y : Int))).cell? ⟨b0, 0, none⟩ = some (.func (.func fr) #[] cr) ∧ (w1.setCell ⟨g.M, 18, none⟩ (.int .i64 (y : Int))).cell? ⟨b1, 0, none⟩ = some (.pointer (some ⟨g.M, 0, none⟩))) := by rw [← hW2]; exact ⟨g4.cell 0 rfl, g5.cell 0 rfl⟩
        have HW2 := Lib.hid hW2
        have H1 := Lib.hid (And.intro g1 (And.intro g2 (And.intro g3 (And.intro g4 (And.intro g5 (And.intro g6 g7))))))
        clear hW2 g1 g2 g3 g4 g5 g6 g7))
    rw [← HW2.out]
    clear d0 d1 d2 d3 HS2 c0 c1 HW2 HR
    have e11 := (HC.out W2 H1.out.1).1; have e12 := (HC.out W2 H1.out.1).2.1; have e14 := (HC.out W2 H1.out.1).2.2.1
    have b1c : W2.cell? ⟨b1, 0, none⟩ = some (.pointer (some ⟨g.M, 0, none⟩)) := H1.out.2.2.2.2.1.cell 0 rfl
    have b2c := H1.out.2.2.2.2.2.1.cell 0 rfl
    have b3c := H1.out.2.2.2.2.2.2.cell 0 rfl
    go_wp2_with fail
    have HM1 := Lib.hid (HM.out W2 H1.out.1 H1.out.2.1 H1.out.2.2.1 H1.out.2.2.2.2.1)
    refine wp_region_still_mid 10 rfl (by kernel_rfl) (by kernel_rfl) (fun K hK => ?_)
    change wpStill _ _ (World.drew _) _ _ _
    simp only [List.take_succ_cons, List.take_zero, List.drop_succ_cons, List.drop_zero] at hK ⊢
    repeat still_step
    refine wpStill_nil ?_
    change ite _ (Oper.wp _ _ _ _ _ _) _
    go_simp
    refine HM1.out.mono ?_
    rintro e w3 ⟨fn, caps, rfl, d1, d11, d14, d18, g1⟩
    refine hK _ _ ?_
    clear hK K
    clear e11 e12 e14 b1c b2c b3c HM HM1 HC H1
    repeat still_step
    refine wpStill_nil ?_
    go_wp2_with fail
    refine wp_region_still_mid 13 rfl (by kernel_rfl) (by kernel_rfl) (fun K hK => ?_)
    change wpStill _ _ (World.drew _) _ _ _
    simp only [List.take_succ_cons, List.take_zero, List.drop_succ_cons, List.drop_zero] at hK ⊢
    repeat still_step
    refine wpStill_nil ?_
    change ite _ (Oper.wp _ _ _ _ _ _) _
    go_simp
    refine g1.out.mono ?_
    rintro e w4 ⟨fn, caps, rfl, hp⟩
    refine hK _ _ ?_
    clear hK K
    have HP := Lib.hid hp
    clear hp g1 d1 d11 d14 d18
    repeat still_step
    refine wpStill_nil ?_
    go_wp2_with fail
    go_ret
    exact HP.out
  · have e1 : stepM s m (.lay x rd) = ⟨s, { m with held := rd.read s.H }, noteD (rd.read s.H) m.want (.last rd), none⟩ := by simp only [stepM]; rw [if_neg hm]
    have HM : Hid (∀ W, MAt o W G g s { m with held := rd.read s.H } none nv → Keep (In o (stepI m.id)) w W → MClo o W g.Nt g.M (.last rd) (.func (.func fl) #[] cl) →
        Hid (Calls Tryz.prog 137 #[.pointer (some ⟨g.Nt, 0, none⟩), .int .i64 (rd.read s.H : Int), .int .i64 (m.want : Int), .func (.func fl) #[] cl] W.drew fun e w' => ∃ fn caps, e = .returned (.func (.func fn) #[] caps) ∧ StepPost o w G g nv m.id (stepM s m (.lay x rd)) (.returned (.func (.func fn) #[] caps)) w')) := fun W hW hk hc => HN.out W fl cl _ hW hk hc rfl e1
    clear e1 HN
    have dm : ((mm : Int) == 2) = false := by simp; omega
    have HC := Lib.hid hcells
    generalize stepM s m (.lay x rd) = R at *
    generalize { m with held := rd.read s.H } = m' at *
    generalize rd.read s.H = y at *
    generalize m.want = mw at *
    generalize m.id = mi at *
    clear h hr hl hcap hbs hkd hrun k0 k1 k2 k3 o0 o1 o2 o3 hm hmm hcells
    go_enter Tryz.func225, Tryz.ntmps225
    go_wp2_with fail
    go_region_held3 (fun w' => w'.cell? ⟨b0, 0, none⟩ = some (.func (.func fr) #[] cr) ∧ w'.cell? ⟨b1, 0, none⟩ = some (.pointer (some ⟨g.M, 0, none⟩)))
      (first | exact ⟨c0, c1⟩ | exact ⟨d0, d1⟩ | exact HS2.out | fail "SFAIL")
      ((refine HR.out.mono ?_
        rintro e w1 ⟨rfl, d0, d1, d2, ⟨u, d3⟩, W2, hW2, g1, g2, g3, g4, g5, g6, g7⟩
        have HS2 : Hid ((w1.setCell ⟨g.M, 18, none⟩ (.int .i64 (y : Int))).cell? ⟨b0, 0, none⟩ = some (.func (.func fr) #[] cr) ∧ (w1.setCell ⟨g.M, 18, none⟩ (.int .i64 (y : Int))).cell? ⟨b1, 0, none⟩ = some (.pointer (some ⟨g.M, 0, none⟩))) := by rw [← hW2]; exact ⟨g4.cell 0 rfl, g5.cell 0 rfl⟩
        have HW2 := Lib.hid hW2
        have H1 := Lib.hid (And.intro g1 (And.intro g2 (And.intro g3 (And.intro g4 (And.intro g5 (And.intro g6 g7))))))
        clear hW2 g1 g2 g3 g4 g5 g6 g7))
    rw [← HW2.out]
    clear d0 d1 d2 d3 HS2 c0 c1 HW2 HR
    have e11 := (HC.out W2 H1.out.1).1; have e12 := (HC.out W2 H1.out.1).2.1; have e14 := (HC.out W2 H1.out.1).2.2.1; have e18 := (HC.out W2 H1.out.1).2.2.2
    have b1c : W2.cell? ⟨b1, 0, none⟩ = some (.pointer (some ⟨g.M, 0, none⟩)) := H1.out.2.2.2.2.1.cell 0 rfl
    have b2c := H1.out.2.2.2.2.2.1.cell 0 rfl
    go_wp2_with fail
    have HM1 := HM.out W2 H1.out.1 H1.out.2.1 H1.out.2.2.1
    refine wp_region_still_mid 13 rfl (by kernel_rfl) (by kernel_rfl) (fun K hK => ?_)
    change wpStill _ _ (World.drew _) _ _ _
    simp only [List.take_succ_cons, List.take_zero, List.drop_succ_cons, List.drop_zero] at hK ⊢
    repeat still_step
    refine wpStill_nil ?_
    change ite _ (Oper.wp _ _ _ _ _ _) _
    go_simp
    refine HM1.out.mono ?_
    rintro e w4 ⟨fn, caps, rfl, hp⟩
    refine hK _ _ ?_
    clear hK K
    have HP := Lib.hid hp
    clear hp e11 e12 e14 e18 b1c b2c HM HM1 HC H1
    repeat still_step
    refine wpStill_nil ?_
    go_wp2_with fail
    go_ret
    exact HP.out
end
end Go.Proofs.YtjdnkhljgnjkcaaGreatDoor

/- class.Of. -/
namespace Go.Proofs.YtjdnkhljgnjkcaaGreatDoor
open Go.RowKit
attribute [local go_sem] Oper.semAt_some

theorem room4 : roomP 0 = 1 ∧ roomP 1 = 3 ∧ roomP 2 = 7 ∧ roomP 3 = 15 := by decide
set_option maxRecDepth 4000 in
set_option maxHeartbeats 1000000 in
theorem cOf_any (f : Int) (h0 : 0 ≤ f) (h1 : f ≤ 15) (w : World) (hS : Sizes w) : Calls Tryz.prog 60 #[.int .i64 f] w fun e w' => e = .returned (.tuple #[.int .i64 (ofK f : Int), .bool true]) ∧ w = w' := by
  have d0 : decide (0 ≤ f) = true := decide_eq_true h0
  go_enter Tryz.func60, Tryz.ntmps60
  go_wp2_with fail
  go_loop [5] (fun i => ∃ k : Nat, k < 4 ∧ i = .int .i64 k ∧ ∀ j : Nat, j < k → roomP (j : Int) < f) (fun i => 4 - (intOf i).toNat)
  case atStart => exact ⟨0, by omega, rfl, fun j hj => by omega⟩
  case round =>
    obtain ⟨k, hk, rfl, hl⟩ := hrel
    by_cases hle : f ≤ roomP (k : Int)
    · have HE : Hid (ofK f = k) := by
        obtain ⟨r0, r1, r2, r3⟩ := room4
        have h4 : k = 0 ∨ k = 1 ∨ k = 2 ∨ k = 3 := by omega
        have l0 := hl 0; have l1 := hl 1; have l2 := hl 2
        unfold Hid ofK
        have r0' : roomP ((0 : Nat) : Int) = 1 := r0
        have r1' : roomP ((1 : Nat) : Int) = 3 := r1
        have r2' : roomP ((2 : Nat) : Int) = 7 := r2
        have r3' : roomP ((3 : Nat) : Int) = 15 := r3
        rw [r0'] at l0; rw [r1'] at l1; rw [r2'] at l2
        rcases h4 with rfl | rfl | rfl | rfl
        · rw [r0'] at hle
          rw [if_neg (by omega), if_pos hle]
        · rw [r1'] at hle
          rw [if_neg (by omega), if_neg (by omega), if_pos hle]
        · rw [r2'] at hle
          rw [if_neg (by omega), if_neg (by omega), if_neg (by omega), if_pos hle]
        · rw [r3'] at hle
          rw [if_neg (by omega), if_neg (by omega), if_neg (by omega), if_neg (by omega), if_pos hle]
      have d1 : decide (f ≤ roomP (k : Int)) = true := decide_eq_true hle
      have HR := Lib.hid (clRoom_any (k : Int) w hS)
      generalize roomP (k : Int) = r at *
      clear hl hS
      go_wp2_with (go_at_call 101; refine HR.out.mono ?_; rintro e w1 ⟨rfl, rfl⟩)
      go_ret2
      rw [HE.out]
      exact ⟨rfl, rfl⟩
    · have d1 : decide (f ≤ roomP (k : Int)) = false := decide_eq_false hle
      have HR := Lib.hid (clRoom_any (k : Int) w hS)
      have HL : Hid (k + 1 < 4 ∧ ∀ j : Nat, j < k + 1 → roomP (j : Int) < f) := by
        refine ⟨?_, fun j hj => ?_⟩
        · have := room4.2.2.2
          rcases Nat.lt_or_ge k 3 with h | h
          · omega
          · exfalso
            obtain rfl : k = 3 := by omega
            exact hle (by rw [show roomP ((3 : Nat) : Int) = 15 from this]; exact h1)
        · rcases Nat.lt_or_ge j k with h | h
          · exact hl j h
          · obtain rfl : j = k := by omega
            omega
      generalize roomP (k : Int) = r at *
      clear hl hS
      go_wp2_with (go_at_call 101; refine HR.out.mono ?_; rintro e w1 ⟨rfl, rfl⟩)
      go_round
      case rel => exact ⟨k + 1, HL.out.1, by go_num, HL.out.2⟩
      case measure => simp [intOf]; omega
end Go.Proofs.YtjdnkhljgnjkcaaGreatDoor
