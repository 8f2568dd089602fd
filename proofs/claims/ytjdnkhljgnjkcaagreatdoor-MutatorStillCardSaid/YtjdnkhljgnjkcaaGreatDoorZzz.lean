/- Parts of a walk, put together by a small program of mine from texts of their own: MutQ2 MutCalm MutP3 MutP4. -/
import Derived.Test.YtjdnkhljgnjkcaaGreatDoorZzy
import Derived.Test.YtjdnkhljgnjkcaaGreatDoorZzn
import Derived.BigRegion
/- What a mutator tells of itself: its registers; whether it is busy; what it took at most. -/
namespace Go.Proofs.YtjdnkhljgnjkcaaGreatDoor
open Go.RowKit
attribute [local go_sem] Oper.semAt_some

section
variable {o : Ow} {w w' : World} {G : Geo} {g : MG} {s : Sh} {m : MS} {nv : Value} {ev : Option Ev}
set_option maxRecDepth 4000 in
theorem mRegs_any (h : MAt o w G g s m ev nv) : Calls Tryz.prog 13 #[.pointer (some ⟨g.M, 0, none⟩)] w fun e w' => ∃ v, e = .returned v ∧ w'.ownsRow w.heap.size 3 1 v m.regs.length (tabV m.regs) ∧ Keep none_ w w' := by
  have c := h.c9
  have hle := h.rle
  have HC := Lib.hid (cloneI_cells (some ⟨g.X, 0, none⟩) m.regs.length m.regs.length (tabV m.regs) w ⟨by simp [tabV], fun _ => ⟨g.X, 0, rfl, fun j u hj => by
    rw [Nat.zero_add]
    exact h.regs.cell j hj⟩⟩ (fun e => by cases e) (by omega) (fun u hu => by obtain ⟨z, _, rfl⟩ := List.mem_map.1 hu; rfl))
  generalize tabV m.regs = vs at *
  generalize m.regs.length = n at *
  clear h
  go_enter Tryz.func13, Tryz.ntmps13
  go_wp2_with fail
  refine HC.out.mono ?_
  rintro e w1 ⟨v, rfl, h1, k1⟩
  have HE := Lib.hid (And.intro h1 k1)
  clear h1 k1 HC
  go_wp2_with fail
  go_ret
  exact ⟨_, rfl, HE.out.1, HE.out.2⟩
set_option maxRecDepth 4000 in
theorem neq_func (fn : Nat) (caps : Array Value) : ∀ w, (binOp .neq 103 (.func (.func fn) #[] caps) .nilFunc).run Tryz.prog w = .ok (.bool true) w := fun w => by first | rfl | (simp [binOp, go_sem]; done) | (simp [binOp, go_sem]; rfl)
set_option maxRecDepth 4000 in
theorem neq_nil : ∀ w, (binOp .neq 103 .nilFunc .nilFunc).run Tryz.prog w = .ok (.bool false) w := fun w => by first | rfl | (simp [binOp, go_sem]; done) | (simp [binOp, go_sem]; rfl)
set_option maxRecDepth 4000 in
theorem MAt.c17 (h : MAt o w G g s m ev nv) : w.cell? ⟨g.M, 17, none⟩ = some nv := h.cell 17 _ (fun _ _ => rfl)
set_option maxRecDepth 4000 in
theorem mBusy_no (h : MAt o w G g s m ev .nilFunc) : Calls Tryz.prog 19 #[.pointer (some ⟨g.M, 0, none⟩)] w fun e w' => e = .returned (.bool false) ∧ w = w' := by
  have c := h.c17
  have hn := neq_nil
  clear h
  go_enter Tryz.func19, Tryz.ntmps19
  go_wp2_with fail
  go_ret
  exact ⟨rfl, rfl⟩
set_option maxRecDepth 4000 in
theorem mBusy_yes {fn : Nat} {caps : Array Value} (h : MAt o w G g s m ev (.func (.func fn) #[] caps)) : Calls Tryz.prog 19 #[.pointer (some ⟨g.M, 0, none⟩)] w fun e w' => e = .returned (.bool true) ∧ w = w' := by
  have c := h.c17
  have hn := neq_func fn caps
  clear h
  go_enter Tryz.func19, Tryz.ntmps19
  go_wp2_with fail
  go_ret
  exact ⟨rfl, rfl⟩
end
end Go.Proofs.YtjdnkhljgnjkcaaGreatDoor

/- A mutator that nobody asks anything, alone: each pick brings its program nearer to its end. Without a program. -/
namespace Go.Proofs.YtjdnkhljgnjkcaaGreatDoor

section
variable {H : HS}
theorem takeP_w (k : Nat) : (H.takeP k).2.2.ww = H.ww ∧ (H.takeP k).2.2.c = H.c := by unfold HS.takeP; split <;> exact ⟨rfl, rfl⟩
theorem putP_w (a : Nat) : (H.putP a).ww = H.ww ∧ (H.putP a).c = H.c := by
  unfold HS.putP
  split
  · exact ⟨rfl, rfl⟩
  · split <;> exact ⟨rfl, rfl⟩
theorem beginP_w (a : Nat) (f : Int) : (H.beginP a f).ww = H.ww ∧ (H.beginP a f).c = H.c := by
  unfold HS.beginP
  split
  · exact ⟨rfl, rfl⟩
  · split <;> exact ⟨rfl, rfl⟩
theorem bearP_w (a c : Nat) : (H.bearP a c).ww = H.ww ∧ (H.bearP a c).c = H.c := by unfold HS.bearP; split <;> exact ⟨rfl, rfl⟩
theorem freeP_w (a : Nat) : (H.freeP a).ww = H.ww ∧ (H.freeP a).c = H.c := by
  unfold HS.freeP
  split
  · exact putP_w (H := H.kill a) a
  · exact ⟨rfl, rfl⟩
theorem storeP_w (a : Nat) (f : Int) (v : Nat) : (H.storeP a f v).ww = H.ww ∧ (H.storeP a f v).c = H.c := by unfold HS.storeP; split <;> exact ⟨rfl, rfl⟩
theorem setP_w (i : Int) (v : Nat) : (H.setP i v).ww = H.ww ∧ (H.setP i v).c = H.c := by unfold HS.setP; split <;> exact ⟨rfl, rfl⟩
theorem paintP_w (a c : Nat) : (H.paintP a c).ww = H.ww ∧ (H.paintP a c).c = H.c := by unfold HS.paintP; split <;> exact ⟨rfl, rfl⟩
theorem assignP_w (k : Nat) : (H.assignP k).2.2.ww = H.ww ∧ (H.assignP k).2.2.c = H.c := by unfold HS.assignP; split <;> exact ⟨rfl, rfl⟩
theorem rdw_w (rd : RD) : (rd.write H).ww = H.ww ∧ (rd.write H).c = H.c := by
  cases rd with
  | field b f v => exact storeP_w b f v
  | cell i v => exact setP_w i v
end
/-- How many steps there are still, at most. -/
def cost (W : Nat) : MD → Nat
  | .start _ => W + 25
  | .field _ _ t => 1 + cost W t
  | .load _ _ => 1
  | .get _ => 1
  | .last _ => 1
  | .alloc _ _ => W + 24
  | .assign _ _ => W + 23
  | .carve _ all => all.length + 17
  | .claim _ _ => 21
  | .again _ _ => 20
  | .fill _ _ => 18
  | .zero _ _ i => 16 - i
  | _ => 0
/-- Steps of a mutator that logs nothing. -/
def calmD : MD → Prop
  | .nil => True
  | .start _ => True
  | .field _ _ t => calmD t ∧ isNil t = false
  | .load _ _ => True
  | .get _ => True
  | .last _ => True
  | .alloc _ _ => True
  | .assign _ _ => True
  | .carve _ all => 2 ≤ all.length
  | .claim _ _ => True
  | .again _ _ => True
  | .fill _ _ => True
  | .zero _ _ _ => True
  | _ => False
/-- Nobody asks; nothing waits; nothing is logged. -/
structure CalmS (s : Sh) (m : MS) : Prop where
  pend : s.B.pend m.id = false
  mode : m.mode = 0
  q : ∀ k, s.Q.rw k = []
  ww : 16 ≤ s.H.ww
/-- What a step of a calm mutator leaves. -/
structure CalmR (W : Nat) (m : MS) (d : MD) (r : StepR) : Prop where
  s : CalmS r.s r.m
  nx : calmD r.next
  ww : r.s.H.ww = W
  less : cost W r.next + 1 ≤ cost W d
  res : r.m.res.length = if isNil r.next then m.res.length + 1 else m.res.length
section
variable {s : Sh} {m : MS}
theorem CalmS.heap (h : CalmS s m) {H : HS} (hw : H.ww = s.H.ww) : CalmS { s with H := H } m := ⟨h.pend, h.mode, h.q, by show 16 ≤ H.ww; rw [hw]; exact h.ww⟩
theorem CalmS.didR (h : CalmS s m) {H : HS} (hw : H.ww = s.H.ww) {d : MD} (hd : 1 ≤ cost s.H.ww d) (code : Int) (v : Nat) : CalmR s.H.ww m d (didR { s with H := H } m code v) :=
  ⟨⟨h.pend, h.mode, h.q, by show 16 ≤ H.ww; rw [hw]; exact h.ww⟩, trivial, hw, by show 0 + 1 ≤ _; omega, by show (m.res ++ [(code, v)]).length = m.res.length + 1; simp⟩
theorem CalmS.gotR (h : CalmS s m) {H : HS} (hw : H.ww = s.H.ww) {d : MD} (hd : 1 ≤ cost s.H.ww d) (r : Int) (v : Nat) : CalmR s.H.ww m d (gotR { s with H := H } m r v) :=
  ⟨⟨h.pend, h.mode, h.q, by show 16 ≤ H.ww; rw [hw]; exact h.ww⟩, trivial, hw, by show 0 + 1 ≤ _; omega, by show (m.res ++ [((0 : Int), v)]).length = m.res.length + 1; simp⟩
theorem CalmS.next (h : CalmS s m) {H : HS} (hw : H.ww = s.H.ww) {d t : MD} (ht : calmD t) (hn : isNil t = false) (hd : cost s.H.ww t + 1 ≤ cost s.H.ww d) : CalmR s.H.ww m d ⟨{ s with H := H }, m, t, none⟩ :=
  ⟨h.heap hw, ht, hw, hd, by rw [hn]; rfl⟩
theorem pow_le16 {k : Nat} (hk : k < 4) : 2 ^ (k + 1) ≤ 16 ∧ 0 < 2 ^ (k + 1) := by
  rcases (by omega : k = 0 ∨ k = 1 ∨ k = 2 ∨ k = 3) with rfl | rfl | rfl | rfl <;> decide
theorem carve_calm {W : Nat} {o : OpR} {all : List Nat} (h1 : 1 ≤ all.length) : calmD (carveD o all) ∧ isNil (carveD o all) = false ∧ cost W (carveD o all) ≤ all.length + 17 := by
  unfold carveD
  split
  · rename_i e; exact ⟨trivial, rfl, by show 18 ≤ _; omega⟩
  · rename_i e; exact ⟨by show 2 ≤ _; omega, rfl, Nat.le_refl _⟩
theorem assign_calm {W : Nat} (H : HS) (o : OpR) {k : Nat} (hk : k < 4) (hw : 16 ≤ H.ww) (e : H.ww = W) (h : (H.assignP k).2.1 = 0) : calmD (carveD o (H.assignP k).1) ∧ isNil (carveD o (H.assignP k).1) = false ∧ cost W (carveD o (H.assignP k).1) ≤ W + 17 := by
  unfold HS.assignP at h ⊢
  split
  · rename_i e; rw [e] at h; cases h
  · rename_i B hB
    have hlt : B < H.K.length := by
      rw [List.findIdx?_eq_some_iff_getElem] at hB
      exact hB.1
    have hK : (H.assign B k).K.getD B 0 = k + 1 := by
      show (H.K.set B (k + 1)).getD B 0 = k + 1
      exact lset_same hlt _
    have hl : ((H.assign B k).slots B).length = H.ww / 2 ^ (k + 1) := by
      unfold HS.slots
      rw [hK, if_neg (by omega)]
      simp [slotsL, HS.assign]
    have hp := pow_le16 hk
    have h1 : 1 ≤ H.ww / 2 ^ (k + 1) := (Nat.le_div_iff_mul_le hp.2).2 (by omega)
    have h2 : H.ww / 2 ^ (k + 1) ≤ H.ww := Nat.div_le_self _ _
    obtain ⟨c1, c2, c3⟩ := carve_calm (W := W) (o := o) (all := (H.assign B k).slots B) (by rw [hl]; exact h1)
    exact ⟨c1, c2, by rw [hl] at c3; show cost W (carveD o ((H.assign B k).slots B)) ≤ _; omega⟩
theorem start_calm (h : CalmS s m) (o : OpR) : CalmR s.H.ww m (.start o) (startR s m o) := by
  have d := fun code v => h.didR (H := s.H) rfl (d := .start o) (by show 1 ≤ _ + 25; omega) code v
  have g := fun r v => h.gotR (H := s.H) rfl (d := .start o) (by show 1 ≤ _ + 25; omega) r v
  have nx := fun {t : MD} (ht : calmD t) (hn : isNil t = false) (hd : cost s.H.ww t + 1 ≤ cost s.H.ww (.start o)) => h.next (H := s.H) rfl ht hn hd
  have ly : ∀ v rd, m.layD v rd = .last rd := fun v rd => by unfold MS.layD; rw [if_pos h.mode]
  have fd : ∀ base f t, calmD t → isNil t = false → cost s.H.ww t ≤ 5 → CalmR s.H.ww m (.start o) (fieldR s m base f t) := fun base f t ht hn hc => by
    unfold fieldR
    split
    · exact d _ _
    · exact nx (t := .field base f t) ⟨ht, hn⟩ rfl (by show 1 + cost _ t + 1 ≤ _ + 25; omega)
  unfold startR
  repeat' split
  · exact d _ _
  · exact nx (t := .alloc o (ofK o.b)) trivial rfl (by show _ + 24 + 1 ≤ _ + 25; omega)
  · exact fd _ _ (.load o (m.reg o.b)) trivial rfl (by show 1 ≤ 5; omega)
  · rw [ly]; exact fd _ _ (.last (.field (m.reg o.a) o.b (m.reg o.c))) trivial rfl (by show 1 ≤ 5; omega)
  · exact nx (t := .get o) trivial rfl (by show 1 + 1 ≤ _ + 25; omega)
  · rw [ly]; exact nx (t := .last (.cell o.a (m.reg o.b))) trivial rfl (by show 1 + 1 ≤ _ + 25; omega)
  · exact ⟨⟨h.pend, h.mode, h.q, h.ww⟩, trivial, rfl, by show 0 + 1 ≤ _ + 25; omega, by show (m.res ++ [((0 : Int), 0)]).length = m.res.length + 1; simp⟩
  · exact g _ _
  · exact d _ _
theorem step_calm (h : CalmS s m) (d : MD) (hd : MDok m.regs.length d) (hc : calmD d) (hn : isNil d = false) : CalmR s.H.ww m d (stepM s m d) := by
  cases d with
  | nil => cases hn
  | start o => exact start_calm h o
  | field base f t =>
    simp only [stepM]
    split
    · exact h.didR (H := s.H) rfl (by show 1 ≤ 1 + _; omega) _ _
    · exact h.next (H := s.H) rfl hc.1 hc.2 (by show cost _ t + 1 ≤ 1 + cost _ t; omega)
  | load o base => exact h.gotR (H := s.H) rfl (d := .load o base) (Nat.le_refl 1) _ _
  | get o => exact h.gotR (H := s.H) rfl (d := .get o) (Nat.le_refl 1) _ _
  | last rd => exact h.didR (rdw_w rd).1 (d := .last rd) (Nat.le_refl 1) _ _
  | alloc o k =>
    simp only [stepM]
    split
    · exact h.next (takeP_w k).1 (t := .fill o (s.H.takeP k).1) trivial rfl (by show 18 + 1 ≤ _ + 24; omega)
    · exact h.next (H := s.H) rfl (t := .assign o k) trivial rfl (by show _ + 23 + 1 ≤ _ + 24; omega)
  | assign o k =>
    simp only [stepM]
    split
    · rename_i e
      obtain ⟨c1, c2, c3⟩ := assign_calm s.H o hd.2 h.ww rfl e
      exact h.next (assignP_w k).1 c1 c2 (by show _ + 1 ≤ _ + 23; omega)
    · exact h.next (H := s.H) rfl (t := .claim o k) trivial rfl (by show 21 + 1 ≤ _ + 23; omega)
  | carve o all =>
    have hc' : 2 ≤ all.length := hc
    have hl : (all.take (all.length - 1)).length = all.length - 1 := by simp
    obtain ⟨c1, c2, c3⟩ := carve_calm (W := s.H.ww) (o := o) (all := all.take (all.length - 1)) (by omega)
    exact h.next (putP_w _).1 c1 c2 (by show _ + 1 ≤ all.length + 17; omega)
  | claim o k =>
    simp only [stepM]
    rw [h.q k]
    exact h.next (H := s.H) rfl (t := .again o k) trivial rfl (by show 20 + 1 ≤ 21; omega)
  | again o k =>
    simp only [stepM]
    split
    · exact h.next (takeP_w k).1 (t := .fill o (s.H.takeP k).1) trivial rfl (by show 18 + 1 ≤ 20; omega)
    · exact h.didR (H := s.H) rfl (by show 1 ≤ 20; omega) _ _
  | fill o a => exact h.next (beginP_w _ _).1 (t := .zero o a 0) trivial rfl (by show 16 - 0 + 1 ≤ 18; omega)
  | zero o a i =>
    obtain ⟨hd1, hd2⟩ := hd
    have h15 := hd1.2.2
    simp only [stepM]
    split
    · exact h.gotR (bearP_w _ _).1 (by show 1 ≤ 16 - i; omega) _ _
    · exact h.next (storeP_w _ _ _).1 (t := .zero o a (i + 1)) trivial rfl (by show 16 - (i + 1) + 1 ≤ 16 - i; omega)
  | _ => exact hc.elim
/-- A calm mutator between its picks. -/
structure Calm (s : Sh) (m : MS) : Prop where
  s : CalmS s m
  nx : calmD m.next
  le : m.res.length ≤ m.prog.length
  lt : isNil m.next = false → m.res.length < m.prog.length
/-- How many picks there are still, at most. -/
def todo (W : Nat) (m : MS) : Nat := if isNil m.next then (m.prog.length - m.res.length) * (W + 27) else (m.prog.length - m.res.length - 1) * (W + 27) + cost W m.next
theorem isNil_eq {d : MD} (h : isNil d = true) : d = .nil := by cases d <;> first | rfl | cases h
theorem calm_cost {W R : Nat} : ∀ d : MD, MDok R d → calmD d → isNil d = false → 1 ≤ cost W d := by
  intro d ho hc hn
  cases d with
  | nil => cases hn
  | zero o a i =>
    obtain ⟨h1, h2⟩ := ho
    have := h1.2.2
    show 1 ≤ 16 - i; omega
  | field b f t => show 1 ≤ 1 + _; omega
  | start o => show 1 ≤ _ + 25; omega
  | alloc o k => show 1 ≤ _ + 24; omega
  | assign o k => show 1 ≤ _ + 23; omega
  | carve o all => show 1 ≤ _ + 17; omega
  | claim o k => show 1 ≤ 21; omega
  | again o k => show 1 ≤ 20; omega
  | fill o k => show 1 ≤ 18; omega
  | load _ _ => exact Nat.le_refl 1
  | get _ => exact Nat.le_refl 1
  | last _ => exact Nat.le_refl 1
  | _ => exact hc.elim
theorem CalmS.congr {m' : MS} (h : CalmS s m) (e : m'.id = m.id ∧ m'.mode = m.mode) : CalmS s m' := ⟨by rw [e.1]; exact h.pend, by rw [e.2]; exact h.mode, h.q, h.ww⟩
/-- A pick of a calm mutator whose program has not ended. -/
theorem pick_calm {N : Nat} (ok : Pok N s m) (h : Calm s m) (hd : doneM m = false) : Calm (pickM s m).1 (pickM s m).2.1 ∧ (pickM s m).1.H.ww = s.H.ww ∧ todo s.H.ww (pickM s m).2.1 + 1 ≤ todo s.H.ww m := by
  have hle := h.le
  have hp := (pick_ok ok).2.2.2.1
  unfold pickM at hp ⊢
  by_cases hn : isNil m.next = true
  · rw [if_pos hn] at hp ⊢
    have hlt : m.res.length < m.prog.length := by
      unfold doneM at hd
      rw [hn, Bool.true_and] at hd
      have := of_decide_eq_false hd
      omega
    have hb : beginD s m = .start (m.prog[m.res.length]'hlt) := by
      unfold beginD
      rw [h.s.pend, if_neg (by decide), List.getElem?_eq_getElem hlt]
    refine ⟨⟨h.s.congr ⟨rfl, rfl⟩, ?_, hle, fun _ => hlt⟩, rfl, ?_⟩
    · show calmD (beginD s m)
      rw [hb]; trivial
    · unfold todo
      show (if isNil (beginD s m) = true then _ else _) + 1 ≤ _
      rw [hb, if_neg (fun e => by cases e), if_pos hn]
      show (m.prog.length - m.res.length - 1) * (s.H.ww + 27) + (s.H.ww + 25) + 1 ≤ _
      have e : m.prog.length - m.res.length = (m.prog.length - m.res.length - 1) + 1 := by omega
      generalize m.prog.length - m.res.length - 1 = q at *
      rw [e, Nat.add_mul]
      omega
  · rw [if_neg hn] at hp ⊢
    have hn' : isNil m.next = false := by simpa using hn
    have hlt := h.lt hn'
    have hsok : Sok N s { m with spent := m.spent + 1 } := ⟨ok.color, ok.want, ok.opn, ok.res, ok.q, ok.rl⟩
    have r := step_calm (m := { m with spent := m.spent + 1 }) (h.s.congr ⟨rfl, rfl⟩) m.next ok.nx h.nx hn'
    have rk := step_ok hsok m.next ok.nx
    have ep : (stepM s { m with spent := m.spent + 1 } m.next).m.prog = m.prog := rk.prog
    generalize stepM s { m with spent := m.spent + 1 } m.next = R at *
    obtain ⟨rs, rn, rw', rl, rr⟩ := r
    simp only at hp ⊢
    by_cases hr : isNil R.next = true
    · rw [if_pos hr] at hp ⊢
      rw [hr, if_pos rfl] at rr
      simp only at rr
      have er : (MS.most { R.m with next := .nil }).res = R.m.res ∧ (MS.most { R.m with next := .nil }).prog = R.m.prog ∧ (MS.most { R.m with next := .nil }).next = .nil ∧ (MS.most { R.m with next := .nil }).id = R.m.id ∧ (MS.most { R.m with next := .nil }).mode = R.m.mode := by
        unfold MS.most
        split <;> exact ⟨rfl, rfl, rfl, rfl, rfl⟩
      generalize MS.most { R.m with next := .nil } = M at *
      obtain ⟨e1, e2, e3, e4, e5⟩ := er
      refine ⟨⟨rs.congr ⟨e4, e5⟩, by rw [e3]; trivial, by rw [e1, e2, ep, rr]; omega, fun hf => by rw [e3] at hf; cases hf⟩, rw', ?_⟩
      unfold todo
      rw [e3, if_pos (by decide), if_neg hn, e1, e2, ep, rr]
      have hc := calm_cost (W := s.H.ww) m.next ok.nx h.nx hn'
      have e : m.prog.length - (m.res.length + 1) = m.prog.length - m.res.length - 1 := by omega
      rw [e]; omega
    · rw [if_neg hr] at hp ⊢
      have hr' : isNil R.next = false := by simpa using hr
      rw [hr', if_neg (by decide)] at rr
      simp only at rr
      refine ⟨⟨rs.congr ⟨rfl, rfl⟩, rn, ?_, fun _ => ?_⟩, rw', ?_⟩
      · show R.m.res.length ≤ R.m.prog.length
        rw [rr, ep]; exact hle
      · show R.m.res.length < R.m.prog.length
        rw [rr, ep]; exact hlt
      · unfold todo
        show (if isNil R.next = true then _ else (R.m.prog.length - R.m.res.length - 1) * _ + cost _ R.next) + 1 ≤ _
        rw [if_neg hr, if_neg hn, rr, ep]
        omega
/-- A pick of a calm mutator whose program has ended. -/
theorem pick_done (h : Calm s m) (hd : doneM m = true) : pickM s m = (s, { m with spent := 1, ans := false }, none) := by
  unfold doneM at hd
  rw [Bool.and_eq_true] at hd
  have e := isNil_eq hd.1
  have e2 : m.res.length = m.prog.length := of_decide_eq_true hd.2
  unfold pickM
  rw [if_pos hd.1]
  have hb : beginD s m = .nil := by
    unfold beginD
    rw [h.s.pend, if_neg (by decide), List.getElem?_eq_none (by omega)]
  rw [hb, h.s.pend, ← e]
theorem Calm.first {c : Conf} {id : Nat} {prog : List OpR} (hp : s.B.pend id = false) (hq : ∀ k, s.Q.rw k = []) (hw : 16 ≤ s.H.ww) : Calm s (MS.new c id prog) :=
  ⟨⟨hp, rfl, hq, hw⟩, trivial, Nat.zero_le _, fun h => by cases h⟩
/-- Behind so many picks its program has ended. -/
theorem todo_done (h : Calm s m) (h0 : todo s.H.ww m = 0) {N : Nat} (ok : Pok N s m) : doneM m = true := by
  unfold todo at h0
  unfold doneM
  have hle := h.le
  by_cases hn : isNil m.next = true
  · rw [if_pos hn] at h0
    rw [hn, Bool.true_and]
    rcases Nat.mul_eq_zero.1 h0 with h1 | h1
    · exact decide_eq_true (by omega)
    · omega
  · rw [if_neg hn] at h0
    have hc := calm_cost (W := s.H.ww) m.next ok.nx h.nx (by simpa using hn)
    omega
end
end Go.Proofs.YtjdnkhljgnjkcaaGreatDoor

/- A mutator's pick, where there is no next step. -/
namespace Go.Proofs.YtjdnkhljgnjkcaaGreatDoor
open Go.RowKit
attribute [local go_sem] Oper.semAt_some

/-- What a pick leaves. -/
def PickPost (o : Ow) (w : World) (G : Geo) (g : MG) (s : Sh) (m : MS) : Ending → World → Prop := fun e w' => ∃ o', e = .returned (.tuple #[evAgg (pickM s m).2.2, evTold (pickM s m).2.2]) ∧ OExt w o o' ∧ MutAt o' w' G g (pickM s m).1 (pickM s m).2.1 ∧ Keep (In o (stepI m.id)) w w'
section
variable {o o' : Ow} {w w' : World} {G : Geo} {g : MG} {s : Sh} {m : MS} {nv : Value} {ev : Option Ev}
theorem MAt.c19 (h : MAt o w G g s m ev nv) : w.cell? ⟨g.M, 19, none⟩ = some (.int .i64 (m.spent : Int)) := h.cell 19 _ (fun _ _ => rfl)
theorem MAt.c22 (h : MAt o w G g s m ev nv) : w.cell? ⟨g.M, 22, none⟩ = some (.bool m.ans) := h.cell 22 _ (fun _ _ => rfl)
theorem MAt.withEv (h : MAt o w G g s m ev nv) : ∀ nv', MAt o (w.setCell ⟨g.M, 17, none⟩ nv') G g s m ev nv' ∧ Keep (In o [20 + m.id]) w (w.setCell ⟨g.M, 17, none⟩ nv') := fun nv' => h.put 17 nv' m ev nv' (fun pv rv => rfl) ⟨rfl, rfl, rfl, rfl, rfl, rfl⟩
/-- Facts of the mutator's struct behind the making of a block. -/
theorem MAt.behind (h : MAt o w G g s m ev nv) : (∃ a b c d e f t, ∀ x, (w.alloc x).cell? ⟨g.M, 23, none⟩ = some a ∧ (w.alloc x).cell? ⟨g.M, 24, none⟩ = some b ∧ (w.alloc x).cell? ⟨g.M, 25, none⟩ = some c ∧ (w.alloc x).cell? ⟨g.M, 26, none⟩ = some d ∧ (w.alloc x).cell? ⟨g.M, 27, none⟩ = some e ∧ (w.alloc x).cell? ⟨g.M, 28, none⟩ = some f ∧ (w.alloc x).cell? ⟨g.M, 29, none⟩ = some t) ∧
    (∀ x, (w.alloc x).cell? ⟨g.M, 19, none⟩ = some (.int .i64 (m.spent : Int))) ∧ (∀ x, (w.alloc x).cell? ⟨g.M, 17, none⟩ = some nv) ∧ (∀ x i, (w.alloc x).frozen? ⟨g.M, i, none⟩ = false) := by
  obtain ⟨a, b, c, d, e, f, t, e0, e1, e2, e3, e4, e5, e6⟩ := h.evs
  have k : ∀ x, Keep none_ w (w.alloc x) := fun x => (Keep.refl _ _).alloc x
  exact ⟨⟨a, b, c, d, e, f, t, fun x => ⟨(k x).still e0, (k x).still e1, (k x).still e2, (k x).still e3, (k x).still e4, (k x).still e5, (k x).still e6⟩⟩, fun x => (h.still (k x)).c19, fun x => (h.still (k x)).c17, fun x i => (h.still (k x)).free i⟩
set_option maxRecDepth 8000 in
set_option maxHeartbeats 8000000 in
theorem mPick_idle (h : MAt o w G g s m ev nv) (hn : NClo o w (G.D 0) (g.Nt, g.M) (30 + m.id) m.next nv) (hnil : isNil m.next = true) (hsp : m.spent ≤ 1000000) : Calls Tryz.prog 11 #[.pointer (some ⟨g.M, 0, none⟩)] w (PickPost o w G g s m) := by
  have i8 : m.id < 8 := Nat.lt_of_lt_of_le h.idl h.box8
  obtain ⟨o1, W2, hW2, hext, hR, h2, n2, k2, hB⟩ := h.pick0 hn
  obtain ⟨⟨x0, x1, x2, x3, x4, x5, x6, hx⟩, hsp0, hnx0, hfr0⟩ := h.behind
  have enx := isNil_eq hnil
  rw [enx] at hn n2
  obtain rfl : nv = .nilFunc := hn
  have HP : Hid (∀ W3, W3 = W2.setCell ⟨g.M, 19, none⟩ (.int .i64 1) → Calls Tryz.prog 54 #[.pointer (some ⟨g.M, 0, none⟩)] W3 fun e w4 => ∃ v, e = .returned v ∧ (v = .nilFunc ∨ ∃ (fn : Nat) (caps : Array Value), v = .func (.func fn) #[] caps) ∧ w4.frozen? ⟨g.M, 17, none⟩ = false ∧ w4.cell? ⟨g.M, 17, none⟩ = some .nilFunc ∧
      ∀ W5, W5 = w4.setCell ⟨g.M, 17, none⟩ v → (W5.cell? ⟨g.M, 23, none⟩ = some (.int .i64 0) ∧ W5.cell? ⟨g.M, 24, none⟩ = some (.int .i64 0) ∧ W5.cell? ⟨g.M, 25, none⟩ = some (.int .i64 0) ∧ W5.cell? ⟨g.M, 26, none⟩ = some (.int .i64 0) ∧ W5.cell? ⟨g.M, 27, none⟩ = some (.int .i64 0) ∧ W5.cell? ⟨g.M, 28, none⟩ = some (.int .i64 0) ∧ W5.cell? ⟨g.M, 29, none⟩ = some (.bool false)) ∧
        Blk W5 w.heap.size zero6.toList 35 ∧ Hid (∀ w6, Keep (only w.heap.size) W5 w6 → PickPost o w G g s m (.returned (.tuple #[.agg zero6, .bool false])) w6)) := fun W3 hW3 => by
    have h3 : MAt o1 W3 G g s { m with spent := 1 } none .nilFunc ∧ Keep (In o1 [20 + m.id]) W2 W3 := by
      rw [hW3]; exact h2.put 19 (.int .i64 1) { m with spent := 1 } none .nilFunc (fun pv rv => rfl) ⟨rfl, rfl, rfl, rfl, rfl, rfl⟩
    refine (mBegin_any h3.1).mono ?_
    rintro e w4 ⟨v, rfl, h4, c4, k4⟩
    refine ⟨v, rfl, c4.form, h4.free 17, h4.c17, fun W5 hW5 => ?_⟩
    obtain ⟨h5, k5⟩ := h4.withEv v
    rw [← hW5] at h5 k5
    have k25 : Keep (In o1 [20 + m.id]) W2 W5 := (h3.2.trans k4).trans k5
    have hB5 : Blk W5 w.heap.size zero6.toList 35 := hB.keepO k25 hR (by simp <;> omega)
    have c5 : MClo o1 W5 g.Nt g.M (beginD s { m with spent := 1 }) v := c4.keepO k5 (by simp <;> omega)
    refine ⟨⟨h5.cell 23 _ (fun _ _ => rfl), h5.cell 24 _ (fun _ _ => rfl), h5.cell 25 _ (fun _ _ => rfl), h5.cell 26 _ (fun _ _ => rfl), h5.cell 27 _ (fun _ _ => rfl), h5.cell 28 _ (fun _ _ => rfl), h5.cell 29 _ (fun _ _ => rfl)⟩, hB5, fun w6 k6 => ?_⟩
    obtain ⟨h6, n6⟩ := h5.pickEnd (d := beginD s m) (v := v) (NClo.of (g := (g.Nt, g.M)) c5) k6 hR
    have ep : pickM s m = (s, { m with spent := 1, ans := s.B.pend m.id, next := beginD s m }, none) := by
      unfold pickM
      rw [if_pos hnil]
    unfold PickPost
    rw [ep]
    refine ⟨o1, rfl, hext, ⟨none, v, h6.withNext (beginD s m), n6⟩, ?_⟩
    have k26 : Keep (fun b => In o1 [20 + m.id] b ∨ b = w.heap.size) W2 w6 := (k25.mono (fun _ _ h => Or.inl h)).trans (k6.mono (fun b _ h => Or.inr h))
    refine k2.trans' k26 (fun i hi hin => ?_)
    rcases hin with hin | hin
    · unfold In at hin ⊢
      rw [hext i hi] at hin
      simp at hin
      simp [stepI, hin]
    · omega
  have hspI : (m.spent : Int) ≤ 1000000 := by omega
  have hsp0I : (0 : Int) ≤ (m.spent : Int) := by omega
  have hW2' := hW2
  unfold clearW at hW2'
  have HW2 := Lib.hid hW2'
  have hnq := neq_nil
  have f17 := fun x => hfr0 x 17
  have f19 := fun x => hfr0 x 19
  have f23 := fun x => hfr0 x 23
  have f24 := fun x => hfr0 x 24
  have f25 := fun x => hfr0 x 25
  have f26 := fun x => hfr0 x 26
  have f27 := fun x => hfr0 x 27
  have f28 := fun x => hfr0 x 28
  have f29 := fun x => hfr0 x 29
  have g23 := fun x => (hx x).1
  have g24 := fun x => (hx x).2.1
  have g25 := fun x => (hx x).2.2.1
  have g26 := fun x => (hx x).2.2.2.1
  have g27 := fun x => (hx x).2.2.2.2.1
  have g28 := fun x => (hx x).2.2.2.2.2.1
  have g29 := fun x => (hx x).2.2.2.2.2.2
  generalize PickPost o w G g s m = PO at *
  generalize m.spent = sp at *
  clear h h2 n2 k2 hext hW2 hW2' hx hfr0 hB enx hnil hsp
  go_enter Tryz.func11, Tryz.ntmps11
  go_wp2_with fail
  rw [← HW2.out]
  refine (HP.out _ rfl).mono ?_
  rintro e w4 ⟨v, rfl, hform, e17, d17, hs⟩
  obtain ⟨W5, hW5⟩ : ∃ W5, W5 = w4.setCell ⟨g.M, 17, none⟩ v := ⟨_, rfl⟩
  obtain ⟨⟨y0, y1, y2, y3, y4, y5, y6⟩, hB5, hend⟩ := hs W5 hW5
  obtain ⟨W6, hW6⟩ : ∃ W6, W6 = W5.drew := ⟨_, rfl⟩
  have k56 : Keep none_ W5 W6 := by rw [hW6]; exact (Keep.refl none_ W5).drew
  have hB6 := k56.blk hB5 (fun f => f)
  have HEND := Lib.hid hend
  have HW5 := Lib.hid hW5
  have HB6 := Lib.hid hB6
  have zf0 := hB5.free 0
  have zf1 := hB5.free 1
  have zf2 := hB5.free 2
  have zf3 := hB5.free 3
  have zf4 := hB5.free 4
  have zf5 := hB5.free 5
  have z0 : W5.cell? ⟨w.heap.size, 0, none⟩ = some (.int .i64 0) := hB5.cell 0 rfl
  have z1 : W5.cell? ⟨w.heap.size, 1, none⟩ = some (.int .i64 0) := hB5.cell 1 rfl
  have z2 : W5.cell? ⟨w.heap.size, 2, none⟩ = some (.int .i64 0) := hB5.cell 2 rfl
  have z3 : W5.cell? ⟨w.heap.size, 3, none⟩ = some (.int .i64 0) := hB5.cell 3 rfl
  have z4 : W5.cell? ⟨w.heap.size, 4, none⟩ = some (.int .i64 0) := hB5.cell 4 rfl
  have z5 : W5.cell? ⟨w.heap.size, 5, none⟩ = some (.int .i64 0) := hB5.cell 5 rfl
  have x0' := k56.still y0; have x1' := k56.still y1; have x2' := k56.still y2; have x3' := k56.still y3; have x4' := k56.still y4; have x5' := k56.still y5; have x6' := k56.still y6
  rw [hW6] at x0' x1' x2' x3' x4' x5' x6'
  have yf0 := hB6.free 0
  have yf1 := hB6.free 1
  have yf2 := hB6.free 2
  have yf3 := hB6.free 3
  have yf4 := hB6.free 4
  have yf5 := hB6.free 5
  have r0 : W6.cell? ⟨w.heap.size, 0, none⟩ = some (.int .i64 0) := hB6.cell 0 rfl
  have r1 : W6.cell? ⟨w.heap.size, 1, none⟩ = some (.int .i64 0) := hB6.cell 1 rfl
  have r2 : W6.cell? ⟨w.heap.size, 2, none⟩ = some (.int .i64 0) := hB6.cell 2 rfl
  have r3 : W6.cell? ⟨w.heap.size, 3, none⟩ = some (.int .i64 0) := hB6.cell 3 rfl
  have r4 : W6.cell? ⟨w.heap.size, 4, none⟩ = some (.int .i64 0) := hB6.cell 4 rfl
  have r5 : W6.cell? ⟨w.heap.size, 5, none⟩ = some (.int .i64 0) := hB6.cell 5 rfl
  rw [hW6] at r0 r1 r2 r3 r4 r5 yf0 yf1 yf2 yf3 yf4 yf5
  clear f17 f19 f23 f24 f25 f26 f27 f28 f29 g23 g24 g25 g26 g27 g28 g29 hsp0 hnx0 hend hs hW5 hB5 hB6 HB6 hspI hsp0I HP k56 hW6
  rcases hform with rfl | ⟨fn, caps, rfl⟩
  all_goals
    go_wp2_with fail
    rw [← HW5.out]
    clear e17 d17
    go_region
    go_wp2_with fail
    refine bodyPost_ret (v := .tuple #[.agg zero6, .bool false]) (by simp [results, Tryz.f11, go_sem, zf0, zf1, zf2, zf3, zf4, zf5, z0, z1, z2, z3, z4, z5]) rfl ?_
    exact HEND.out _ ((((((((Keep.refl (only w.heap.size) _).put _ _).put _ _).put _ _).put _ _).put _ _).put _ _).drew)
end
end Go.Proofs.YtjdnkhljgnjkcaaGreatDoor

/- A mutator's pick, where there is a next step. -/
namespace Go.Proofs.YtjdnkhljgnjkcaaGreatDoor
open Go.RowKit
attribute [local go_sem] Oper.semAt_some

section
variable {o o' : Ow} {w w' : World} {G : Geo} {g : MG} {s : Sh} {m : MS} {nv : Value} {ev : Option Ev}
theorem MAt.evs3 (h : MAt o w G g s m ev nv) : ∃ (a b c d e : Int) (t : Bool), (w.cell? ⟨g.M, 23, none⟩ = some (.int .i64 0) ∧ w.cell? ⟨g.M, 24, none⟩ = some (.int .i64 a) ∧ w.cell? ⟨g.M, 25, none⟩ = some (.int .i64 b) ∧ w.cell? ⟨g.M, 26, none⟩ = some (.int .i64 c) ∧ w.cell? ⟨g.M, 27, none⟩ = some (.int .i64 d) ∧ w.cell? ⟨g.M, 28, none⟩ = some (.int .i64 e) ∧ w.cell? ⟨g.M, 29, none⟩ = some (.bool t)) ∧ evAgg ev = .agg #[.int .i64 0, .int .i64 a, .int .i64 b, .int .i64 c, .int .i64 d, .int .i64 e] ∧ evTold ev = .bool t := by
  cases ev with
  | none =>
    refine ⟨0, 0, 0, 0, 0, false, ⟨?_, ?_, ?_, ?_, ?_, ?_, ?_⟩, rfl, rfl⟩
    all_goals exact h.cell _ _ (fun _ _ => rfl)
  | some x =>
    refine ⟨x.who, x.kind, x.op, x.code, x.value, true, ⟨?_, ?_, ?_, ?_, ?_, ?_, ?_⟩, rfl, rfl⟩
    all_goals exact h.cell _ _ (fun _ _ => rfl)
/-- The pick's end, where the next step is laid: the result's block is written alone. -/
theorem pick_fin {o1 o2 : Ow} {W2 W4 w6 : World} {m2 : MS} {s2 : Sh} {v : Value} (hext : OExt w o o1) (hR : o1 w.heap.size = 99) (hlt : w.heap.size < W2.heap.size) (k2 : Keep (In o (stepI m.id)) w W2) (e2 : OExt W2 o1 o2) (k4 : Keep (In o1 (stepI m.id)) W2 W4)
    (h4 : MAt o2 W4 G g s2 m2 ev v) (hid : m2.id = m.id) (n4 : NClo o2 W4 (G.D 0) (g.Nt, g.M) (30 + m2.id) m2.next v) (hp : pickM s m = (s2, m2, ev)) (k6 : Keep (only w.heap.size) W4 w6) : PickPost o w G g s m (.returned (.tuple #[evAgg ev, evTold ev])) w6 := by
  have hR2 : o2 w.heap.size = 99 := (e2 _ hlt).trans hR
  obtain ⟨h6, n6⟩ := h4.pickEnd n4 k6 hR2
  unfold PickPost
  rw [hp]
  refine ⟨o2, rfl, hext.trans k2.size e2, ⟨ev, v, h6, n6⟩, ?_⟩
  have k46 : Keep (fun b => In o1 (stepI m.id) b ∨ b = w.heap.size) W2 w6 := (k4.mono (fun _ _ h => Or.inl h)).trans (k6.mono (fun b _ h => Or.inr h))
  refine k2.trans' k46 (fun i hi hin => ?_)
  rcases hin with hin | hin
  · unfold In at hin ⊢
    rw [hext i hi] at hin
    exact hin
  · omega
set_option maxRecDepth 8000 in
set_option maxHeartbeats 8000000 in
theorem mPick_on {N : Nat} (h : MAt o w G g s m ev nv) (hn : NClo o w (G.D 0) (g.Nt, g.M) (30 + m.id) m.next nv) (ok : Pok N s m) (hN : N ≤ 1000000) (hnn : isNil m.next = false) (hgo : isNil (stepM s { m with spent := m.spent + 1 } m.next).next = false) : Calls Tryz.prog 11 #[.pointer (some ⟨g.M, 0, none⟩)] w (PickPost o w G g s m) := by
  have i8 : m.id < 8 := Nat.lt_of_lt_of_le h.idl h.box8
  obtain ⟨o1, W2, hW2, hext, hR, h2, n2, k2, hB⟩ := h.pick0 hn
  obtain ⟨⟨x0, x1, x2, x3, x4, x5, x6, hx⟩, hsp0, hnx0, hfr0⟩ := h.behind
  have hsok : Sok N s { m with spent := m.spent + 1 } := ⟨ok.color, ok.want, ok.opn, ok.res, ok.q, ok.rl⟩
  obtain ⟨fn, bs, hnv, hcf, hS⟩ := step_any h2 hsok hN m.next ok.nx nv n2 hnn
  have rk := step_ok hsok m.next ok.nx
  have hp : pickM s m = ((stepM s { m with spent := m.spent + 1 } m.next).s, { (stepM s { m with spent := m.spent + 1 } m.next).m with next := (stepM s { m with spent := m.spent + 1 } m.next).next }, (stepM s { m with spent := m.spent + 1 } m.next).ev) := by
    unfold pickM
    rw [hnn, if_neg (by decide)]
    simp only [hgo, Bool.false_eq_true, if_false]
  have hid := rk.id
  simp only at hid
  obtain ⟨caps, hcaps⟩ : ∃ caps, caps = (bs.map ptrV).toArray := ⟨_, rfl⟩
  rw [← hcaps] at hnv hS
  clear hcaps
  generalize stepM s { m with spent := m.spent + 1 } m.next = R at *
  have HS : Hid (Calls Tryz.prog fn caps W2 fun e w3 => ∃ fn3 caps3, e = .returned (.func (.func fn3) #[] caps3) ∧ w3.frozen? ⟨g.M, 17, none⟩ = false ∧ w3.cell? ⟨g.M, 17, none⟩ = some nv ∧
      ∀ W4, W4 = w3.setCell ⟨g.M, 17, none⟩ (.func (.func fn3) #[] caps3) → W4.cell? ⟨g.M, 17, none⟩ = some (.func (.func fn3) #[] caps3) ∧ ∃ (a b c d e : Int) (t : Bool), (W4.cell? ⟨g.M, 23, none⟩ = some (.int .i64 0) ∧ W4.cell? ⟨g.M, 24, none⟩ = some (.int .i64 a) ∧ W4.cell? ⟨g.M, 25, none⟩ = some (.int .i64 b) ∧ W4.cell? ⟨g.M, 26, none⟩ = some (.int .i64 c) ∧ W4.cell? ⟨g.M, 27, none⟩ = some (.int .i64 d) ∧ W4.cell? ⟨g.M, 28, none⟩ = some (.int .i64 e) ∧ W4.cell? ⟨g.M, 29, none⟩ = some (.bool t)) ∧
        Blk W4 w.heap.size zero6.toList 35 ∧ Hid (∀ w6, Keep (only w.heap.size) W4 w6 → PickPost o w G g s m (.returned (.tuple #[.agg #[.int .i64 0, .int .i64 a, .int .i64 b, .int .i64 c, .int .i64 d, .int .i64 e], .bool t])) w6)) := by
    refine hS.mono ?_
    rintro e w3 ⟨o2, v3, rfl, e2, h3, n3, k3⟩
    rcases n3.form2 with ⟨hc, _⟩ | ⟨_, fn3, caps3, rfl⟩
    · rw [hgo] at hc; cases hc
    refine ⟨fn3, caps3, rfl, h3.free 17, h3.c17, fun W4 hW4 => ?_⟩
    obtain ⟨h4, k4⟩ := h3.withEv (.func (.func fn3) #[] caps3)
    rw [← hW4] at h4 k4
    rw [hid] at k4
    obtain ⟨a, b, c, d, e, t, hcs, ea, et⟩ := h4.evs3
    have k24 : Keep (In o1 (stepI m.id)) W2 W4 := k3.transO (k4.moreO (by simp [stepI])) e2
    have hB4 : Blk W4 w.heap.size zero6.toList 35 := hB.keepO k24 hR (by simp [stepI] <;> omega)
    refine ⟨h4.c17, a, b, c, d, e, t, hcs, hB4, fun w6 k6 => ?_⟩
    rw [← ea, ← et]
    have n4 : NClo o2 W4 (G.D 0) (g.Nt, g.M) (30 + R.m.id) R.next (.func (.func fn3) #[] caps3) := by
      rw [hid]; exact n3.keepO k4 (by simp <;> omega) (by simp <;> omega)
    exact pick_fin hext hR hB.lt k2 e2 k24 (h4.withNext R.next) hid n4 hp k6
  have hsp := ok.sp
  have hspI : (m.spent : Int) ≤ 1000000 := by omega
  have hsp0I : (0 : Int) ≤ (m.spent : Int) := by omega
  have hW2' := hW2
  unfold clearW at hW2'
  have HW2 := Lib.hid hW2'
  subst hnv
  have hnq := neq_func fn caps
  have heq := eql_func
  have f17 := fun x => hfr0 x 17
  have f19 := fun x => hfr0 x 19
  have f23 := fun x => hfr0 x 23
  have f24 := fun x => hfr0 x 24
  have f25 := fun x => hfr0 x 25
  have f26 := fun x => hfr0 x 26
  have f27 := fun x => hfr0 x 27
  have f28 := fun x => hfr0 x 28
  have f29 := fun x => hfr0 x 29
  have g23 := fun x => (hx x).1
  have g24 := fun x => (hx x).2.1
  have g25 := fun x => (hx x).2.2.1
  have g26 := fun x => (hx x).2.2.2.1
  have g27 := fun x => (hx x).2.2.2.2.1
  have g28 := fun x => (hx x).2.2.2.2.2.1
  have g29 := fun x => (hx x).2.2.2.2.2.2
  generalize PickPost o w G g s m = PO at *
  generalize m.spent = sp at *
  clear h hn h2 n2 k2 hext hW2 hW2' hx hfr0 hB hnn hgo hsp rk hsok hp ok hS hid
  go_enter Tryz.func11, Tryz.ntmps11
  go_wp2_with fail
  rw [← HW2.out]
  refine HS.out.mono ?_
  rintro e w3 ⟨fn3, caps3, rfl, e17, d17, hs⟩
  obtain ⟨W5, hW5⟩ : ∃ W5, W5 = w3.setCell ⟨g.M, 17, none⟩ (.func (.func fn3) #[] caps3) := ⟨_, rfl⟩
  obtain ⟨z17, a, b, c, d, e, t, ⟨y0, y1, y2, y3, y4, y5, y6⟩, hB5, hend⟩ := hs W5 hW5
  have HEND := Lib.hid hend
  obtain ⟨W6, hW6⟩ : ∃ W6, W6 = W5.drew := ⟨_, rfl⟩
  have k56 : Keep none_ W5 W6 := by rw [hW6]; exact (Keep.refl none_ W5).drew
  have hB6 := k56.blk hB5 (fun f => f)
  have HW5 := Lib.hid hW5
  have zf0 := hB5.free 0
  have zf1 := hB5.free 1
  have zf2 := hB5.free 2
  have zf3 := hB5.free 3
  have zf4 := hB5.free 4
  have zf5 := hB5.free 5
  have z0 : W5.cell? ⟨w.heap.size, 0, none⟩ = some (.int .i64 0) := hB5.cell 0 rfl
  have z1 : W5.cell? ⟨w.heap.size, 1, none⟩ = some (.int .i64 0) := hB5.cell 1 rfl
  have z2 : W5.cell? ⟨w.heap.size, 2, none⟩ = some (.int .i64 0) := hB5.cell 2 rfl
  have z3 : W5.cell? ⟨w.heap.size, 3, none⟩ = some (.int .i64 0) := hB5.cell 3 rfl
  have z4 : W5.cell? ⟨w.heap.size, 4, none⟩ = some (.int .i64 0) := hB5.cell 4 rfl
  have z5 : W5.cell? ⟨w.heap.size, 5, none⟩ = some (.int .i64 0) := hB5.cell 5 rfl
  have x0' := k56.still y0; have x1' := k56.still y1; have x2' := k56.still y2; have x3' := k56.still y3; have x4' := k56.still y4; have x5' := k56.still y5; have x6' := k56.still y6
  have yf0 := hB6.free 0
  have yf1 := hB6.free 1
  have yf2 := hB6.free 2
  have yf3 := hB6.free 3
  have yf4 := hB6.free 4
  have yf5 := hB6.free 5
  have r0 : W6.cell? ⟨w.heap.size, 0, none⟩ = some (.int .i64 0) := hB6.cell 0 rfl
  have r1 : W6.cell? ⟨w.heap.size, 1, none⟩ = some (.int .i64 0) := hB6.cell 1 rfl
  have r2 : W6.cell? ⟨w.heap.size, 2, none⟩ = some (.int .i64 0) := hB6.cell 2 rfl
  have r3 : W6.cell? ⟨w.heap.size, 3, none⟩ = some (.int .i64 0) := hB6.cell 3 rfl
  have r4 : W6.cell? ⟨w.heap.size, 4, none⟩ = some (.int .i64 0) := hB6.cell 4 rfl
  have r5 : W6.cell? ⟨w.heap.size, 5, none⟩ = some (.int .i64 0) := hB6.cell 5 rfl
  rw [hW6] at r0 r1 r2 r3 r4 r5 yf0 yf1 yf2 yf3 yf4 yf5 x0' x1' x2' x3' x4' x5' x6'
  clear f17 f19 f23 f24 f25 f26 f27 f28 f29 g23 g24 g25 g26 g27 g28 g29 hsp0 hnx0 hend hs hB5 hB6 hspI hsp0I HS k56 hW6 hnq hcf
  rw [hW5] at z17
  clear hW5
  go_wp2_with fail
  rw [← HW5.out]
  clear e17 d17 z17
  go_region
  go_wp2_with fail
  refine bodyPost_ret (v := .tuple #[.agg #[.int .i64 0, .int .i64 a, .int .i64 b, .int .i64 c, .int .i64 d, .int .i64 e], .bool t]) (by simp [results, Tryz.f11, go_sem, zf0, zf1, zf2, zf3, zf4, zf5, z0, z1, z2, z3, z4, z5]) rfl ?_
  exact HEND.out _ ((((((((Keep.refl (only w.heap.size) _).put _ _).put _ _).put _ _).put _ _).put _ _).put _ _).drew)
end
end Go.Proofs.YtjdnkhljgnjkcaaGreatDoor
