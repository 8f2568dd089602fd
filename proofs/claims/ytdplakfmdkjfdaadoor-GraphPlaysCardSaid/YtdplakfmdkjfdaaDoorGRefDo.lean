/- The reference's graph: Do. -/
import Derived.Test.YtdplakfmdkjfdaaDoorGRefLay
import Derived.Test.YtdplakfmdkjfdaaDoorRCheck
import Derived.Test.YtdplakfmdkjfdaaDoorStillMid
import Derived.Test.YtdplakfmdkjfdaaDoorAppAt
import Derived.Deep.QuietTactic
import Derived.BigQuiet
import Derived.BigRegion
import Derived.StillTailTactics
namespace Go.Proofs.YtdplakfmdkjfdaaDoor
open Go.RowKit Go.Sort
attribute [local go_sem ↓] app9_of

theorem own_ne3 {w : World} {e e' : TypeId} {s s' : Nat} {v u : Value} {n m : Nat} {xs ys : List Value} (h : w.ownsRow 0 e s v n xs) (h' : w.ownsRow 0 e' s' u m ys) (hne : e ≠ e') {k : Nat} (hv : v.ownBlock = some k) (hu : u.ownBlock = some k) : False := by
  rcases h.2 with ⟨rfl, _⟩ | ⟨g, cap, cur, rfl, _, hg, _⟩
  · simp [Value.ownBlock] at hv
  · rcases h'.2 with ⟨rfl, _⟩ | ⟨g', cap', cur', rfl, _, hg', _⟩
    · simp [Value.ownBlock] at hu
    · simp [Value.ownBlock] at hv hu
      subst hv hu
      rw [hg] at hg'
      simp at hg'
      exact hne hg'.2
section
variable {F : Nat → Prop} {B : Nat} {c : Conf} {S : List Int} {L : List PlaceR} {vs vl : Value} {w : World}
/-- One size more. -/
theorem RRep.add (h : RRep F B c S L vs vl w) (hF : ∀ k, w.heap.size ≤ k → F k) {w1 w2 : World} (hk1 : Keep none_ w w1) {b : Int} {g cap : Nat} (how : w2.ownsRow 0 3 1 (.slice (some ⟨g, 0, none⟩) (S.length + 1) cap) (S.length + 1) (S.map (Value.int .i64) ++ [.int .i64 b]))
    (hgr : w1.grownBy w2 vs.ownBlock) (hwh : vs.ownBlock = some g ∨ w1.heap.size ≤ g) : RRep F B c (S ++ [b]) L (.slice (some ⟨g, 0, none⟩) (S.length + 1) cap) vl (w2.setCell ⟨B, 7, none⟩ (.slice (some ⟨g, 0, none⟩) (S.length + 1) cap)) ∧
      Keep F w (w2.setCell ⟨B, 7, none⟩ (.slice (some ⟨g, 0, none⟩) (S.length + 1) cap)) := by
  have h1 := h.still hk1
  have hsz := hk1.size
  have hb2 := h1.blk.grown hgr (own_ne h1.blk h1.siz (by decide))
  have hlst2 : w2.ownsRow 0 88 4 vl L.length (plc L) := own_keep (S := fun i => vs.ownBlock = some i) h1.lst ⟨hgr.os, hgr.tape, hgr.output, hgr.size, fun k hk n => hgr.block k hk (fun e => n e.symm)⟩ (fun k hk e => own_ne3 h1.lst h1.siz (by decide) hk e)
  have hgB : ∀ k, (Value.slice (some ⟨g, 0, none⟩) (S.length + 1) cap).ownBlock = some k → k ≠ B := fun k hk e => own_ne hb2 how (by decide) (by rw [hk, e])
  have hlB : ∀ k, vl.ownBlock = some k → k ≠ B := fun k hk e => own_ne hb2 hlst2 (by decide) (by rw [hk, e])
  constructor
  · refine ⟨hb2.set 7 _, ?_, ?_, h.fB, ?_, h.fl⟩
    · have e : (S ++ [b]).length = S.length + 1 := by simp
      rw [e, List.map_append]
      exact own_other how hgB _
    · exact ownsRow_setCell_other hlst2 (fun e => hlB _ e rfl) _
    · intro k he
      simp [Value.ownBlock] at he
      subst he
      rcases hwh with hw | hw
      · exact h.fs g hw
      · exact hF g (by omega)
  · have k2 : Keep F w w2 := (hk1.mono (fun _ _ f => f.elim)).grown hgr (fun k hk _ => h.fs k hk)
    exact k2.setCell (p := ⟨B, 7, none⟩) (fun _ => h.fB) _
end

section
variable {c : Conf} {S : List Int} {L : List PlaceR} {mi k a b t : Int} (h1 : ¬ (mi < 0 ∨ c.m ≤ mi))
include h1
theorem rdo_bad (o : OpR) (h2 : chk c o ≠ 0) : rdo c S L mi o = (S, L, 0, chk c o) := by unfold rdo; rw [if_neg h1, if_pos h2]
theorem rdo1 (h2 : chk c ⟨1, a, b, t⟩ = 0) : rdo c S L mi ⟨1, a, b, t⟩ = (S ++ [b], layL L 1 mi a ((S.length : Int) + 1), (S.length : Int) + 1, 0) := by unfold rdo; rw [if_neg h1, if_neg (not_not_intro h2)]; rfl
theorem rdo2z (h2 : chk c ⟨2, a, b, t⟩ = 0) (h3 : atL L 1 mi b = 0) : rdo c S L mi ⟨2, a, b, t⟩ = (S, L, 0, 6) := by
  unfold rdo; rw [if_neg h1, if_neg (not_not_intro h2)]; simp only [Int.reduceEq, reduceIte]; rw [if_pos h3]
theorem rdo2b (h2 : chk c ⟨2, a, b, t⟩ = 0) (h3 : atL L 1 mi b ≠ 0) (h4 : t < 0 ∨ S.getD (atL L 1 mi b - 1).toNat 0 ≤ t) : rdo c S L mi ⟨2, a, b, t⟩ = (S, L, 0, 7) := by
  unfold rdo; rw [if_neg h1, if_neg (not_not_intro h2)]; simp only [Int.reduceEq, reduceIte]; rw [if_neg h3, if_pos h4]
theorem rdo2 (h2 : chk c ⟨2, a, b, t⟩ = 0) (h3 : atL L 1 mi b ≠ 0) (h4 : ¬ (t < 0 ∨ S.getD (atL L 1 mi b - 1).toNat 0 ≤ t)) : rdo c S L mi ⟨2, a, b, t⟩ = (S, layL L 1 mi a (atL L 3 (atL L 1 mi b) t), atL L 3 (atL L 1 mi b) t, 0) := by
  unfold rdo; rw [if_neg h1, if_neg (not_not_intro h2)]; simp only [Int.reduceEq, reduceIte]; rw [if_neg h3, if_neg h4]
theorem rdo3z (h2 : chk c ⟨3, a, b, t⟩ = 0) (h3 : atL L 1 mi a = 0) : rdo c S L mi ⟨3, a, b, t⟩ = (S, L, 0, 6) := by
  unfold rdo; rw [if_neg h1, if_neg (not_not_intro h2)]; simp only [Int.reduceEq, reduceIte]; rw [if_pos h3]
theorem rdo3b (h2 : chk c ⟨3, a, b, t⟩ = 0) (h3 : atL L 1 mi a ≠ 0) (h4 : b < 0 ∨ S.getD (atL L 1 mi a - 1).toNat 0 ≤ b) : rdo c S L mi ⟨3, a, b, t⟩ = (S, L, 0, 7) := by
  unfold rdo; rw [if_neg h1, if_neg (not_not_intro h2)]; simp only [Int.reduceEq, reduceIte]; rw [if_neg h3, if_pos h4]
theorem rdo3 (h2 : chk c ⟨3, a, b, t⟩ = 0) (h3 : atL L 1 mi a ≠ 0) (h4 : ¬ (b < 0 ∨ S.getD (atL L 1 mi a - 1).toNat 0 ≤ b)) : rdo c S L mi ⟨3, a, b, t⟩ = (S, layL L 3 (atL L 1 mi a) b (atL L 1 mi t), 0, 0) := by
  unfold rdo; rw [if_neg h1, if_neg (not_not_intro h2)]; simp only [Int.reduceEq, reduceIte]; rw [if_neg h3, if_neg h4]
theorem rdo4 (h2 : chk c ⟨4, a, b, t⟩ = 0) : rdo c S L mi ⟨4, a, b, t⟩ = (S, layL L 1 mi a (atL L 2 0 b), atL L 2 0 b, 0) := by unfold rdo; rw [if_neg h1, if_neg (not_not_intro h2)]; rfl
theorem rdo5 (h2 : chk c ⟨5, a, b, t⟩ = 0) : rdo c S L mi ⟨5, a, b, t⟩ = (S, layL L 2 0 a (atL L 1 mi b), 0, 0) := by unfold rdo; rw [if_neg h1, if_neg (not_not_intro h2)]; rfl
theorem rdo6 (h2 : chk c ⟨6, a, b, t⟩ = 0) : rdo c S L mi ⟨6, a, b, t⟩ = (S, layL L 1 mi a 0, 0, 0) := by unfold rdo; rw [if_neg h1, if_neg (not_not_intro h2)]; rfl
theorem rdo7 (h2 : chk c ⟨7, a, b, t⟩ = 0) : rdo c S L mi ⟨7, a, b, t⟩ = (S, layL L 1 mi a (atL L 1 mi b), atL L 1 mi b, 0) := by unfold rdo; rw [if_neg h1, if_neg (not_not_intro h2)]; rfl
theorem rdo8 (h2 : chk c ⟨8, a, b, t⟩ = 0) : rdo c S L mi ⟨8, a, b, t⟩ = (S, L, 0, 0) := by unfold rdo; rw [if_neg h1, if_neg (not_not_intro h2)]; rfl
end

section
variable {F : Nat → Prop} {B : Nat} {c : Conf} {S : List Int} {L : List PlaceR} {vs vl : Value} {w : World}
set_option maxRecDepth 4000 in
set_option maxHeartbeats 8000000 in
theorem rDo_any (h : RRep F B c S L vs vl w) (hF : ∀ k, w.heap.size ≤ k → F k) (hl : L.length ≤ 90000) (hS : S.length ≤ 1000) (mi : Int) (o : OpR) (hobj : ∀ b, atL L 1 mi b ≠ 0 → 1 ≤ atL L 1 mi b ∧ atL L 1 mi b ≤ (S.length : Int)) :
    Calls Tryd.prog 26 #[.pointer (some ⟨B, 0, none⟩), .int .i64 mi, .agg o.cells.toArray] w fun e w' =>
      e = .returned (.tuple #[.int .i64 (rdo c S L mi o).2.2.1, .int .i64 (rdo c S L mi o).2.2.2]) ∧ (∃ vs' vl', RRep F B c (rdo c S L mi o).1 (rdo c S L mi o).2.1 vs' vl' w') ∧ Keep F w w' := by
  have HH := Lib.hid h
  have HAT : Hid (∀ W, Keep none_ w W → ∀ k m n, Calls Tryd.prog 30 #[.pointer (some ⟨B, 0, none⟩), .int .i64 k, .int .i64 m, .int .i64 n] W fun e w' => e = .returned (.int .i64 (atL L k m n)) ∧ w' = W) := fun W hW k m n =>
    rAt_any (h.still hW) (by omega) k m n
  have HLAY : Hid (∀ W, Keep none_ w W → ∀ k m n x, Calls Tryd.prog 51 #[.pointer (some ⟨B, 0, none⟩), .int .i64 k, .int .i64 m, .int .i64 n, .int .i64 x] W fun e w' => e = .returned (.tuple #[]) ∧ (∃ vl', RRep F B c S (layL L k m n x) vs vl' w') ∧ Keep F w w') := fun W hW k m n x =>
    (rLay_any (h.still hW) (fun k hk => hF k (Nat.le_trans hW.size hk)) (by omega) k m n x).mono (fun e w' ⟨h1, h2, h3⟩ => ⟨h1, h2, (Keep.mono hW (fun _ _ f => f.elim)).trans (h3.mono (fun i _ hi => by cases hi; exact h.fB))⟩)
  obtain ⟨d, hd⟩ : ∃ d, d = rdo c S L mi o := ⟨_, rfl⟩
  rw [← hd]
  have HD := Lib.hid hd
  clear hd
  obtain ⟨W0, hW0⟩ : ∃ W', W' = w.alloc (.cells o.cells.toArray 35) := ⟨_, rfl⟩
  have HK0 : Hid (Keep none_ w W0) := by rw [hW0]; exact (Keep.refl _ _).alloc _
  have HB0 : Hid (Blk W0 w.heap.size o.cells 35) := by rw [hW0]; exact Blk.new w _ _
  have HX : Hid (B < w.heap.size) := h.blk.lt
  have HF := Lib.hid hF
  have HOBJ := Lib.hid hobj
  obtain ⟨c0, c1, c2, c3, c4, c5, c6⟩ := c
  obtain ⟨ok, oa, ob, oc⟩ := o
  simp only [OpR.cells] at hW0 HB0
  simp only [OpR.cells]
  have y0 := HK0.out.still (h.blk.cell 0 rfl); have y1 := HK0.out.still (h.blk.cell 1 rfl); have y2 := HK0.out.still (h.blk.cell 2 rfl); have y3 := HK0.out.still (h.blk.cell 3 rfl); have y4 := HK0.out.still (h.blk.cell 4 rfl); have y5 := HK0.out.still (h.blk.cell 5 rfl); have y6 := HK0.out.still (h.blk.cell 6 rfl)
  have x0 := HB0.out.cell 0 rfl; have x1 := HB0.out.cell 1 rfl; have x2 := HB0.out.cell 2 rfl; have x3 := HB0.out.cell 3 rfl
  clear h hF hobj
  simp only at y2
  have y2w := y2
  rw [hW0] at y2w
  simp only at y0 y1 y2 y3 y4 y5 y6
  have early : ∀ e : Int, d = (S, L, 0, e) → ∀ W, Keep none_ w W → (Ending.returned (.tuple #[.int .i64 0, .int .i64 e]) = Ending.returned (.tuple #[.int .i64 d.2.2.1, .int .i64 d.2.2.2])) ∧ (∃ vs' vl', RRep F B ⟨c0, c1, c2, c3, c4, c5, c6⟩ d.1 d.2.1 vs' vl' W) ∧ Keep F w W := by
    intro e he W hW
    rw [he]
    exact ⟨rfl, ⟨vs, vl, HH.out.still hW⟩, Keep.mono hW (fun _ _ f => f.elim)⟩
  have EARLY := Lib.hid early
  clear early
  by_cases h1 : mi < 0
  · have HD1 : Hid (d = (S, L, 0, 4)) := by rw [Hid, HD.out]; unfold rdo; rw [if_pos (Or.inl h1)]
    have e1 : decide (mi < 0) = true := decide_eq_true h1
    go_enter Tryd.func26, Tryd.ntmps26
    go_wp2_with fail
    rw [← hW0]
    go_ret2
    exact EARLY.out 4 HD1.out _ HK0.out
  have e1 : decide (mi < 0) = false := decide_eq_false h1
  by_cases h2 : c2 ≤ mi
  · have HD1 : Hid (d = (S, L, 0, 4)) := by rw [Hid, HD.out]; unfold rdo; rw [if_pos (Or.inr h2)]
    have e2 : decide (c2 ≤ mi) = true := decide_eq_true h2
    go_enter Tryd.func26, Tryd.ntmps26
    go_wp2_with fail
    rw [← hW0]
    go_ret2
    exact EARLY.out 4 HD1.out _ HK0.out
  have e2 : decide (c2 ≤ mi) = false := decide_eq_false h2
  obtain ⟨ce, hce⟩ : ∃ ce, ce = chk ⟨c0, c1, c2, c3, c4, c5, c6⟩ ⟨ok, oa, ob, oc⟩ := ⟨_, rfl⟩
  have HCE := Lib.hid hce
  have HCK := Lib.hid (rCheck_any ⟨c0, c1, c2, c3, c4, c5, c6⟩ ⟨ok, oa, ob, oc⟩ W0.drew)
  rw [← hce] at HCK
  simp only [Conf.cells, OpR.cells] at HCK
  have HN : Hid (¬ (mi < 0 ∨ c2 ≤ mi)) := fun h => h.elim h1 h2
  clear hce h1 h2
  go_enter Tryd.func26, Tryd.ntmps26
  go_wp2_with fail
  rw [← hW0]
  clear y2w hW0
  refine wp_region_still_mid 5 rfl (by kernel_rfl) (by kernel_rfl) (fun K hK => ?_)
  change wpStill _ _ (World.drew _) _ _ _
  simp only [List.take_succ_cons, List.take_zero, List.drop_succ_cons, List.drop_zero] at hK ⊢
  repeat still_step
  refine wpStill_nil ?_
  change ite _ (Oper.wp _ _ _ W0.drew _ _) _
  go_simp
  refine HCK.out.mono ?_
  rintro e W1 ⟨rfl, hk1⟩
  refine hK _ _ ?_
  clear hK K
  repeat still_step
  refine wpStill_nil ?_
  have HK1 : Hid (Keep none_ w W1) := (HK0.out.drew).trans hk1
  have HB1 : Hid (Blk W1 w.heap.size [.int .i64 ok, .int .i64 oa, .int .i64 ob, .int .i64 oc] 35) := hk1.blk HB0.out.drew (fun f => f)
  clear hk1 HCK HB0 HK0 x0 x1 x2 x3 y0 y1 y2 y3 y4 y5 y6
  have x0 := HB1.out.cell 0 rfl; have x1 := HB1.out.cell 1 rfl; have x2 := HB1.out.cell 2 rfl; have x3 := HB1.out.cell 3 rfl
  by_cases hce : ce = 0
  case neg =>
    have HD1 : Hid (d = (S, L, 0, ce)) := by rw [Hid, HD.out, HCE.out]; exact rdo_bad HN.out _ (by rw [← HCE.out]; exact hce)
    have e3 : (ce != 0) = true := by simpa using hce
    clear hce
    go_wp2_with fail
    go_ret2
    exact EARLY.out ce HD1.out _ HK1.out
  subst hce
  have HCE' : Hid (chk ⟨c0, c1, c2, c3, c4, c5, c6⟩ ⟨ok, oa, ob, oc⟩ = 0) := HCE.out.symm
  have HAT2 : Hid (∀ W, Keep none_ w W → ∀ k m n, Calls Tryd.prog 30 #[.pointer (some ⟨B, 0, none⟩), .int .i64 k, .int .i64 m, .int .i64 n] W fun e w' => e = .returned (.int .i64 (atL L k m n)) ∧ W = w') := fun W hW k m n =>
    (HAT.out W hW k m n).mono (fun _ _ h => And.intro h.1 h.2.symm)
  clear HCE
  rcases chk_cases HCE'.out with ⟨hk, -, -⟩ | ⟨hk, -, -⟩ | ⟨hk, -, -⟩ | ⟨hk, -, -⟩ | ⟨hk, -, -⟩ | ⟨hk, -⟩ | ⟨hk, -, -⟩ | hk <;> simp only at hk <;> subst hk
  case inl =>
    have HD1 : Hid (d = _) := HD.out.trans (rdo1 HN.out HCE'.out)
    have hown : ((W1.alloc (.cells #[.int .i64 ob] 3)).drew).ownsRow 0 3 1 vs S.length (S.map (Value.int .i64)) := own_still HH.out.siz (HK1.out.alloc _).drew
    have hcell : ((W1.alloc (.cells #[.int .i64 ob] 3)).drew).cell? ⟨W1.heap.size, 0, none⟩ = some (.int .i64 ob) := (Blk.new W1 [.int .i64 ob] 3).drew.cell 0 rfl
    obtain ⟨g2, cap2, W2, hrun0, how, hgr, hwh⟩ := app_where (P := Tryd.prog) _ 39 39 3 (by kernel_rfl) Tryd.infoInt rfl hown hcell rfl (by decide) (by omega)
    have hrun : (app9 #[39, 39] 39 #[vs, .slice (some ⟨W1.heap.size, 0, none⟩) 1 1]).run Tryd.prog ((W1.alloc (.cells #[.int .i64 ob] 3)).drew) = .ok (.slice (some ⟨g2, 0, none⟩) (S.length + 1) cap2) W2 := hrun0
    have hadd := HH.out.add HF.out (HK1.out.alloc (.cells #[.int .i64 ob] 3)).drew how hgr hwh
    have hb1 := (HH.out.still (HK1.out.alloc (.cells #[.int .i64 ob] 3)).drew)
    have hb2 := hb1.blk.grown hgr (own_ne hb1.blk hb1.siz (by decide))
    have cB2 : W2.cell? ⟨B, 7, none⟩ = some vs := hb2.cell 7 rfl
    have fB2 : W2.frozen? ⟨B, 7, none⟩ = false := hb2.free 7
    have cB1 : W1.cell? ⟨B, 7, none⟩ = some vs := HK1.out.still (HH.out.blk.cell 7 rfl)
    have cB1' : ∀ o, (W1.alloc o).cell? ⟨B, 7, none⟩ = some vs := fun o => (HK1.out.alloc o).still (HH.out.blk.cell 7 rfl)
    obtain ⟨W3, hW3⟩ : ∃ W', W' = W2.setCell ⟨B, 7, none⟩ (.slice (some ⟨g2, 0, none⟩) (S.length + 1) cap2) := ⟨_, rfl⟩
    rw [← hW3] at hadd
    have hbx3 : Blk W3 w.heap.size [.int .i64 1, .int .i64 oa, .int .i64 ob, .int .i64 oc] 35 := by
      rw [hW3]
      have hBw := HX.out
      refine (((((Keep.refl none_ W1).alloc _).drew.blk HB1.out (fun f => f)).grown hgr (fun e => ?_))).other (a := ⟨B, 7, none⟩) (by simp; omega) _
      have := (World.ownsRow.lt HH.out.siz _ e).2
      omega
    have HW3 := Lib.hid hW3
    have HADD := Lib.hid hadd.1
    have HKA := Lib.hid hadd.2
    have HB3 := Lib.hid hbx3
    have y7 : W3.cell? ⟨B, 7, none⟩ = some (.slice (some ⟨g2, 0, none⟩) (S.length + 1) cap2) := hadd.1.blk.cell 7 rfl
    have q1 := hbx3.cell 1 rfl
    clear hrun0 hown hcell how hgr hwh hadd hb1 hb2 hbx3 hW3
    go_wp2_with fail
    go_region
    rw [← HW3.out]
    clear HW3 hrun cB1 cB1' cB2 fB2
    go_wp2_with (go_at_call 51; refine (rLay_any HADD.out (fun k hk => HF.out k (Nat.le_trans HKA.out.size hk)) (by omega) _ _ _ _).mono ?_; rintro e w2 ⟨rfl, hr2, hk2⟩; have HR2 := Lib.hid hr2; have HK2 := Lib.hid hk2; clear hr2 hk2)
    go_ret2
    rw [HD1.out]
    exact ⟨rfl, ⟨_, HR2.out⟩, HKA.out.trans (HK2.out.mono (fun i _ hi => by cases hi; exact HH.out.fB))⟩
  case inr.inl =>
    obtain ⟨bs, hbs⟩ : ∃ bs, bs = atL L 1 mi ob := ⟨_, rfl⟩
    have HBS := Lib.hid hbs
    have HATB : Hid (∀ W, Keep none_ w W → Calls Tryd.prog 30 #[.pointer (some ⟨B, 0, none⟩), .int .i64 1, .int .i64 mi, .int .i64 ob] W fun e w' => e = .returned (.int .i64 bs) ∧ w' = W) := fun W hW => by rw [hbs]; exact HAT.out W hW 1 mi ob
    clear hbs
    go_wp2_with fail
    go_quiet (first | (go_at_call 30; exact Calls.quiet_of_same (HATB.out _ (HK1.out.drewN _))))
    by_cases hb : bs = 0
    · subst hb
      have HD1 : Hid (d = (S, L, 0, 6)) := HD.out.trans (rdo2z HN.out HCE'.out HBS.out.symm)
      go_wp2_with fail
      go_ret2
      exact EARLY.out 6 HD1.out _ (HK1.out.drewN _)
    · obtain ⟨q, rfl, hqS⟩ : ∃ q : Nat, bs = (q : Int) + 1 ∧ q < S.length := by
        have h1 := HOBJ.out ob (by rw [← HBS.out]; exact hb)
        rw [← HBS.out] at h1
        exact ⟨(bs - 1).toNat, by omega, by omega⟩
      have HNZ : Hid (atL L 1 mi ob ≠ 0) := by rw [Hid, ← HBS.out]; exact hb
      have HQ : Hid ((atL L 1 mi ob - 1).toNat = q) := by rw [Hid, ← HBS.out]; omega
      obtain ⟨sa, caps, hvs, hcs, -⟩ := HH.out.sizes
      have y7 := HK1.out.still (HH.out.blk.cell 7 rfl)
      rw [hvs] at y7
      obtain ⟨sb, so, rfl, hci⟩ := (hcs.below HK1.out).at_ (by omega)
      have y7q := hci q hqS
      obtain ⟨sv, hsv⟩ : ∃ sv, sv = S.getD q 0 := ⟨_, rfl⟩
      rw [← hsv] at y7q
      have HSV := Lib.hid hsv
      obtain ⟨M, hM⟩ : ∃ M, M = S.length := ⟨_, rfl⟩
      rw [← hM] at y7 hqS hS
      clear hvs hcs hci hsv hM hb
      have hqI : (q : Int) < (M : Int) := by omega
      have hq0 : (0 : Int) ≤ (q : Int) := by omega
      have hqz : ((q : Int) + 1 == 0) = false := by simp; omega
      by_cases hf : oc < 0 ∨ sv ≤ oc
      · have HD1 : Hid (d = (S, L, 0, 7)) := HD.out.trans (rdo2b HN.out HCE'.out HNZ.out (by rw [HQ.out, ← HSV.out]; exact hf))
        by_cases hf0 : oc < 0
        · have d0 : decide (oc < 0) = true := decide_eq_true hf0
          clear hf hf0
          go_wp2_with fail
          go_ret2
          exact EARLY.out 7 HD1.out _ (HK1.out.drewN _)
        · have d0 : decide (oc < 0) = false := decide_eq_false hf0
          have d1 : decide (sv ≤ oc) = true := decide_eq_true (hf.resolve_left hf0)
          clear hf hf0
          go_wp2_with fail
          go_ret2
          exact EARLY.out 7 HD1.out _ (HK1.out.drewN _)
      · have HD1 : Hid (d = (S, layL L 1 mi oa (atL L 3 ((q : Int) + 1) oc), atL L 3 ((q : Int) + 1) oc, 0)) := by
          rw [Hid, HD.out, rdo2 HN.out HCE'.out HNZ.out (by rw [HQ.out, ← HSV.out]; exact hf), ← HBS.out]
        have d0 : decide (oc < 0) = false := decide_eq_false (fun h => hf (.inl h))
        have d1 : decide (sv ≤ oc) = false := decide_eq_false (fun h => hf (.inr h))
        clear hf
        go_wp2_with (first | (go_at_call 30; refine (HAT2.out _ (HK1.out.drewN _) _ _ _).mono ?_; rintro e w8 ⟨rfl, rfl⟩) | (go_at_call 51; refine (HLAY.out _ (HK1.out.drewN _) _ _ _ _).mono ?_; rintro e w2 ⟨rfl, hr2, hk2⟩; have HR2 := Lib.hid hr2; have HK2 := Lib.hid hk2; clear hr2 hk2))
        go_ret2
        rw [HD1.out]
        exact ⟨rfl, ⟨vs, HR2.out⟩, HK2.out⟩
  case inr.inr.inl =>
    obtain ⟨bs, hbs⟩ : ∃ bs, bs = atL L 1 mi oa := ⟨_, rfl⟩
    have HBS := Lib.hid hbs
    have HATB : Hid (∀ W, Keep none_ w W → Calls Tryd.prog 30 #[.pointer (some ⟨B, 0, none⟩), .int .i64 1, .int .i64 mi, .int .i64 oa] W fun e w' => e = .returned (.int .i64 bs) ∧ w' = W) := fun W hW => by rw [hbs]; exact HAT.out W hW 1 mi oa
    clear hbs
    go_wp2_with fail
    go_quiet (first | (go_at_call 30; exact Calls.quiet_of_same (HAT.out _ (HK1.out.drewN _) _ _ _)))
    obtain ⟨W2, hW2⟩ : ∃ W2, W2 = W1.drewN nq := ⟨_, rfl⟩
    rw [← hW2]
    have HK2 : Hid (Keep none_ w W2) := by rw [hW2]; exact HK1.out.drewN _
    have HB2 : Hid (Blk W2 w.heap.size [.int .i64 3, .int .i64 oa, .int .i64 ob, .int .i64 oc] 35) := by rw [hW2]; exact HB1.out
    clear hW2 x0 x1 x2 x3 HK1 HB1
    have x0 := HB2.out.cell 0 rfl; have x1 := HB2.out.cell 1 rfl; have x2 := HB2.out.cell 2 rfl; have x3 := HB2.out.cell 3 rfl
    go_wp2_with fail
    go_quiet (first | (go_at_call 30; exact Calls.quiet_of_same (HATB.out _ (HK2.out.drewN _))))
    by_cases hb : bs = 0
    · subst hb
      have HD1 : Hid (d = (S, L, 0, 6)) := HD.out.trans (rdo3z HN.out HCE'.out HBS.out.symm)
      go_wp2_with fail
      go_ret2
      exact EARLY.out 6 HD1.out _ (HK2.out.drewN _)
    · obtain ⟨q, rfl, hqS⟩ : ∃ q : Nat, bs = (q : Int) + 1 ∧ q < S.length := by
        have h1 := HOBJ.out oa (by rw [← HBS.out]; exact hb)
        rw [← HBS.out] at h1
        exact ⟨(bs - 1).toNat, by omega, by omega⟩
      have HNZ : Hid (atL L 1 mi oa ≠ 0) := by rw [Hid, ← HBS.out]; exact hb
      have HQ : Hid ((atL L 1 mi oa - 1).toNat = q) := by rw [Hid, ← HBS.out]; omega
      obtain ⟨sa, caps, hvs, hcs, -⟩ := HH.out.sizes
      have y7 := HK2.out.still (HH.out.blk.cell 7 rfl)
      rw [hvs] at y7
      obtain ⟨sb, so, rfl, hci⟩ := (hcs.below HK2.out).at_ (by omega)
      have y7q := hci q hqS
      obtain ⟨sv, hsv⟩ : ∃ sv, sv = S.getD q 0 := ⟨_, rfl⟩
      rw [← hsv] at y7q
      have HSV := Lib.hid hsv
      obtain ⟨M, hM⟩ : ∃ M, M = S.length := ⟨_, rfl⟩
      rw [← hM] at y7 hqS hS
      clear hvs hcs hci hsv hM hb
      have hqI : (q : Int) < (M : Int) := by omega
      have hq0 : (0 : Int) ≤ (q : Int) := by omega
      have hqz : ((q : Int) + 1 == 0) = false := by simp; omega
      by_cases hf : ob < 0 ∨ sv ≤ ob
      · have HD1 : Hid (d = (S, L, 0, 7)) := HD.out.trans (rdo3b HN.out HCE'.out HNZ.out (by rw [HQ.out, ← HSV.out]; exact hf))
        by_cases hf0 : ob < 0
        · have d0 : decide (ob < 0) = true := decide_eq_true hf0
          clear hf hf0
          go_wp2_with fail
          go_ret2
          exact EARLY.out 7 HD1.out _ (HK2.out.drewN _)
        · have d0 : decide (ob < 0) = false := decide_eq_false hf0
          have d1 : decide (sv ≤ ob) = true := decide_eq_true (hf.resolve_left hf0)
          clear hf hf0
          go_wp2_with fail
          go_ret2
          exact EARLY.out 7 HD1.out _ (HK2.out.drewN _)
      · have HD1 : Hid (d = (S, layL L 3 ((q : Int) + 1) ob (atL L 1 mi oc), 0, 0)) := by
          rw [Hid, HD.out, rdo3 HN.out HCE'.out HNZ.out (by rw [HQ.out, ← HSV.out]; exact hf), ← HBS.out]
        have d0 : decide (ob < 0) = false := decide_eq_false (fun h => hf (.inl h))
        have d1 : decide (sv ≤ ob) = false := decide_eq_false (fun h => hf (.inr h))
        clear hf
        go_wp2_with (first | (go_at_call 30; refine (HAT2.out _ (HK2.out.drewN _) _ _ _).mono ?_; rintro e w8 ⟨rfl, rfl⟩) | (go_at_call 51; refine (HLAY.out _ (HK2.out.drewN _) _ _ _ _).mono ?_; rintro e w2 ⟨rfl, hr2, hk2⟩; have HR2 := Lib.hid hr2; have HK2 := Lib.hid hk2; clear hr2 hk2))
        go_ret2
        rw [HD1.out]
        exact ⟨rfl, ⟨vs, HR2.out⟩, HK2.out⟩
  case inr.inr.inr.inl =>
    have HD1 : Hid (d = _) := HD.out.trans (rdo4 HN.out HCE'.out)
    go_wp2_with (first | (go_at_call 30; refine (HAT2.out _ HK1.out _ _ _).mono ?_; rintro e w8 ⟨rfl, rfl⟩) | (go_at_call 51; refine (HLAY.out _ HK1.out _ _ _ _).mono ?_; rintro e w2 ⟨rfl, hr2, hk2⟩; have HR2 := Lib.hid hr2; have HK2 := Lib.hid hk2; clear hr2 hk2))
    go_ret2
    rw [HD1.out]
    exact ⟨rfl, ⟨vs, HR2.out⟩, HK2.out⟩
  case inr.inr.inr.inr.inl =>
    have HD1 : Hid (d = _) := HD.out.trans (rdo5 HN.out HCE'.out)
    go_wp2_with fail
    refine wp_region_still_tail 8 (by kernel_rfl) (by kernel_rfl) ?_
    change wpStill _ _ (World.drew _) _ _ _
    simp only [List.take_succ_cons, List.take_zero, List.drop_succ_cons, List.drop_zero]
    repeat still_step
    still_call (HAT.out _ HK1.out.drew _ _ _)
    refine wpStill_nil ?_
    change wpList _ _ _ _ _ W1.drew
    go_wp2_with (go_at_call 51; refine (HLAY.out _ HK1.out.drew _ _ _ _).mono ?_; rintro e w2 ⟨rfl, hr2, hk2⟩; have HR2 := Lib.hid hr2; have HK2 := Lib.hid hk2; clear hr2 hk2)
    go_ret2
    rw [HD1.out]
    exact ⟨rfl, ⟨vs, HR2.out⟩, HK2.out⟩
  case inr.inr.inr.inr.inr.inl =>
    have HD1 : Hid (d = _) := HD.out.trans (rdo6 HN.out HCE'.out)
    go_wp2_with (go_at_call 51; refine (HLAY.out _ HK1.out _ _ _ _).mono ?_; rintro e w2 ⟨rfl, hr2, hk2⟩; have HR2 := Lib.hid hr2; have HK2 := Lib.hid hk2; clear hr2 hk2)
    go_ret2
    rw [HD1.out]
    exact ⟨rfl, ⟨vs, HR2.out⟩, HK2.out⟩
  case inr.inr.inr.inr.inr.inr.inl =>
    have HD1 : Hid (d = _) := HD.out.trans (rdo7 HN.out HCE'.out)
    go_wp2_with (first | (go_at_call 30; refine (HAT2.out _ HK1.out _ _ _).mono ?_; rintro e w8 ⟨rfl, rfl⟩) | (go_at_call 51; refine (HLAY.out _ HK1.out _ _ _ _).mono ?_; rintro e w2 ⟨rfl, hr2, hk2⟩; have HR2 := Lib.hid hr2; have HK2 := Lib.hid hk2; clear hr2 hk2))
    go_ret2
    rw [HD1.out]
    exact ⟨rfl, ⟨vs, HR2.out⟩, HK2.out⟩
  case inr.inr.inr.inr.inr.inr.inr =>
    have HD1 : Hid (d = _) := HD.out.trans (rdo8 HN.out HCE'.out)
    go_wp2_with fail
    go_ret2
    exact EARLY.out 0 HD1.out _ HK1.out
end
end Go.Proofs.YtdplakfmdkjfdaaDoor
