/- Do: the road through the map of deeds, for whatever deed; and its errors. -/
import Derived.Test.YtkjplkkjdlanhaaGreatDoorDeedMap
import Derived.Deep.RegionHeld3
namespace Go.Proofs.YtkjplkkjdlanhaaGreatDoor
open Go.RowKit Go.Sort

section
variable {F : Nat → Prop} {B : Nat} {c : Conf} {m : Nat} {vs : List Value} {vr vc vo : Value} {R : List (List Int)} {w : World}

/-- The slice of rows, and a row of it. -/
theorem GRep.reg (h : GRep F B c m vs vr vc vo R w) {k : Nat} {v : Value} (hk : k < m) (hv : vs[k]? = some v) : ∃ gr capr, vr = .slice (some ⟨gr, 0, none⟩) m capr ∧ w.cell? ⟨gr, k, none⟩ = some v := by
  obtain ⟨a, cap, e, hl, hn, _, hc⟩ := own_form h.regs
  have hq : (vs.take m)[k]? = some v := by rw [List.getElem?_take_of_lt hk]; exact hv
  obtain ⟨g, rfl, h1, _⟩ := hc k v hq
  exact ⟨g, cap, e, h1⟩
theorem GRep.nregs (h : GRep F B c m vs vr vc vo R w) : ∃ a capr, vr = .slice a m capr := by
  obtain ⟨a, cap, e, _⟩ := own_form h.regs
  exact ⟨a, cap, e⟩

set_option maxRecDepth 4000 in
set_option maxHeartbeats 4000000 in
theorem do_range (h : GRep F B c m vs vr vc vo R w) (mi : Int) (o : OpR) (hr : mi < 0 ∨ (m : Int) ≤ mi) :
    Calls Tryz.prog 25 #[.pointer (some ⟨B, 0, none⟩), .int .i64 mi, .agg o.cells.toArray] w fun e w' => e = .returned (.tuple #[.int .i64 0, .int .i64 4]) ∧ Keep none_ w w' := by
  obtain ⟨ok, oa, ob, oc⟩ := o
  simp only [OpR.cells]
  obtain ⟨ar, capr, rfl⟩ := h.nregs
  have cB : ∀ o, (w.alloc o).cell? ⟨B, 7, none⟩ = some (.slice ar m capr) := fun o => ((Keep.refl none_ w).alloc o).still (h.blk.cell 7 rfl)
  clear h
  by_cases hneg : mi < 0
  · have d1 : decide (mi < 0) = true := decide_eq_true hneg
    clear hneg hr
    go_enter Tryz.func25, Tryz.ntmps25
    go_wp2_with fail
    go_ret2
    exact ⟨rfl, (Keep.refl _ _).alloc _⟩
  · have d1 : decide (mi < 0) = false := decide_eq_false hneg
    have d2 : decide ((m : Int) ≤ mi) = true := decide_eq_true (by omega)
    clear hneg hr
    go_enter Tryz.func25, Tryz.ntmps25
    go_wp2_with fail
    go_ret2
    exact ⟨rfl, (Keep.refl _ _).alloc _⟩

set_option maxRecDepth 4000 in
set_option maxHeartbeats 4000000 in
theorem do_err (h : GRep F B c m vs vr vc vo R w) (k : Nat) (hk : k < m) (o : OpR) (hT : Tabs w) (he : chk c o ≠ 0) :
    Calls Tryz.prog 25 #[.pointer (some ⟨B, 0, none⟩), .int .i64 (k : Int), .agg o.cells.toArray] w fun e w' => e = .returned (.tuple #[.int .i64 0, .int .i64 (chk c o)]) ∧ Keep none_ w w' := by
  obtain ⟨W0, hW0⟩ : ∃ W', W' = w.alloc (.cells o.cells.toArray 52) := ⟨_, rfl⟩
  have HK0 : Hid (Keep none_ w W0) := by rw [hW0]; exact (Keep.refl _ _).alloc _
  have hb0 : Blk W0 w.heap.size o.cells 52 := by rw [hW0]; exact Blk.new w _ _
  have HC := Lib.hid (fun w' (h : Keep none_ W0 w') => check_any c o w' (hT.keep (HK0.out.trans h)))
  obtain ⟨ar, capr, rfl⟩ := h.nregs
  have hBl := HK0.out.blk h.blk (fun f => f)
  have cB : ∀ o, (w.alloc o).cell? ⟨B, 7, none⟩ = some (.slice ar m capr) := fun o => ((Keep.refl none_ w).alloc o).still (h.blk.cell 7 rfl)
  have q0 := cell_regrown (hBl.cell 0 rfl)
  have q1 := cell_regrown (hBl.cell 1 rfl)
  have q2 := cell_regrown (hBl.cell 2 rfl)
  have q3 := cell_regrown (hBl.cell 3 rfl)
  have q4 := cell_regrown (hBl.cell 4 rfl)
  have q5 := cell_regrown (hBl.cell 5 rfl)
  have q6 := cell_regrown (hBl.cell 6 rfl)
  have r0 := cell_regrown (hb0.cell 0 rfl)
  have r1 := cell_regrown (hb0.cell 1 rfl)
  have r2 := cell_regrown (hb0.cell 2 rfl)
  have r3 := cell_regrown (hb0.cell 3 rfl)
  have d1 : decide ((k : Int) < 0) = false := decide_eq_false (by omega)
  have d2 : decide (m ≤ k) = false := decide_eq_false (by omega)
  have d2' : ¬ (m ≤ k) := by omega
  obtain ⟨x, hx⟩ : ∃ x, x = chk c o := ⟨_, rfl⟩
  rw [← hx] at HC he ⊢
  have d3 : (x == 0) = false := beq_eq_false_iff_ne.2 he
  obtain ⟨ok, oa, ob, oc⟩ := o
  simp only [OpR.cells, Conf.cells] at *
  have HW0 := Lib.hid hW0
  clear h hT hk he hBl hb0 hW0 hx
  go_enter Tryz.func25, Tryz.ntmps25
  go_wp2_with fail
  rw [← HW0.out]
  clear HW0 cB
  refine wp_region_quiet_below (by kernel_rfl) (by kernel_rfl) ?_
  repeat (quiet_step (exact calls_regrown (HC.out _ (keep_regrown _ _ _))))
  refine wpQuiet_nil ?_
  intro _ hw9
  obtain ⟨⟨dq, osq⟩, hw8⟩ := hw9
  subst hw8
  have hk3 := HK0.out.trans (keep_regrown W0 dq osq)
  clear q0 q1 q2 q3 q4 q5 q6 r0 r1 r2 r3
  generalize grow (redrawn W0 dq) osq = w3 at hk3 ⊢
  go_wp2_with fail
  go_ret2
  exact ⟨rfl, hk3⟩

set_option maxRecDepth 4000 in
set_option maxHeartbeats 8000000 in
theorem do_at (h : GRep F B c m vs vr vc vo R w) (hF : ∀ k, w.heap.size ≤ k → F k) (k : Nat) (hk : k < m) {v : Value} (hv : vs[k]? = some v) (o : OpR) (hT : Tabs w) (he : chk c o = 0) (f : Nat) (hf : deedNo o.k = some f)
    (hcf : ∀ (args : Array Value) (w : World), (callFunc f args).run Tryz.prog w = .ok (.enter f args) w) (rv re : Int) (R' : List (List Int))
    (hdeed : ∀ (W : World) (F1 : Nat → Prop), GRep F1 B c m vs vr vc vo R W → (∀ k, W.heap.size ≤ k → F1 k) →
      Calls Tryz.prog f #[.pointer (some ⟨B, 0, none⟩), v, .agg o.cells.toArray] W fun e w' => e = .returned (.tuple #[.int .i64 rv, .int .i64 re]) ∧ GRepX F1 B c m vs vr vc R' w' ∧ Keep F1 W w') :
    Calls Tryz.prog 25 #[.pointer (some ⟨B, 0, none⟩), .int .i64 (k : Int), .agg o.cells.toArray] w fun e w' => e = .returned (.tuple #[.int .i64 rv, .int .i64 re]) ∧ GRepX F B c m vs vr vc R' w' ∧ Keep F w w' := by
  obtain ⟨W0, hW0⟩ : ∃ W', W' = w.alloc (.cells o.cells.toArray 52) := ⟨_, rfl⟩
  have HK0 : Hid (Keep none_ w W0) := by rw [hW0]; exact (Keep.refl _ _).alloc _
  have hb0 : Blk W0 w.heap.size o.cells 52 := by rw [hW0]; exact Blk.new w _ _
  have HB0 := Lib.hid hb0
  have HC := Lib.hid (fun w' (h : Keep none_ W0 w') => check_any c o w' (hT.keep (HK0.out.trans h)))
  rw [he] at HC
  obtain ⟨gr, capr, rfl, cR⟩ := h.reg hk hv
  have HR := Lib.hid (HK0.out.still cR)
  have hBl := HK0.out.blk h.blk (fun f => f)
  have HBL := Lib.hid hBl
  have cB : ∀ o, (w.alloc o).cell? ⟨B, 7, none⟩ = some (.slice (some ⟨gr, 0, none⟩) m capr) := fun o => ((Keep.refl none_ w).alloc o).still (h.blk.cell 7 rfl)
  have q0 := cell_regrown (hBl.cell 0 rfl)
  have q1 := cell_regrown (hBl.cell 1 rfl)
  have q2 := cell_regrown (hBl.cell 2 rfl)
  have q3 := cell_regrown (hBl.cell 3 rfl)
  have q4 := cell_regrown (hBl.cell 4 rfl)
  have q5 := cell_regrown (hBl.cell 5 rfl)
  have q6 := cell_regrown (hBl.cell 6 rfl)
  have r0 := cell_regrown (hb0.cell 0 rfl)
  have r1 := cell_regrown (hb0.cell 1 rfl)
  have r2 := cell_regrown (hb0.cell 2 rfl)
  have r3 := cell_regrown (hb0.cell 3 rfl)
  have d1 : decide ((k : Int) < 0) = false := decide_eq_false (by omega)
  have d2 : decide (m ≤ k) = false := decide_eq_false (by omega)
  have d2' : ¬ (m ≤ k) := by omega
  have HG := Lib.hid h.there
  have HFF := Lib.hid hF
  have HD := Lib.hid hdeed
  have HV := Lib.hid hv
  have HKM := Lib.hid hk
  obtain ⟨ok, oa, ob, oc⟩ := o
  simp only [OpR.cells, Conf.cells] at *
  have HW0 := Lib.hid hW0
  clear h hT hk he hBl hb0 hW0 hF hdeed hv cR
  go_enter Tryz.func25, Tryz.ntmps25
  go_wp2_with fail
  rw [← HW0.out]
  clear HW0 cB
  refine wp_region_quiet_below (by kernel_rfl) (by kernel_rfl) ?_
  repeat (quiet_step (exact calls_regrown (HC.out _ (keep_regrown _ _ _))))
  refine wpQuiet_nil ?_
  intro _ hw9
  obtain ⟨⟨dq, osq⟩, hw8⟩ := hw9
  subst hw8
  have hk3 := keep_regrown W0 dq osq
  clear q0 q1 q2 q3 q4 q5 q6 r0 r1 r2 r3
  generalize grow (redrawn W0 dq) osq = w3 at hk3 ⊢
  have HB3 := Lib.hid (hk3.blk HB0.out (fun f => f))
  have s0 := HB3.out.cell 0 rfl
  have s1 := HB3.out.cell 1 rfl
  have s2 := HB3.out.cell 2 rfl
  have s3 := HB3.out.cell 3 rfl
  have s4 : w3.cell? ⟨B, 7, none⟩ = some (.slice (some ⟨gr, 0, none⟩) m capr) := hk3.still (HBL.out.cell 7 rfl)
  have s5 := hk3.still HR.out
  have HK3 := Lib.hid (HK0.out.trans hk3)
  clear hk3 HC HB0 HR HBL HK0
  go_wp2_with fail
  have hkz : (k : Int) < (m : Int) := by have := HKM.out; omega
  have hk0 : (0 : Int) ≤ (k : Int) := by omega
  go_region_held3 (fun w' => w'.cell? ⟨w.heap.size, 0, none⟩ = some (.int .i64 ok) ∧ w'.cell? ⟨w.heap.size, 1, none⟩ = some (.int .i64 oa) ∧ w'.cell? ⟨w.heap.size, 2, none⟩ = some (.int .i64 ob) ∧ w'.cell? ⟨w.heap.size, 3, none⟩ = some (.int .i64 oc) ∧ w'.cell? ⟨B, 7, none⟩ = some (.slice (some ⟨gr, 0, none⟩) m capr) ∧ w'.cell? ⟨gr, k, none⟩ = some v)
    (first
      | exact ⟨s0, s1, s2, s3, s4, s5⟩
      | exact ⟨hk1.still s0, hk1.still s1, hk1.still s2, hk1.still s3, hk1.still s4, hk1.still s5⟩
      | exact ⟨t0, t1, t2, t3, hB2, hr2⟩
      | fail "SFAIL")
    (first
      | (go_at_call 42
         refine (deeds_any _).mono ?_
         rintro e w1 ⟨bm, rfl, hk1, hlook⟩
         have hl := hlook w1 (Keep.refl _ _) ok f hf
         have HG1 := Lib.hid (((HG.out.still HK3.out).drew.still hk1).mono (F' := fun i => (F i ∧ i < w.heap.size) ∨ w1.heap.size ≤ i) (fun i hi => Or.inl hi))
         have HSZ1 := Lib.hid (HK3.out.drew.trans hk1).size
         clear hlook)
      | (refine (HD.out _ _ HG1.out (fun i hi => Or.inr hi)).mono ?_
         rintro e w2 ⟨rfl, hX, hk2⟩
         have hb2 := hk2.blk (hk1.blk HB3.out.drew (fun f => f)) (by have := (hk1.blk HB3.out.drew (fun f => f)).lt; rintro (⟨_, h⟩ | h) <;> omega)
         have hB2 : w2.cell? ⟨B, 7, none⟩ = some (.slice (some ⟨gr, 0, none⟩) m capr) := by obtain ⟨_, _, _, h⟩ := hX; exact h.blk.cell 7 rfl
         have hr2 : w2.cell? ⟨gr, k, none⟩ = some v := by
           obtain ⟨vs', vo', hsame, h⟩ := hX
           have hkl : k < vs.length := (List.getElem?_eq_some_iff.1 HV.out).1
           obtain ⟨gr', capr', e, hc⟩ := h.reg HKM.out ((hsame k hkl).trans HV.out)
           cases e
           exact hc
         have t0 := hb2.cell 0 rfl
         have t1 := hb2.cell 1 rfl
         have t2 := hb2.cell 2 rfl
         have t3 := hb2.cell 3 rfl
         have HX2 := Lib.hid hX
         have HK2 := Lib.hid (((HK3.out.drew.trans hk1).mono (fun _ _ f => f.elim)).trans (hk2.mono (T := F) (fun i hi hs => by rcases hs with ⟨h, _⟩ | h; exact h; omega)))
         clear hX hk2 hb2)
      | fail "CFAIL")
  go_wp2_with fail
  go_ret2
  refine ⟨rfl, ?_, HK2.out⟩
  obtain ⟨vs', vo', hs, h⟩ := HX2.out
  refine ⟨vs', vo', hs, h.mono (fun i hi => ?_)⟩
  rcases hi with ⟨h, _⟩ | h
  · exact h
  · exact HFF.out i (Nat.le_trans HSZ1.out h)
end
end Go.Proofs.YtkjplkkjdlanhaaGreatDoor
