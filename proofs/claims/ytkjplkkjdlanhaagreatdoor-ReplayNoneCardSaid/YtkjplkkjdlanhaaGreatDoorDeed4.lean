/- The walk of the deed alloc. -/
import Derived.Test.YtkjplkkjdlanhaaGreatDoorDeed3
namespace Go.Proofs.YtkjplkkjdlanhaaGreatDoor
open Go.RowKit Go.Sort
attribute [local go_sem ↓] app9_of

section
variable {F : Nat → Prop} {B : Nat} {c : Conf} {m : Nat} {vs : List Value} {vr vc vo : Value} {R : List (List Int)} {w : World}

/-- The graph, where rows may have come to the ones that were there. -/
def GRepX (F : Nat → Prop) (B : Nat) (c : Conf) (m : Nat) (vs : List Value) (vr vc : Value) (R : List (List Int)) (w : World) : Prop :=
  ∃ vs' vo', (∀ i, i < vs.length → vs'[i]? = vs[i]?) ∧ GRep F B c m vs' vr vc vo' R w
theorem GRep.x (h : GRep F B c m vs vr vc vo R w) : GRepX F B c m vs vr vc R w := ⟨vs, vo, fun _ _ => rfl, h⟩

theorem own_zeros (w : World) (b : Nat) (hb : b ≤ 1000) : (w.alloc (.cells (zeros (.int .i64 0) b).toArray 3)).ownsRow 0 3 1 (.slice (some ⟨w.heap.size, 0, none⟩) b b) (List.replicate b (0 : Int)).length ((List.replicate b (0 : Int)).map (Value.int .i64)) := by
  refine ⟨by simp, .inr ⟨w.heap.size, b, (zeros (.int .i64 0) b).toArray, by simp, Nat.zero_le _, ?_, by simp, by unfold maxLen; omega, by simp [zeros], ?_⟩⟩
  · show (w.heap.push _)[w.heap.size]? = _
    simp
  · simp [zeros]

set_option maxRecDepth 4000 in
set_option maxHeartbeats 4000000 in
theorem alloc_any (h : GRep F B c m vs vr vc vo R w) (hF : ∀ k, w.heap.size ≤ k → F k) {k : Nat} {v : Value} {zs : List Int} (hv : vs[k]? = some v) (hz : R[k]? = some zs) (ok oc : Int) (a b : Nat) (ha : a < zs.length) (hb : b < 16) (hR : R.length ≤ 1000) :
    Calls Tryz.prog 58 #[.pointer (some ⟨B, 0, none⟩), v, .agg #[.int .i64 ok, .int .i64 (a : Int), .int .i64 (b : Int), .int .i64 oc]] w fun e w' => e = .returned (.tuple #[.int .i64 ((R.length - m : Nat) : Int), .int .i64 0]) ∧
      GRepX F B c m vs vr vc ((R ++ [List.replicate b 0]).set k (zs.set a ((R.length - m : Nat) : Int))) w' ∧ Keep F w w' := by
  obtain ⟨g, cap, rfl, hn, hFg, hc⟩ := h.open_ hv hz (by omega)
  obtain ⟨W0, hW0⟩ : ∃ W', W' = w.alloc (.cells #[.int .i64 ok, .int .i64 (a : Int), .int .i64 (b : Int), .int .i64 oc] 52) := ⟨_, rfl⟩
  have hk0 : Keep none_ w W0 := by rw [hW0]; exact (Keep.refl _ _).alloc _
  have hb0 : Blk W0 w.heap.size [.int .i64 ok, .int .i64 (a : Int), .int .i64 (b : Int), .int .i64 oc] 52 := by rw [hW0]; exact Blk.new w _ _
  have hsz0 : W0.heap.size = w.heap.size + 1 := by rw [hW0]; simp
  obtain ⟨W1, hW1⟩ : ∃ W', W' = ((W0.alloc (.cells (zeros (.int .i64 0) b).toArray 3)).alloc (.cells #[.slice (some ⟨W0.heap.size, 0, none⟩) b b] 46)).drew := ⟨_, rfl⟩
  have hk1 : Keep none_ W0 W1 := by rw [hW1]; exact (((Keep.refl _ _).alloc _).alloc _).drew
  have ho1 : W1.ownsRow 0 3 1 (.slice (some ⟨W0.heap.size, 0, none⟩) b b) (List.replicate b (0 : Int)).length ((List.replicate b (0 : Int)).map (Value.int .i64)) := by
    rw [hW1]; exact own_still (own_zeros W0 b (by omega)) ((Keep.refl _ _).alloc _).drew
  have hs1 : W1.cell? ⟨W0.heap.size + 1, 0, none⟩ = some (.slice (some ⟨W0.heap.size, 0, none⟩) b b) := by
    rw [hW1]
    have h9 := (Blk.new (W0.alloc (.cells (zeros (.int .i64 0) b).toArray 3)) [.slice (some ⟨W0.heap.size, 0, none⟩) b b] 46).drew.cell 0 rfl
    simp only [World.size_alloc] at h9
    exact h9
  have hml := h.lt
  obtain ⟨g2, cap2, W2, hrun, how, hgr, hwh⟩ := app_rows ((h.still (hk0.trans hk1)).objs) hs1 rfl (by omega)
  have hadd := (h.add hF (hk0.trans hk1) ho1 (fun k hk => by simp [Value.ownBlock] at hk; omega) how hgr hwh)
  have hmk : ∀ w : World, (Instr.makeSlice 46 (.int .i64 (b : Int)) (.int .i64 (b : Int))).run Tryz.prog w = .ok (.slice (some ⟨w.heap.size, 0, none⟩) b b) (w.alloc (.cells (zeros (.int .i64 0) b).toArray 3)) :=
    fun w => run_mk (P := Tryz.prog) (by kernel_rfl) Tryz.infoInt rfl (by decide) b (by omega) _ rfl w
  obtain ⟨v0, hv0⟩ : ∃ v0 : Value, v0 = .slice (some ⟨W0.heap.size, 0, none⟩) b b := ⟨_, rfl⟩
  obtain ⟨vo', hvo'⟩ : ∃ vo' : Value, vo' = .slice (some ⟨g2, 0, none⟩) (R.length - (m + 1) + 1) cap2 := ⟨_, rfl⟩
  obtain ⟨W3, hW3⟩ : ∃ W', W' = W2.setCell ⟨B, 9, none⟩ vo' := ⟨_, rfl⟩
  rw [← hv0, ← hvo', ← hW3] at hadd
  have hkl : k < R.length := (List.getElem?_eq_some_iff.1 hz).1
  have hv3 : (vs ++ [v0])[k]? = some (.slice (some ⟨g, 0, none⟩) zs.length cap) := by rw [List.getElem?_append_left (by rw [h.len]; exact hkl)]; exact hv
  have hz3 : (R ++ [List.replicate b 0])[k]? = some zs := by rw [List.getElem?_append_left hkl]; exact hz
  have hcnt : ((R.length - (m + 1) + 1 : Nat) : Int) = ((R.length - m : Nat) : Int) := by omega
  have hP := hadd.1.put (Keep.refl none_ W3).drew hv3 hz3 a ((R.length - m : Nat) : Int)
  have hKF := hadd.2.trans hP.2
  have hG := hP.1
  have hc3 := (hadd.1.open_ hv3 hz3 (by omega))
  obtain ⟨g', cap', e', _, _, hcg⟩ := hc3
  injection e' with e' _ e''
  injection e' with e'
  injection e' with e'
  subst e' e''
  have ca3 := (hcg a ha).1
  have fa3 := (hcg a ha).2
  have cB3 : W3.cell? ⟨B, 9, none⟩ = some vo' := hadd.1.blk.cell 9 rfl
  have cB2 : W2.cell? ⟨B, 9, none⟩ = some vo := by
    have hb2 := ((h.still (hk0.trans hk1)).blk.grown hgr (own_ne (h.still (hk0.trans hk1)).blk (h.still (hk0.trans hk1)).objs (by decide)))
    exact hb2.cell 9 rfl
  have fB2 : W2.frozen? ⟨B, 9, none⟩ = false := by
    have hb2 := ((h.still (hk0.trans hk1)).blk.grown hgr (own_ne (h.still (hk0.trans hk1)).blk (h.still (hk0.trans hk1)).objs (by decide)))
    exact hb2.free 9
  have cB0 : W0.cell? ⟨B, 9, none⟩ = some vo := hk0.still (h.blk.cell 9 rfl)
  have hBw : B < w.heap.size := h.blk.lt
  have hbx3 : Blk W3 w.heap.size [.int .i64 ok, .int .i64 (a : Int), .int .i64 (b : Int), .int .i64 oc] 52 := by
    rw [hW3]
    refine (((hk1.blk hb0 (fun f => f)).grown hgr (fun e => ?_))).other (a := ⟨B, 9, none⟩) (by simp; omega) _
    have := (World.ownsRow.lt h.objs _ e).2
    omega
  have hbx4 : Blk (W3.setCell ⟨g, a, none⟩ (.int .i64 ((R.length - m : Nat) : Int))) w.heap.size [.int .i64 ok, .int .i64 (a : Int), .int .i64 (b : Int), .int .i64 oc] 52   := hbx3.other (a := ⟨g, a, none⟩) (by have := World.block_lt_of_cell? _ _ (hc a ha).1; simp at this ⊢; omega) _
  have o1 := hb0.cell 1 rfl
  have o2 := hb0.cell 2 rfl
  have q1 := hbx3.cell 1 rfl
  have r1 := hbx4.cell 1 rfl
  have pa : (W3.setCell ⟨g, a, none⟩ (.int .i64 ((R.length - m : Nat) : Int))).cell? ⟨g, a, none⟩ = some (.int .i64 ((R.length - m : Nat) : Int)) := World.cell?_setCell_same _ _ _ ca3
  have hai : (a : Int) < zs.length := by omega
  have hvo2 : vo' = .slice (some ⟨g2, 0, none⟩) (R.length - m) cap2 := by rw [hvo']; congr 1; omega
  rw [show R.length - (m + 1) + 1 = R.length - m by omega] at hrun
  rw [hvo2] at hW3 cB3
  have HG := Lib.hid hG
  have HKF := Lib.hid hKF
  have HW3 := Lib.hid hW3
  have HW0 := Lib.hid hW0
  have cB0' : ∀ o, (W0.alloc o).cell? ⟨B, 9, none⟩ = some vo := fun o => ((Keep.refl none_ W0).alloc o).still cB0
  have cB0'' : ∀ o o', ((W0.alloc o).alloc o').cell? ⟨B, 9, none⟩ = some vo := fun o o' => (((Keep.refl none_ W0).alloc o).alloc o').still cB0
  subst hW1
  generalize R.length - m = nn at *
  clear hc hk0 hk1 h hn hW0 hb0 hbx3 hbx4 hadd hP hG hKF hcg how hgr hwh ho1 hs1 hv0 hvo' hvo2 hW3 hv3 hz3 hcnt hv hz hR hF hsz0
  go_enter Tryz.func58, Tryz.ntmps58
  go_wp2_with fail
  rw [← HW0.out]
  clear HW0
  go_region
  rw [← HW3.out]
  clear HW3 hrun cB0 cB0' cB0'' cB2 fB2
  go_wp2_with fail
  refine wp_region_still_tail 9 (by kernel_rfl) (by kernel_rfl) ?_
  change wpStill _ _ (World.drew _) _ _ _
  simp only [List.take_succ_cons, List.take_zero, List.drop_succ_cons, List.drop_zero]
  repeat still_step
  refine wpStill_nil ?_
  change wpList _ _ _ _ _ (World.drew _)
  go_wp2_with fail
  go_ret2
  exact ⟨rfl, ⟨_, _, fun i hi => (by rw [List.getElem?_append_left hi]), HG.out⟩, HKF.out⟩
end
end Go.Proofs.YtkjplkkjdlanhaaGreatDoor
