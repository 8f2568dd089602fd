/- New: a graph without objects. -/
import Derived.Test.YtkjplkkjdlanhaaGreatDoorGRead
import Derived.Deep.LoopGhost
namespace Go.Proofs.YtkjplkkjdlanhaaGreatDoor
open Go.RowKit Go.Sort
attribute [local go_sem ↓] app9_of

def rows0 (m r n : Nat) : List (List Int) := List.replicate m (List.replicate r 0) ++ [List.replicate n 0]

theorem GRep.start {F : Nat → Prop} {B : Nat} {c : Conf} {W : World} {vc : Value} {zs : List Int} (hb : Blk W B [.int .i64 c.b, .int .i64 c.w, .int .i64 c.m, .int .i64 c.r, .int .i64 c.c, .int .i64 c.l, .int .i64 c.s, .slice none 0 0, vc, .slice none 0 0] 65)
    (ho : W.ownsRow 0 3 1 vc zs.length (zs.map (Value.int .i64))) (hB : F B) (hv : ∀ k, vc.ownBlock = some k → F k) : GRep F B c 0 ([] ++ [vc]) (.slice none 0 0) vc (.slice none 0 0) ([] ++ [zs]) W := by
  have h0 : ∀ (i : Nat) (v : Value), ([vc] : List Value)[i]? = some v → i = 0 ∧ v = vc := fun i v hv => by
    have := (List.getElem?_eq_some_iff.1 hv).1
    simp at this
    subst this
    simp at hv
    exact ⟨rfl, hv.symm⟩
  refine ⟨rfl, by simp, rfl, hb, World.ownsRow_nil _ _ _ _, World.ownsRow_nil _ _ _ _, ?_, ?_, ?_, hB, ?_, ?_, ?_⟩
  · intro i v ys hv hy
    obtain ⟨rfl, rfl⟩ := h0 i v hv
    simp at hy
    subst hy
    exact ho
  · intro i j v u k hv hu _ _
    rw [(h0 i v hv).1, (h0 j u hu).1]
  · intro k hk
    simp [Value.ownBlock] at hk
  · intro k hk
    simp [Value.ownBlock] at hk
  · intro k hk
    simp [Value.ownBlock] at hk
  · intro i v k h1 h2
    obtain ⟨rfl, rfl⟩ := h0 i v h1
    exact hv k h2

/-- What New has made behind k rows. -/
structure NewI (w : World) (B : Nat) (c : Conf) (r n : Nat) (vc : Value) (k : Nat) (W : World) : Prop where
  rep : ∃ rs vr, rs.length = k ∧ GRep (fun i => w.heap.size + 1 ≤ i) B c k (rs ++ [vc]) vr vc (.slice none 0 0) (List.replicate k (List.replicate r 0) ++ [List.replicate n 0]) W
  box : Blk W w.heap.size c.cells 23
  keep : Keep none_ w W

theorem NewI.next {w : World} {B : Nat} {c : Conf} {r n : Nat} {vc : Value} {k : Nat} {W : World} (h : NewI w B c r n vc k W) (hr : r ≤ 1000) (hk : k ≤ 1000) : ∃ ar capr, W.cell? ⟨B, 7, none⟩ = some (.slice ar k capr) ∧ W.frozen? ⟨B, 7, none⟩ = false ∧
    ∃ g cap W2, (app9 #[63, 63] 63 #[.slice ar k capr, .slice (some ⟨W.heap.size + 1, 0, none⟩) 1 1]).run Tryz.prog ((W.alloc (.cells (zeros (.int .i64 0) r).toArray 3)).alloc (.cells #[.slice (some ⟨W.heap.size, 0, none⟩) r r] 46)).drew = .ok (.slice (some ⟨g, 0, none⟩) (k + 1) cap) W2 ∧
      W2.cell? ⟨B, 7, none⟩ = some (.slice ar k capr) ∧ W2.frozen? ⟨B, 7, none⟩ = false ∧ NewI w B c r n vc (k + 1) (W2.setCell ⟨B, 7, none⟩ (.slice (some ⟨g, 0, none⟩) (k + 1) cap)) := by
  obtain ⟨⟨rs, vr, hl, h0⟩, hbox, hkeep⟩ := h
  obtain ⟨W1, hW1⟩ : ∃ W', W' = ((W.alloc (.cells (zeros (.int .i64 0) r).toArray 3)).alloc (.cells #[.slice (some ⟨W.heap.size, 0, none⟩) r r] 46)).drew := ⟨_, rfl⟩
  have hk1 : Keep none_ W W1 := by rw [hW1]; exact (((Keep.refl _ _).alloc _).alloc _).drew
  have ho1 : W1.ownsRow 0 3 1 (.slice (some ⟨W.heap.size, 0, none⟩) r r) (List.replicate r (0 : Int)).length ((List.replicate r (0 : Int)).map (Value.int .i64)) := by
    rw [hW1]; exact own_still (own_zeros W r hr) ((Keep.refl _ _).alloc _).drew
  have hs1 : W1.cell? ⟨W.heap.size + 1, 0, none⟩ = some (.slice (some ⟨W.heap.size, 0, none⟩) r r) := by
    rw [hW1]
    have h9 := (Blk.new (W.alloc (.cells (zeros (.int .i64 0) r).toArray 3)) [.slice (some ⟨W.heap.size, 0, none⟩) r r] 46).drew.cell 0 rfl
    simp only [World.size_alloc] at h9
    exact h9
  obtain ⟨ar, capr, rfl⟩ := h0.nregs
  have hregs : W.ownsRow 0 46 1 (.slice ar k capr) k rs := by
    have := h0.regs
    rw [List.take_append_of_le_length (by omega), List.take_of_length_le (by omega)] at this
    exact this
  have hregs1 : W1.ownsRow 0 46 1 (.slice ar k capr) k rs := own_still hregs hk1
  obtain ⟨g, cap, W2, hrun, how, hgr, hwh⟩ := app_rows hregs1 hs1 rfl (by omega)
  have hb2 : Blk W2 B _ _ := (h0.still hk1).blk.grown hgr (own_ne (h0.still hk1).blk (h0.still hk1).regs (by decide))
  have hadd := h0.addReg hl (fun i hi => by have := hkeep.size; have := hbox.lt; omega) hk1 ho1 (fun i hi => by simp [Value.ownBlock] at hi; omega) how hgr hwh
  refine ⟨ar, capr, h0.blk.cell 7 rfl, h0.blk.free 7, g, cap, W2, by rw [← hW1]; exact hrun, hb2.cell 7 rfl, hb2.free 7, ⟨rs ++ [.slice (some ⟨W.heap.size, 0, none⟩) r r], .slice (some ⟨g, 0, none⟩) (k + 1) cap, by simp [hl], ?_⟩, ?_, ?_⟩
  · have := hadd.1
    rw [List.replicate_succ']
    exact this
  · exact hadd.2.blk hbox (by omega)
  · exact hkeep.trans' hadd.2 (fun i hi hF => by omega)

set_option maxRecDepth 4000 in
set_option maxHeartbeats 1000000 in
theorem new_bad (c : Conf) (w : World) (hT : Tabs w) (hok : c.ok = false) : Calls Tryz.prog 15 #[.agg c.cells.toArray] w fun e w' => e = .returned (.tuple #[.pointer none, .int .i64 1]) ∧ Keep none_ w w' := by
  obtain ⟨W0, hW0⟩ : ∃ W', W' = w.alloc (.cells c.cells.toArray 23) := ⟨_, rfl⟩
  have HK : Hid (Keep none_ w W0) := by rw [hW0]; exact (Keep.refl _ _).alloc _
  have HR := Lib.hid (right_any c W0 (hT.keep HK.out))
  rw [hok] at HR
  obtain ⟨b, ww, m, r, cc, l, s⟩ := c
  simp only [Conf.cells] at *
  clear hT hok
  subst hW0
  go_enter Tryz.func15, Tryz.ntmps15
  go_wp2_with (go_at_call 27; refine HR.out.mono ?_; rintro e w1 ⟨rfl, hk1⟩)
  go_ret2
  exact ⟨rfl, HK.out.trans hk1⟩

theorem own_zeros' (w : World) (b : Nat) (hb : b ≤ 1000) : (w.alloc (.cells (zeros (.int .i64 0) b).toArray 3)).ownsRow 0 3 1 (.slice (some ⟨w.heap.size, 0, none⟩) b b) b ((List.replicate b (0 : Int)).map (Value.int .i64)) := by
  have := own_zeros w b hb
  rw [List.length_replicate] at this
  exact this

set_option maxRecDepth 4000 in
set_option maxHeartbeats 4000000 in
theorem new_any (c : Conf) (w : World) (hT : Tabs w) (hok : c.ok = true) (m r n : Nat) (hm : c.m = m) (hr : c.r = r) (hn : c.c = n) : Calls Tryz.prog 15 #[.agg c.cells.toArray] w fun e w' => ∃ B, e = .returned (.tuple #[.pointer (some ⟨B, 0, none⟩), .int .i64 0]) ∧
    (∃ vs vr vc vo, GRep (fun k => w.heap.size ≤ k) B c m vs vr vc vo (rows0 m r n) w') ∧ Keep none_ w w' := by
  have hbd : m ≤ 8 ∧ r ≤ 64 ∧ n ≤ 64 := by
    simp [Conf.ok] at hok
    omega
  obtain ⟨W0, hW0⟩ : ∃ W', W' = w.alloc (.cells c.cells.toArray 23) := ⟨_, rfl⟩
  have HK : Hid (Keep none_ w W0) := by rw [hW0]; exact (Keep.refl _ _).alloc _
  have HB := Lib.hid (show Blk W0 w.heap.size c.cells 23 by rw [hW0]; exact Blk.new w _ _)
  have HR := Lib.hid (right_any c W0 (hT.keep HK.out))
  rw [hok] at HR
  obtain ⟨b, ww, mm, rr, cc, l, s⟩ := c
  simp only at hm hr hn
  subst hm hr hn
  simp only [Conf.cells] at *
  have HBD := Lib.hid hbd
  clear hT hok hbd
  have hmk : ∀ w : World, (Instr.makeSlice 46 (.int .i64 (n : Int)) (.int .i64 (n : Int))).run Tryz.prog w = .ok (.slice (some ⟨w.heap.size, 0, none⟩) n n) (w.alloc (.cells (zeros (.int .i64 0) n).toArray 3)) :=
    fun w => run_mk (P := Tryz.prog) (by kernel_rfl) Tryz.infoInt rfl (by decide) n (by have := HBD.out; omega) _ rfl w
  have hmk2 : ∀ w : World, (Instr.makeSlice 46 (.int .i64 (r : Int)) (.int .i64 (r : Int))).run Tryz.prog w = .ok (.slice (some ⟨w.heap.size, 0, none⟩) r r) (w.alloc (.cells (zeros (.int .i64 0) r).toArray 3)) :=
    fun w => run_mk (P := Tryz.prog) (by kernel_rfl) Tryz.infoInt rfl (by decide) r (by have := HBD.out; omega) _ rfl w
  subst hW0
  go_enter Tryz.func15, Tryz.ntmps15
  go_wp2_with (go_at_call 27; refine HR.out.mono ?_; rintro e w1 ⟨rfl, hk1⟩)
  have HB1 := Lib.hid (hk1.blk HB.out (fun f => f))
  have HK1 := Lib.hid (HK.out.trans hk1)
  clear hk1 HB HK HR
  have q0 := HB1.out.cell 0 rfl; have q1 := HB1.out.cell 1 rfl; have q2 := HB1.out.cell 2 rfl; have q3 := HB1.out.cell 3 rfl; have q4 := HB1.out.cell 4 rfl; have q5 := HB1.out.cell 5 rfl; have q6 := HB1.out.cell 6 rfl
  have p0 : ∀ o, (w1.alloc o).cell? ⟨w.heap.size, 0, none⟩ = _ := fun o => ((Keep.refl none_ w1).alloc o).still q0
  have p1 : ∀ o, (w1.alloc o).cell? ⟨w.heap.size, 1, none⟩ = _ := fun o => ((Keep.refl none_ w1).alloc o).still q1
  have p2 : ∀ o, (w1.alloc o).cell? ⟨w.heap.size, 2, none⟩ = _ := fun o => ((Keep.refl none_ w1).alloc o).still q2
  have p3 : ∀ o, (w1.alloc o).cell? ⟨w.heap.size, 3, none⟩ = _ := fun o => ((Keep.refl none_ w1).alloc o).still q3
  have p4 : ∀ o, (w1.alloc o).cell? ⟨w.heap.size, 4, none⟩ = _ := fun o => ((Keep.refl none_ w1).alloc o).still q4
  have p5 : ∀ o, (w1.alloc o).cell? ⟨w.heap.size, 5, none⟩ = _ := fun o => ((Keep.refl none_ w1).alloc o).still q5
  have p6 : ∀ o, (w1.alloc o).cell? ⟨w.heap.size, 6, none⟩ = _ := fun o => ((Keep.refl none_ w1).alloc o).still q6
  go_region
  obtain ⟨W2, hW2⟩ : ∃ W', W' = ((w1.alloc (.cells (zeros (.int .i64 0) n).toArray 3)).alloc (.cells #[.int .i64 b, .int .i64 ww, .int .i64 (m : Int), .int .i64 (r : Int), .int .i64 (n : Int), .int .i64 l, .int .i64 s, .slice none 0 0, .slice (some ⟨w1.heap.size, 0, none⟩) n n, .slice none 0 0] 65)).drew := ⟨_, rfl⟩
  have hk2 : Keep none_ w1 W2 := by rw [hW2]; exact (((Keep.refl _ _).alloc _).alloc _).drew
  have hB2 : Blk W2 (w1.heap.size + 1) [.int .i64 b, .int .i64 ww, .int .i64 (m : Int), .int .i64 (r : Int), .int .i64 (n : Int), .int .i64 l, .int .i64 s, .slice none 0 0, .slice (some ⟨w1.heap.size, 0, none⟩) n n, .slice none 0 0] 65 := by
    rw [hW2]
    have h9 := (Blk.new (w1.alloc (.cells (zeros (.int .i64 0) n).toArray 3)) [.int .i64 b, .int .i64 ww, .int .i64 (m : Int), .int .i64 (r : Int), .int .i64 (n : Int), .int .i64 l, .int .i64 s, .slice none 0 0, .slice (some ⟨w1.heap.size, 0, none⟩) n n, .slice none 0 0] 65).drew
    simp only [World.size_alloc] at h9
    exact h9
  have hvc2 : W2.ownsRow 0 3 1 (.slice (some ⟨w1.heap.size, 0, none⟩) n n) (List.replicate n (0 : Int)).length ((List.replicate n (0 : Int)).map (Value.int .i64)) := by
    rw [hW2]; exact own_still (own_zeros w1 n (by have := HBD.out; omega)) ((Keep.refl _ _).alloc _).drew
  have hlt1 := HB1.out.lt
  have HI2 : Hid (NewI w (w1.heap.size + 1) ⟨b, ww, m, r, n, l, s⟩ r n (.slice (some ⟨w1.heap.size, 0, none⟩) n n) 0 W2) :=
    ⟨⟨[], _, rfl, GRep.start hB2 hvc2 (by omega) (fun k hk => by simp [Value.ownBlock] at hk; omega)⟩, hk2.blk HB1.out (fun f => f), HK1.out.trans hk2⟩
  have z2 := HI2.out.box.cell 2 rfl
  rw [← hW2]
  clear hW2 hk2 hB2 hvc2 hlt1 HB1 HK1 q0 q1 q2 q3 q4 q5 q6 p0 p1 p2 p3 p4 p5 p6 hmk
  generalize w1.heap.size + 1 = B at *
  generalize Value.slice (some ⟨w1.heap.size, 0, none⟩) n n = vc at *
  go_wp2_with fail
  go_loopg [16] m (fun g i wr => ∃ k : Nat, g + k = m ∧ i = .int .i64 k ∧ Hid (NewI w B ⟨b, ww, m, r, n, l, s⟩ r n vc k wr))
  case atStart => exact ⟨0, by omega, rfl, HI2⟩
  case round =>
    obtain ⟨k, hg, rfl, HI⟩ := hrel
    clear HI2 z2
    by_cases hlt : k < m
    · have hltz : (k : Int) < m := by omega
      have hk8 : (k : Int) < 8 := by have := HBD.out; omega
      have z3 := HI.out.box.cell 3 rfl
      obtain ⟨ar, capr, c7, f7, g, cap, W2, hrun, e7, d7, hN⟩ := HI.out.next (by have := HBD.out; omega) (by have := HBD.out; omega)
      have HN := Lib.hid hN
      have c7' : ∀ o, (wr.alloc o).cell? ⟨B, 7, none⟩ = _ := fun o => ((Keep.refl none_ wr).alloc o).still c7
      have c7'' : ∀ o o', ((wr.alloc o).alloc o').cell? ⟨B, 7, none⟩ = _ := fun o o' => (((Keep.refl none_ wr).alloc o).alloc o').still c7
      clear hN
      go_wp2_with fail
      go_region
      go_wp2_with fail
      go_roundg (gk - 1)
      case measure => omega
      case rel => exact ⟨k + 1, by omega, by go_num, HN⟩
    · obtain rfl : k = m := by omega
      have hge : ¬ ((k : Int) < k) := by omega
      clear hg
      go_wp2_with fail
      go_ret2
      obtain ⟨⟨rs, vr, hl, h0⟩, _, hkeep⟩ := HI.out
      exact ⟨B, rfl, ⟨_, _, _, _, h0.mono (fun i hi => by omega)⟩, hkeep⟩
end Go.Proofs.YtkjplkkjdlanhaaGreatDoor
