/- What the deeds drop, move, set, get and safe make of a graph. -/
import Derived.Test.YtkjplkkjdlanhaaGreatDoorGRep
namespace Go.Proofs.YtkjplkkjdlanhaaGreatDoor
open Go.RowKit Go.Sort

section
variable {F : Nat → Prop} {B : Nat} {c : Conf} {m : Nat} {vs : List Value} {vr vc vo : Value} {R : List (List Int)} {w : World}

theorem GRep.open_ (h : GRep F B c m vs vr vc vo R w) {k : Nat} {v : Value} {zs : List Int} (hv : vs[k]? = some v) (hz : R[k]? = some zs) (hpos : 0 < zs.length) :
    ∃ g cap, v = .slice (some ⟨g, 0, none⟩) zs.length cap ∧ zs.length ≤ cap ∧ F g ∧ (∀ j, j < zs.length → w.cell? ⟨g, j, none⟩ = some (.int .i64 (zs.getD j 0)) ∧ w.frozen? ⟨g, j, none⟩ = false) := by
  obtain ⟨a, cap, rfl, hl, hn, _, hc⟩ := own_form (h.row k v zs hv hz)
  have key : ∀ j, j < zs.length → ∃ g, a = some ⟨g, 0, none⟩ ∧ w.cell? ⟨g, j, none⟩ = some (.int .i64 (zs.getD j 0)) ∧ w.frozen? ⟨g, j, none⟩ = false := fun j hj => hc j _ (by simp [hj])
  obtain ⟨g, rfl, _⟩ := key 0 hpos
  refine ⟨g, cap, rfl, hn, h.fv k _ g hv rfl, fun j hj => ?_⟩
  obtain ⟨g', e, h1, h2⟩ := key j hj
  cases e
  exact ⟨h1, h2⟩
/-- The operation's box. -/
theorem box_blk (w : World) (o : OpR) : Blk (w.alloc (.cells #[.int .i64 o.k, .int .i64 o.a, .int .i64 o.b, .int .i64 o.c] 52)) w.heap.size [.int .i64 o.k, .int .i64 o.a, .int .i64 o.b, .int .i64 o.c] 52 := Blk.new w _ _
/-- A store into one row of a graph, behind a box. -/
theorem GRep.put (h : GRep F B c m vs vr vc vo R w) {w0 : World} (hk : Keep none_ w w0) {k g n cap : Nat} {zs : List Int} (hv : vs[k]? = some (.slice (some ⟨g, 0, none⟩) n cap)) (hz : R[k]? = some zs) (j : Nat) (x : Int) :
    GRep F B c m vs vr vc vo (R.set k (zs.set j x)) (w0.setCell ⟨g, j, none⟩ (.int .i64 x)) ∧ Keep F w (w0.setCell ⟨g, j, none⟩ (.int .i64 x)) :=
  ⟨(h.still hk).set hv hz j x, (hk.mono (fun _ _ f => f.elim)).setCell (p := ⟨g, j, none⟩) (fun _ => h.fv k _ g hv rfl) _⟩
theorem GRep.drew (h : GRep F B c m vs vr vc vo R w) : GRep F B c m vs vr vc vo R w.drew := h.still (Keep.refl _ _).drew

set_option maxRecDepth 4000 in
set_option maxHeartbeats 1000000 in
theorem drop_any (h : GRep F B c m vs vr vc vo R w) {k : Nat} {v : Value} {zs : List Int} (hv : vs[k]? = some v) (hz : R[k]? = some zs) (o : OpR) (a : Nat) (ha : a < zs.length) (hoa : o.a = a) :
    Calls Tryz.prog 63 #[.pointer (some ⟨B, 0, none⟩), v, .agg o.cells.toArray] w fun e w' => e = .returned (.tuple #[.int .i64 0, .int .i64 0]) ∧ GRep F B c m vs vr vc vo (R.set k (zs.set a 0)) w' ∧ Keep F w w' := by
  obtain ⟨g, cap, rfl, hn, _, hc⟩ := h.open_ hv hz (by omega)
  obtain ⟨ok, oa, ob, oc⟩ := o
  simp only at hoa
  subst hoa
  simp only [OpR.cells]
  obtain ⟨W0, hW0⟩ : ∃ W', W' = w.alloc (.cells #[.int .i64 ok, .int .i64 (a : Int), .int .i64 ob, .int .i64 oc] 52) := ⟨_, rfl⟩
  have hk0 : Keep none_ w W0 := by rw [hW0]; exact (Keep.refl _ _).alloc _
  have ca := hk0.still (hc a ha).1
  have fa : W0.frozen? ⟨g, a, none⟩ = false := by rw [hk0.frozen (World.block_lt_of_cell? _ _ (hc a ha).1) (fun f => f)]; exact (hc a ha).2
  have HP := Lib.hid (h.put hk0 hv hz a 0)
  have hai : (a : Int) < zs.length := by omega
  clear hc hk0 h hn
  subst hW0
  go_enter Tryz.func63, Tryz.ntmps63
  go_wp2_with fail
  go_ret2
  exact ⟨rfl, HP.out.1, HP.out.2⟩

set_option maxRecDepth 4000 in
set_option maxHeartbeats 1000000 in
theorem safe_any (h : GRep F B c m vs vr vc vo R w) (v : Value) (o : OpR) :
    Calls Tryz.prog 65 #[.pointer (some ⟨B, 0, none⟩), v, .agg o.cells.toArray] w fun e w' => e = .returned (.tuple #[.int .i64 0, .int .i64 0]) ∧ GRep F B c m vs vr vc vo R w' ∧ Keep F w w' := by
  obtain ⟨ok, oa, ob, oc⟩ := o
  simp only [OpR.cells]
  have HG := Lib.hid (fun w' (k : Keep none_ w w') => h.still k)
  clear h
  go_enter Tryz.func65, Tryz.ntmps65
  go_wp2_with fail
  go_ret2
  exact ⟨rfl, HG.out _ ((Keep.refl _ _).alloc _), ((Keep.refl _ _).alloc _)⟩

set_option maxRecDepth 4000 in
set_option maxHeartbeats 1000000 in
theorem move_any (h : GRep F B c m vs vr vc vo R w) {k : Nat} {v : Value} {zs : List Int} (hv : vs[k]? = some v) (hz : R[k]? = some zs) (o : OpR) (a b : Nat) (ha : a < zs.length) (hb : b < zs.length) (hoa : o.a = a) (hob : o.b = b) :
    Calls Tryz.prog 64 #[.pointer (some ⟨B, 0, none⟩), v, .agg o.cells.toArray] w fun e w' => e = .returned (.tuple #[.int .i64 (zs.getD b 0), .int .i64 0]) ∧ GRep F B c m vs vr vc vo (R.set k (zs.set a (zs.getD b 0))) w' ∧ Keep F w w' := by
  obtain ⟨g, cap, rfl, hn, hF, hc⟩ := h.open_ hv hz (by omega)
  obtain ⟨ok, oa, ob, oc⟩ := o
  simp only at hoa hob
  subst hoa hob
  simp only [OpR.cells]
  obtain ⟨W0, hW0⟩ : ∃ W', W' = w.alloc (.cells #[.int .i64 ok, .int .i64 (a : Int), .int .i64 (b : Int), .int .i64 oc] 52) := ⟨_, rfl⟩
  have hk0 : Keep none_ w W0 := by rw [hW0]; exact (Keep.refl _ _).alloc _
  have hb0 : Blk W0 w.heap.size [.int .i64 ok, .int .i64 (a : Int), .int .i64 (b : Int), .int .i64 oc] 52 := by rw [hW0]; exact Blk.new w _ _
  have ca := hk0.still (hc a ha).1
  have cb := hk0.still (hc b hb).1
  have fa : W0.frozen? ⟨g, a, none⟩ = false := by rw [hk0.frozen (World.block_lt_of_cell? _ _ (hc a ha).1) (fun f => f)]; exact (hc a ha).2
  obtain ⟨x, hx⟩ : ∃ x, x = zs.getD b 0 := ⟨_, rfl⟩
  rw [← hx] at cb ⊢
  have HP := Lib.hid (h.put hk0.drew hv hz a x)
  have hgw : g < w.heap.size := World.block_lt_of_cell? _ _ (hc a ha).1
  have hb1 : Blk (W0.drew.setCell ⟨g, a, none⟩ (.int .i64 x)) w.heap.size [.int .i64 ok, .int .i64 (a : Int), .int .i64 (b : Int), .int .i64 oc] 52 := hb0.drew.other (a := ⟨g, a, none⟩) (by simp; omega) _
  have o1 := hb0.cell 1 rfl
  have o2 := hb0.cell 2 rfl
  have p1 := hb1.cell 1 rfl
  have pa : (W0.drew.setCell ⟨g, a, none⟩ (.int .i64 x)).cell? ⟨g, a, none⟩ = some (.int .i64 x) := World.cell?_setCell_same _ _ _ ca
  have hai : (a : Int) < zs.length := by omega
  have hbi : (b : Int) < zs.length := by omega
  have HW0 := Lib.hid hW0
  clear hc hk0 h hn hW0 hb0 hb1 hx
  go_enter Tryz.func64, Tryz.ntmps64
  go_wp2_with fail
  rw [← HW0.out]
  clear HW0
  refine wp_region_still_tail 9 (by kernel_rfl) (by kernel_rfl) ?_
  change wpStill _ _ (World.drew _) _ _ _
  simp only [List.take_succ_cons, List.take_zero, List.drop_succ_cons, List.drop_zero]
  repeat still_step
  refine wpStill_nil ?_
  change wpList _ _ _ _ _ W0.drew
  go_wp2_with fail
  go_ret2
  exact ⟨rfl, HP.out.1, HP.out.2⟩

set_option maxRecDepth 4000 in
set_option maxHeartbeats 1000000 in
theorem get_any (h : GRep F B c m vs vr vc vo R w) {k : Nat} {v : Value} {zs cs : List Int} (hv : vs[k]? = some v) (hz : R[k]? = some zs) (hcs : R[m]? = some cs) (o : OpR) (a b : Nat) (ha : a < zs.length) (hb : b < cs.length) (hoa : o.a = a) (hob : o.b = b) :
    Calls Tryz.prog 61 #[.pointer (some ⟨B, 0, none⟩), v, .agg o.cells.toArray] w fun e w' => e = .returned (.tuple #[.int .i64 (cs.getD b 0), .int .i64 0]) ∧ GRep F B c m vs vr vc vo (R.set k (zs.set a (cs.getD b 0))) w' ∧ Keep F w w' := by
  obtain ⟨g, cap, rfl, hn, hF, hc⟩ := h.open_ hv hz (by omega)
  obtain ⟨g2, cap2, rfl, hn2, hF2, hc2⟩ := h.open_ h.mid hcs (by omega)
  obtain ⟨ok, oa, ob, oc⟩ := o
  simp only at hoa hob
  subst hoa hob
  simp only [OpR.cells]
  obtain ⟨W0, hW0⟩ : ∃ W', W' = w.alloc (.cells #[.int .i64 ok, .int .i64 (a : Int), .int .i64 (b : Int), .int .i64 oc] 52) := ⟨_, rfl⟩
  have hk0 : Keep none_ w W0 := by rw [hW0]; exact (Keep.refl _ _).alloc _
  have hb0 : Blk W0 w.heap.size [.int .i64 ok, .int .i64 (a : Int), .int .i64 (b : Int), .int .i64 oc] 52 := by rw [hW0]; exact Blk.new w _ _
  have ca := hk0.still (hc a ha).1
  have cb := hk0.still (hc2 b hb).1
  have fa : W0.frozen? ⟨g, a, none⟩ = false := by rw [hk0.frozen (World.block_lt_of_cell? _ _ (hc a ha).1) (fun f => f)]; exact (hc a ha).2
  have cB : W0.cell? ⟨B, 8, none⟩ = some (.slice (some ⟨g2, 0, none⟩) cs.length cap2) := hk0.still (h.blk.cell 8 rfl)
  obtain ⟨x, hx⟩ : ∃ x, x = cs.getD b 0 := ⟨_, rfl⟩
  rw [← hx] at cb ⊢
  have HP := Lib.hid (h.put hk0.drew hv hz a x)
  have hgw : g < w.heap.size := World.block_lt_of_cell? _ _ (hc a ha).1
  have hb1 : Blk (W0.drew.setCell ⟨g, a, none⟩ (.int .i64 x)) w.heap.size [.int .i64 ok, .int .i64 (a : Int), .int .i64 (b : Int), .int .i64 oc] 52 := hb0.drew.other (a := ⟨g, a, none⟩) (by simp; omega) _
  have o1 := hb0.cell 1 rfl
  have o2 := hb0.cell 2 rfl
  have p1 := hb1.cell 1 rfl
  have pa : (W0.drew.setCell ⟨g, a, none⟩ (.int .i64 x)).cell? ⟨g, a, none⟩ = some (.int .i64 x) := World.cell?_setCell_same _ _ _ ca
  have hai : (a : Int) < zs.length := by omega
  have hbi : (b : Int) < cs.length := by omega
  have HW0 := Lib.hid hW0
  clear hc hc2 hk0 h hn hn2 hW0 hb0 hb1 hx
  go_enter Tryz.func61, Tryz.ntmps61
  go_wp2_with fail
  rw [← HW0.out]
  clear HW0
  refine wp_region_still_tail 12 (by kernel_rfl) (by kernel_rfl) ?_
  change wpStill _ _ (World.drew _) _ _ _
  simp only [List.take_succ_cons, List.take_zero, List.drop_succ_cons, List.drop_zero]
  repeat still_step
  refine wpStill_nil ?_
  change wpList _ _ _ _ _ W0.drew
  go_wp2_with fail
  go_ret2
  exact ⟨rfl, HP.out.1, HP.out.2⟩

set_option maxRecDepth 4000 in
set_option maxHeartbeats 1000000 in
theorem gset_any (h : GRep F B c m vs vr vc vo R w) {k : Nat} {v : Value} {zs cs : List Int} (hv : vs[k]? = some v) (hz : R[k]? = some zs) (hcs : R[m]? = some cs) (o : OpR) (a b : Nat) (ha : a < cs.length) (hb : b < zs.length) (hoa : o.a = a) (hob : o.b = b) :
    Calls Tryz.prog 62 #[.pointer (some ⟨B, 0, none⟩), v, .agg o.cells.toArray] w fun e w' => e = .returned (.tuple #[.int .i64 0, .int .i64 0]) ∧ GRep F B c m vs vr vc vo (R.set m (cs.set a (zs.getD b 0))) w' ∧ Keep F w w' := by
  obtain ⟨g, cap, rfl, hn, hF, hc⟩ := h.open_ hv hz (by omega)
  obtain ⟨g2, cap2, rfl, hn2, hF2, hc2⟩ := h.open_ h.mid hcs (by omega)
  obtain ⟨ok, oa, ob, oc⟩ := o
  simp only at hoa hob
  subst hoa hob
  simp only [OpR.cells]
  obtain ⟨W0, hW0⟩ : ∃ W', W' = w.alloc (.cells #[.int .i64 ok, .int .i64 (a : Int), .int .i64 (b : Int), .int .i64 oc] 52) := ⟨_, rfl⟩
  have hk0 : Keep none_ w W0 := by rw [hW0]; exact (Keep.refl _ _).alloc _
  have hb0 : Blk W0 w.heap.size [.int .i64 ok, .int .i64 (a : Int), .int .i64 (b : Int), .int .i64 oc] 52 := by rw [hW0]; exact Blk.new w _ _
  have ca := hk0.still (hc2 a ha).1
  have cb := hk0.still (hc b hb).1
  have fa : W0.frozen? ⟨g2, a, none⟩ = false := by rw [hk0.frozen (World.block_lt_of_cell? _ _ (hc2 a ha).1) (fun f => f)]; exact (hc2 a ha).2
  have cB : W0.cell? ⟨B, 8, none⟩ = some (.slice (some ⟨g2, 0, none⟩) cs.length cap2) := hk0.still (h.blk.cell 8 rfl)
  obtain ⟨x, hx⟩ : ∃ x, x = zs.getD b 0 := ⟨_, rfl⟩
  rw [← hx] at cb ⊢
  have HP := Lib.hid (h.put hk0.drew h.mid hcs a x)
  have o1 := hb0.cell 1 rfl
  have o2 := hb0.cell 2 rfl
  have hai : (a : Int) < cs.length := by omega
  have hbi : (b : Int) < zs.length := by omega
  have HW0 := Lib.hid hW0
  clear hc hc2 hk0 h hn hn2 hW0 hb0 hx
  go_enter Tryz.func62, Tryz.ntmps62
  go_wp2_with fail
  rw [← HW0.out]
  clear HW0
  refine wp_region_still_tail 12 (by kernel_rfl) (by kernel_rfl) ?_
  change wpStill _ _ (World.drew _) _ _ _
  simp only [List.take_succ_cons, List.take_zero, List.drop_succ_cons, List.drop_zero]
  repeat still_step
  refine wpStill_nil ?_
  change wpList _ _ _ _ _ W0.drew
  go_wp2_with fail
  go_ret2
  exact ⟨rfl, HP.out.1, HP.out.2⟩
end
end Go.Proofs.YtkjplkkjdlanhaaGreatDoor
