/- field, and the deeds load and store. -/
import Derived.Test.YtkjplkkjdlanhaaGreatDoorDeed1
namespace Go.Proofs.YtkjplkkjdlanhaaGreatDoor
open Go.RowKit Go.Sort

section
variable {F : Nat → Prop} {B : Nat} {c : Conf} {m : Nat} {vs : List Value} {vr vc vo : Value} {R : List (List Int)} {w : World}

/-- An object's row, by the slice of objects. -/
theorem GRep.obj (h : GRep F B c m vs vr vc vo R w) {q : Nat} {u : Value} (hu : vs[m + 1 + q]? = some u) : ∃ go cap, vo = .slice (some ⟨go, 0, none⟩) (R.length - (m + 1)) cap ∧ q < R.length - (m + 1) ∧ w.cell? ⟨go, q, none⟩ = some u := by
  obtain ⟨a, cap, e, hl, hn, _, hc⟩ := own_form h.objs
  have hq : (vs.drop (m + 1))[q]? = some u := by rw [List.getElem?_drop]; exact hu
  obtain ⟨g, rfl, h1, _⟩ := hc q u hq
  refine ⟨g, cap, e, ?_, h1⟩
  have := (List.getElem?_eq_some_iff.1 hq).1
  omega

set_option maxRecDepth 4000 in
set_option maxHeartbeats 1000000 in
theorem field_nil (h : GRep F B c m vs vr vc vo R w) {k : Nat} {v : Value} {zs : List Int} (hv : vs[k]? = some v) (hz : R[k]? = some zs) (r : Nat) (hr : r < zs.length) (f : Int) (h0 : zs.getD r 0 = 0) :
    Calls Tryz.prog 76 #[.pointer (some ⟨B, 0, none⟩), v, .int .i64 (r : Int), .int .i64 f] w fun e w' => e = .returned (.tuple #[.pointer none, .int .i64 6]) ∧ w' = w := by
  obtain ⟨g, cap, rfl, hn, hF, hc⟩ := h.open_ hv hz (by omega)
  have cr := (hc r hr).1
  rw [h0] at cr
  have hri : (r : Int) < zs.length := by omega
  clear hc h hn h0
  go_enter Tryz.func76, Tryz.ntmps76
  go_wp2_with fail
  go_ret2
  exact ⟨rfl, rfl⟩

set_option maxRecDepth 4000 in
set_option maxHeartbeats 1000000 in
theorem field_out (h : GRep F B c m vs vr vc vo R w) {k : Nat} {v : Value} {zs fs : List Int} (hv : vs[k]? = some v) (hz : R[k]? = some zs) (r : Nat) (hr : r < zs.length) (f : Int) (q : Nat) (h0 : zs.getD r 0 = (q : Int) + 1) (hq : q < 1000000) (hf : R[m + 1 + q]? = some fs) (hout : f < 0 ∨ (fs.length : Int) ≤ f) :
    Calls Tryz.prog 76 #[.pointer (some ⟨B, 0, none⟩), v, .int .i64 (r : Int), .int .i64 f] w fun e w' => e = .returned (.tuple #[.pointer none, .int .i64 7]) ∧ w' = w := by
  obtain ⟨g, cap, rfl, hn, hF, hc⟩ := h.open_ hv hz (by omega)
  obtain ⟨u, hu, ho⟩ := h.rowAt (m + 1 + q) (List.getElem?_eq_some_iff.1 hf).1
  have hfs : R[m + 1 + q]'(List.getElem?_eq_some_iff.1 hf).1 = fs := (List.getElem?_eq_some_iff.1 hf).2
  rw [hfs] at ho
  obtain ⟨au, capu, rfl, _, _, _, _⟩ := own_form ho
  obtain ⟨go, capo, rfl, hql, co⟩ := h.obj hu
  have cB : w.cell? ⟨B, 9, none⟩ = some (.slice (some ⟨go, 0, none⟩) (R.length - (m + 1)) capo) := h.blk.cell 9 rfl
  have cr := (hc r hr).1
  rw [h0] at cr
  have hri : (r : Int) < zs.length := by omega
  have hqi : (q : Int) < ((R.length - (m + 1) : Nat) : Int) := by omega
  have hne : ((q : Int) + 1 == 0) = false := by simp; omega
  generalize R.length - (m + 1) = nobj at *
  clear hc h hn h0 ho hu hfs hf
  by_cases hneg : f < 0
  · have d1 : decide (f < 0) = true := decide_eq_true hneg
    clear hneg hout
    go_enter Tryz.func76, Tryz.ntmps76
    go_wp2_with fail
    go_ret2
    exact ⟨rfl, rfl⟩
  · have d1 : decide (f < 0) = false := decide_eq_false hneg
    have d2 : decide ((fs.length : Int) ≤ f) = true := decide_eq_true (by omega)
    clear hneg hout
    go_enter Tryz.func76, Tryz.ntmps76
    go_wp2_with fail
    go_ret2
    exact ⟨rfl, rfl⟩

set_option maxRecDepth 4000 in
set_option maxHeartbeats 1000000 in
theorem field_ok (h : GRep F B c m vs vr vc vo R w) {k : Nat} {v : Value} {zs fs : List Int} (hv : vs[k]? = some v) (hz : R[k]? = some zs) (r : Nat) (hr : r < zs.length) (f : Nat) (q : Nat) (h0 : zs.getD r 0 = (q : Int) + 1) (hq : q < 1000000) (hin : f < fs.length) {gf cf : Nat} (hu : vs[m + 1 + q]? = some (.slice (some ⟨gf, 0, none⟩) fs.length cf)) :
    Calls Tryz.prog 76 #[.pointer (some ⟨B, 0, none⟩), v, .int .i64 (r : Int), .int .i64 (f : Int)] w fun e w' => e = .returned (.tuple #[.pointer (some ⟨gf, f, none⟩), .int .i64 0]) ∧ w' = w := by
  obtain ⟨g, cap, rfl, hn, hF, hc⟩ := h.open_ hv hz (by omega)
  obtain ⟨go, capo, rfl, hql, co⟩ := h.obj hu
  have cB : w.cell? ⟨B, 9, none⟩ = some (.slice (some ⟨go, 0, none⟩) (R.length - (m + 1)) capo) := h.blk.cell 9 rfl
  have cr := (hc r hr).1
  rw [h0] at cr
  have hri : (r : Int) < zs.length := by omega
  have hqi : (q : Int) < ((R.length - (m + 1) : Nat) : Int) := by omega
  have hne : ((q : Int) + 1 == 0) = false := by simp; omega
  have hfi : (f : Int) < fs.length := by omega
  have hge : decide ((fs.length : Int) ≤ (f : Int)) = false := decide_eq_false (by omega)
  generalize R.length - (m + 1) = nobj at *
  clear hc h hn h0 hu
  go_enter Tryz.func76, Tryz.ntmps76
  go_wp2_with fail
  go_ret2
  exact ⟨rfl, rfl⟩

set_option maxRecDepth 4000 in
set_option maxHeartbeats 1000000 in
theorem load_nil (h : GRep F B c m vs vr vc vo R w) {k : Nat} {v : Value} {zs : List Int} (hv : vs[k]? = some v) (hz : R[k]? = some zs) (ok oa oc : Int) (b : Nat) (hb : b < zs.length) (h0 : zs.getD b 0 = 0) :
    Calls Tryz.prog 59 #[.pointer (some ⟨B, 0, none⟩), v, .agg #[.int .i64 ok, .int .i64 oa, .int .i64 (b : Int), .int .i64 oc]] w fun e w' => e = .returned (.tuple #[.int .i64 0, .int .i64 6]) ∧ GRep F B c m vs vr vc vo R w' ∧ Keep F w w' := by
  obtain ⟨W0, hW0⟩ : ∃ W', W' = w.alloc (.cells #[.int .i64 ok, .int .i64 oa, .int .i64 (b : Int), .int .i64 oc] 52) := ⟨_, rfl⟩
  have hk0 : Keep none_ w W0 := by rw [hW0]; exact (Keep.refl _ _).alloc _
  have HG : Hid (GRep F B c m vs vr vc vo R W0 ∧ Keep F w W0) := ⟨h.still hk0, hk0.mono (fun _ _ f => f.elim)⟩
  have HC := Lib.hid (field_nil HG.out.1 hv hz b hb oc h0)
  rw [hW0] at HG HC
  clear h hk0 hv hz hb h0 hW0
  go_enter Tryz.func59, Tryz.ntmps59
  go_wp2_with (go_at_call 76; refine HC.out.mono ?_; rintro e w1 ⟨rfl, rfl⟩)
  go_ret2
  exact ⟨rfl, HG.out.1, HG.out.2⟩

set_option maxRecDepth 4000 in
set_option maxHeartbeats 1000000 in
theorem load_out (h : GRep F B c m vs vr vc vo R w) {k : Nat} {v : Value} {zs : List Int} (hv : vs[k]? = some v) (hz : R[k]? = some zs) {fs : List Int} (ok oa oc : Int) (b : Nat) (hb : b < zs.length) (q : Nat) (h0 : zs.getD b 0 = (q : Int) + 1) (hq : q < 1000000) (hf : R[m + 1 + q]? = some fs) (hout : oc < 0 ∨ (fs.length : Int) ≤ oc) :
    Calls Tryz.prog 59 #[.pointer (some ⟨B, 0, none⟩), v, .agg #[.int .i64 ok, .int .i64 oa, .int .i64 (b : Int), .int .i64 oc]] w fun e w' => e = .returned (.tuple #[.int .i64 0, .int .i64 7]) ∧ GRep F B c m vs vr vc vo R w' ∧ Keep F w w' := by
  obtain ⟨W0, hW0⟩ : ∃ W', W' = w.alloc (.cells #[.int .i64 ok, .int .i64 oa, .int .i64 (b : Int), .int .i64 oc] 52) := ⟨_, rfl⟩
  have hk0 : Keep none_ w W0 := by rw [hW0]; exact (Keep.refl _ _).alloc _
  have HG : Hid (GRep F B c m vs vr vc vo R W0 ∧ Keep F w W0) := ⟨h.still hk0, hk0.mono (fun _ _ f => f.elim)⟩
  have HC := Lib.hid (field_out HG.out.1 hv hz b hb oc q h0 hq hf hout)
  rw [hW0] at HG HC
  clear h hk0 hv hz hb h0 hq hf hout hW0
  go_enter Tryz.func59, Tryz.ntmps59
  go_wp2_with (go_at_call 76; refine HC.out.mono ?_; rintro e w1 ⟨rfl, rfl⟩)
  go_ret2
  exact ⟨rfl, HG.out.1, HG.out.2⟩

set_option maxRecDepth 4000 in
set_option maxHeartbeats 1000000 in
theorem store_nil (h : GRep F B c m vs vr vc vo R w) {k : Nat} {v : Value} {zs : List Int} (hv : vs[k]? = some v) (hz : R[k]? = some zs) (ok ob oc : Int) (a : Nat) (ha : a < zs.length) (h0 : zs.getD a 0 = 0) :
    Calls Tryz.prog 60 #[.pointer (some ⟨B, 0, none⟩), v, .agg #[.int .i64 ok, .int .i64 (a : Int), .int .i64 ob, .int .i64 oc]] w fun e w' => e = .returned (.tuple #[.int .i64 0, .int .i64 6]) ∧ GRep F B c m vs vr vc vo R w' ∧ Keep F w w' := by
  obtain ⟨W0, hW0⟩ : ∃ W', W' = w.alloc (.cells #[.int .i64 ok, .int .i64 (a : Int), .int .i64 ob, .int .i64 oc] 52) := ⟨_, rfl⟩
  have hk0 : Keep none_ w W0 := by rw [hW0]; exact (Keep.refl _ _).alloc _
  have HG : Hid (GRep F B c m vs vr vc vo R W0 ∧ Keep F w W0) := ⟨h.still hk0, hk0.mono (fun _ _ f => f.elim)⟩
  have HC := Lib.hid (field_nil HG.out.1 hv hz a ha ob h0)
  rw [hW0] at HG HC
  clear h hk0 hv hz ha h0 hW0
  go_enter Tryz.func60, Tryz.ntmps60
  go_wp2_with (go_at_call 76; refine HC.out.mono ?_; rintro e w1 ⟨rfl, rfl⟩)
  go_ret2
  exact ⟨rfl, HG.out.1, HG.out.2⟩

set_option maxRecDepth 4000 in
set_option maxHeartbeats 1000000 in
theorem store_out (h : GRep F B c m vs vr vc vo R w) {k : Nat} {v : Value} {zs : List Int} (hv : vs[k]? = some v) (hz : R[k]? = some zs) {fs : List Int} (ok ob oc : Int) (a : Nat) (ha : a < zs.length) (q : Nat) (h0 : zs.getD a 0 = (q : Int) + 1) (hq : q < 1000000) (hf : R[m + 1 + q]? = some fs) (hout : ob < 0 ∨ (fs.length : Int) ≤ ob) :
    Calls Tryz.prog 60 #[.pointer (some ⟨B, 0, none⟩), v, .agg #[.int .i64 ok, .int .i64 (a : Int), .int .i64 ob, .int .i64 oc]] w fun e w' => e = .returned (.tuple #[.int .i64 0, .int .i64 7]) ∧ GRep F B c m vs vr vc vo R w' ∧ Keep F w w' := by
  obtain ⟨W0, hW0⟩ : ∃ W', W' = w.alloc (.cells #[.int .i64 ok, .int .i64 (a : Int), .int .i64 ob, .int .i64 oc] 52) := ⟨_, rfl⟩
  have hk0 : Keep none_ w W0 := by rw [hW0]; exact (Keep.refl _ _).alloc _
  have HG : Hid (GRep F B c m vs vr vc vo R W0 ∧ Keep F w W0) := ⟨h.still hk0, hk0.mono (fun _ _ f => f.elim)⟩
  have HC := Lib.hid (field_out HG.out.1 hv hz a ha ob q h0 hq hf hout)
  rw [hW0] at HG HC
  clear h hk0 hv hz ha h0 hq hf hout hW0
  go_enter Tryz.func60, Tryz.ntmps60
  go_wp2_with (go_at_call 76; refine HC.out.mono ?_; rintro e w1 ⟨rfl, rfl⟩)
  go_ret2
  exact ⟨rfl, HG.out.1, HG.out.2⟩

set_option maxRecDepth 4000 in
set_option maxHeartbeats 1000000 in
theorem load_ok (h : GRep F B c m vs vr vc vo R w) {k : Nat} {v : Value} {zs : List Int} (hv : vs[k]? = some v) (hz : R[k]? = some zs) {fs : List Int} (ok : Int) (a b f : Nat) (ha : a < zs.length) (hb : b < zs.length) (q : Nat) (h0 : zs.getD b 0 = (q : Int) + 1) (hq : q < 1000000) (hf : R[m + 1 + q]? = some fs) (hin : f < fs.length) :
    Calls Tryz.prog 59 #[.pointer (some ⟨B, 0, none⟩), v, .agg #[.int .i64 ok, .int .i64 (a : Int), .int .i64 (b : Int), .int .i64 (f : Int)]] w fun e w' => e = .returned (.tuple #[.int .i64 (fs.getD f 0), .int .i64 0]) ∧ GRep F B c m vs vr vc vo (R.set k (zs.set a (fs.getD f 0))) w' ∧ Keep F w w' := by
  obtain ⟨W0, hW0⟩ : ∃ W', W' = w.alloc (.cells #[.int .i64 ok, .int .i64 (a : Int), .int .i64 (b : Int), .int .i64 (f : Int)] 52) := ⟨_, rfl⟩
  have hk0 : Keep none_ w W0 := by rw [hW0]; exact (Keep.refl _ _).alloc _
  have hb0 : Blk W0 w.heap.size [.int .i64 ok, .int .i64 (a : Int), .int .i64 (b : Int), .int .i64 (f : Int)] 52 := by rw [hW0]; exact Blk.new w _ _
  obtain ⟨g, cap, rfl, hn, hF, hc⟩ := h.open_ hv hz (by omega)
  obtain ⟨u, hu, -⟩ := h.rowAt (m + 1 + q) (List.getElem?_eq_some_iff.1 hf).1
  obtain ⟨gf, cf, rfl, hnf, hFf, hcf⟩ := h.open_ hu hf (by omega)
  have HC := Lib.hid (field_ok (h.still hk0) hv hz b hb f q h0 hq hin hu)
  have ca := hk0.still (hc a ha).1
  have cf := hk0.still (hcf f hin).1
  have fa : W0.frozen? ⟨g, a, none⟩ = false := by rw [hk0.frozen (World.block_lt_of_cell? _ _ (hc a ha).1) (fun f => f)]; exact (hc a ha).2
  obtain ⟨x, hx⟩ : ∃ x, x = fs.getD f 0 := ⟨_, rfl⟩
  rw [← hx] at cf ⊢
  have HP := Lib.hid (h.put hk0.drew hv hz a x)
  have hgw : g < w.heap.size := World.block_lt_of_cell? _ _ (hc a ha).1
  have hb1 : Blk (W0.drew.setCell ⟨g, a, none⟩ (.int .i64 x)) w.heap.size [.int .i64 ok, .int .i64 (a : Int), .int .i64 (b : Int), .int .i64 (f : Int)] 52 := hb0.drew.other (a := ⟨g, a, none⟩) (by simp; omega) _
  have o1 := hb0.cell 1 rfl
  have o2 := hb0.cell 2 rfl
  have o3 := hb0.cell 3 rfl
  have p1 := hb1.cell 1 rfl
  have pa : (W0.drew.setCell ⟨g, a, none⟩ (.int .i64 x)).cell? ⟨g, a, none⟩ = some (.int .i64 x) := World.cell?_setCell_same _ _ _ ca
  have hai : (a : Int) < zs.length := by omega
  have HW0 := Lib.hid hW0
  clear hc hcf hk0 h hn hnf hW0 hb0 hb1 hx hf hu h0
  go_enter Tryz.func59, Tryz.ntmps59
  go_wp2_with (rw [← HW0.out]; clear HW0; go_at_call 76; refine HC.out.mono ?_; rintro e w1 ⟨rfl, rfl⟩)
  refine wp_region_still_tail 7 (by kernel_rfl) (by kernel_rfl) ?_
  change wpStill _ _ (World.drew _) _ _ _
  simp only [List.take_succ_cons, List.take_zero, List.drop_succ_cons, List.drop_zero]
  repeat still_step
  refine wpStill_nil ?_
  change wpList _ _ _ _ _ (World.drew _)
  go_wp2_with fail
  go_ret2
  exact ⟨rfl, HP.out.1, HP.out.2⟩

set_option maxRecDepth 4000 in
set_option maxHeartbeats 1000000 in
theorem store_ok (h : GRep F B c m vs vr vc vo R w) {k : Nat} {v : Value} {zs : List Int} (hv : vs[k]? = some v) (hz : R[k]? = some zs) {fs : List Int} (ok : Int) (a f r : Nat) (ha : a < zs.length) (hr : r < zs.length) (q : Nat) (h0 : zs.getD a 0 = (q : Int) + 1) (hq : q < 1000000) (hf : R[m + 1 + q]? = some fs) (hin : f < fs.length) :
    Calls Tryz.prog 60 #[.pointer (some ⟨B, 0, none⟩), v, .agg #[.int .i64 ok, .int .i64 (a : Int), .int .i64 (f : Int), .int .i64 (r : Int)]] w fun e w' => e = .returned (.tuple #[.int .i64 0, .int .i64 0]) ∧ GRep F B c m vs vr vc vo (R.set (m + 1 + q) (fs.set f (zs.getD r 0))) w' ∧ Keep F w w' := by
  obtain ⟨W0, hW0⟩ : ∃ W', W' = w.alloc (.cells #[.int .i64 ok, .int .i64 (a : Int), .int .i64 (f : Int), .int .i64 (r : Int)] 52) := ⟨_, rfl⟩
  have hk0 : Keep none_ w W0 := by rw [hW0]; exact (Keep.refl _ _).alloc _
  have hb0 : Blk W0 w.heap.size [.int .i64 ok, .int .i64 (a : Int), .int .i64 (f : Int), .int .i64 (r : Int)] 52 := by rw [hW0]; exact Blk.new w _ _
  obtain ⟨g, cap, rfl, hn, hF, hc⟩ := h.open_ hv hz (by omega)
  obtain ⟨u, hu, -⟩ := h.rowAt (m + 1 + q) (List.getElem?_eq_some_iff.1 hf).1
  obtain ⟨gf, cf, rfl, hnf, hFf, hcf⟩ := h.open_ hu hf (by omega)
  have HC := Lib.hid (field_ok (h.still hk0) hv hz a ha f q h0 hq hin hu)
  have cr := hk0.still (hc r hr).1
  have cf := hk0.still (hcf f hin).1
  have fa : W0.frozen? ⟨gf, f, none⟩ = false := by rw [hk0.frozen (World.block_lt_of_cell? _ _ (hcf f hin).1) (fun f => f)]; exact (hcf f hin).2
  obtain ⟨x, hx⟩ : ∃ x, x = zs.getD r 0 := ⟨_, rfl⟩
  rw [← hx] at cr ⊢
  have HP := Lib.hid (h.put hk0 hu hf f x)
  have o1 := hb0.cell 1 rfl
  have o2 := hb0.cell 2 rfl
  have o3 := hb0.cell 3 rfl
  have hri : (r : Int) < zs.length := by omega
  have HW0 := Lib.hid hW0
  clear hc hcf hk0 h hn hnf hW0 hb0 hx hf hu h0
  go_enter Tryz.func60, Tryz.ntmps60
  go_wp2_with (rw [← HW0.out]; clear HW0; go_at_call 76; refine HC.out.mono ?_; rintro e w1 ⟨rfl, rfl⟩)
  go_ret2
  exact ⟨rfl, HP.out.1, HP.out.2⟩
end
end Go.Proofs.YtkjplkkjdlanhaaGreatDoor
