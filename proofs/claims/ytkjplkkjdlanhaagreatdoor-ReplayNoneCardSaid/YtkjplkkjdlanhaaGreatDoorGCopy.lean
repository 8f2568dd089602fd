/- Copy: a graph that is the same, in memory of its own. -/
import Derived.Test.YtkjplkkjdlanhaaGreatDoorGNew
import Derived.Deep.RegionWith
namespace Go.Proofs.YtkjplkkjdlanhaaGreatDoor
open Go.RowKit Go.Sort
attribute [local go_sem ↓] app9_of

theorem clone_row {w : World} {v : Value} {zs : List Int} (ho : w.ownsRow 0 3 1 v zs.length (zs.map (Value.int .i64))) (hl : zs.length ≤ 1000000) :
    Calls Tryz.prog 43 #[v] w fun e w' => ∃ v', e = .returned v' ∧ w'.ownsRow 0 3 1 v' zs.length (zs.map (Value.int .i64)) ∧ (∀ k, v'.ownBlock = some k → w.heap.size ≤ k) ∧ Keep none_ w w' := by
  obtain ⟨a, cap, rfl, hl2, hn, hnil, hc⟩ := own_form ho
  have hC : Cells w a zs.length (zs.map (Value.int .i64)) := by
    refine ⟨hl2, fun h0 => ?_⟩
    obtain ⟨g, rfl, _⟩ := hc 0 ((zs.map (Value.int .i64))[0]'(by simpa using h0)) (List.getElem?_eq_getElem (by simpa using h0))
    refine ⟨g, 0, rfl, fun j u hj => ?_⟩
    obtain ⟨g', e, h1, _⟩ := hc j u hj
    cases e
    rw [Nat.zero_add]
    exact h1
  refine (cloneI_cells a zs.length cap _ w hC hnil (by omega) (by simp [Value.oneCell'])).mono ?_
  rintro e w' ⟨v', rfl, h1, h2⟩
  exact ⟨v', rfl, own_low h1 (Nat.zero_le _), fun k hk => (World.ownsRow.lt h1 k hk).1, h2⟩

section
variable {F : Nat → Prop} {B : Nat} {c : Conf} {m : Nat} {vs : List Value} {vr vc vo : Value} {R : List (List Int)} {W : World}

/-- One more object, at the operations of a loop's round. -/
theorem GRep.addAt (h : GRep F B c m vs vr vc vo R W) (hF : ∀ k, W.heap.size ≤ k → F k) (hR : R.length ≤ 1000) {W1 : World} (hk1 : Keep none_ W W1) {v0 : Value} {zs : List Int} (ho : W1.ownsRow 0 3 1 v0 zs.length (zs.map (Value.int .i64)))
    (hnew : ∀ k, v0.ownBlock = some k → W.heap.size ≤ k) (h1 : v0.oneCell' = true) : ∃ g cap W2, (app9 #[63, 63] 63 #[vo, .slice (some ⟨W1.heap.size, 0, none⟩) 1 1]).run Tryz.prog (W1.alloc (.cells #[v0] 46)) = .ok (.slice (some ⟨g, 0, none⟩) (R.length - (m + 1) + 1) cap) W2 ∧
      W2.cell? ⟨B, 9, none⟩ = some vo ∧ W2.frozen? ⟨B, 9, none⟩ = false ∧
      GRep F B c m (vs ++ [v0]) vr vc (.slice (some ⟨g, 0, none⟩) (R.length - (m + 1) + 1) cap) (R ++ [zs]) (W2.setCell ⟨B, 9, none⟩ (.slice (some ⟨g, 0, none⟩) (R.length - (m + 1) + 1) cap)) ∧
      Keep F W (W2.setCell ⟨B, 9, none⟩ (.slice (some ⟨g, 0, none⟩) (R.length - (m + 1) + 1) cap)) := by
  have hk2 : Keep none_ W (W1.alloc (.cells #[v0] 46)) := hk1.alloc _
  have hs : (W1.alloc (.cells #[v0] 46)).cell? ⟨W1.heap.size, 0, none⟩ = some v0 := (Blk.new W1 [v0] 46).cell 0 rfl
  obtain ⟨g, cap, W2, hrun, how, hgr, hwh⟩ := app_rows ((h.still hk2).objs) hs h1 (by omega)
  have hb2 : Blk W2 B _ _ := (h.still hk2).blk.grown hgr (own_ne (h.still hk2).blk (h.still hk2).objs (by decide))
  have hadd := h.add hF hk2 (own_still ho ((Keep.refl _ _).alloc _)) hnew how hgr hwh
  exact ⟨g, cap, W2, hrun, hb2.cell 9 rfl, hb2.free 9, hadd.1, hadd.2⟩
/-- One more row of registers. -/
theorem GRep.addRegAt {rs : List Value} {Rr : List (List Int)} {cs : List Int} {i : Nat} (h : GRep F B c i (rs ++ [vc]) vr vc (.slice none 0 0) (Rr ++ [cs]) W) (hl : rs.length = i) (hF : ∀ k, W.heap.size ≤ k → F k) (hi : i ≤ 1000) {W1 : World} (hk1 : Keep none_ W W1) {v0 : Value} {zs : List Int}
    (ho : W1.ownsRow 0 3 1 v0 zs.length (zs.map (Value.int .i64))) (hnew : ∀ k, v0.ownBlock = some k → W.heap.size ≤ k) (h1 : v0.oneCell' = true) :
    ∃ g cap W2, (app9 #[63, 63] 63 #[vr, .slice (some ⟨W1.heap.size, 0, none⟩) 1 1]).run Tryz.prog (W1.alloc (.cells #[v0] 46)) = .ok (.slice (some ⟨g, 0, none⟩) (i + 1) cap) W2 ∧
      W2.cell? ⟨B, 7, none⟩ = some vr ∧ W2.frozen? ⟨B, 7, none⟩ = false ∧
      GRep F B c (i + 1) ((rs ++ [v0]) ++ [vc]) (.slice (some ⟨g, 0, none⟩) (i + 1) cap) vc (.slice none 0 0) ((Rr ++ [zs]) ++ [cs]) (W2.setCell ⟨B, 7, none⟩ (.slice (some ⟨g, 0, none⟩) (i + 1) cap)) ∧
      Keep F W (W2.setCell ⟨B, 7, none⟩ (.slice (some ⟨g, 0, none⟩) (i + 1) cap)) := by
  have hk2 : Keep none_ W (W1.alloc (.cells #[v0] 46)) := hk1.alloc _
  have hs : (W1.alloc (.cells #[v0] 46)).cell? ⟨W1.heap.size, 0, none⟩ = some v0 := (Blk.new W1 [v0] 46).cell 0 rfl
  have hregs : W.ownsRow 0 46 1 vr i rs := by
    have := h.regs
    rw [List.take_append_of_le_length (by omega), List.take_of_length_le (by omega)] at this
    exact this
  obtain ⟨g, cap, W2, hrun, how, hgr, hwh⟩ := app_rows (own_still hregs hk2) hs h1 (by omega)
  have hb2 : Blk W2 B _ _ := (h.still hk2).blk.grown hgr (own_ne (h.still hk2).blk (h.still hk2).regs (by decide))
  have hadd := h.addReg hl hF hk2 (own_still ho ((Keep.refl _ _).alloc _)) hnew how hgr hwh
  exact ⟨g, cap, W2, hrun, hb2.cell 7 rfl, hb2.free 7, hadd.1, hadd.2⟩
end

theorem own_one {w : World} {e : TypeId} {v : Value} {n : Nat} {xs : List Value} (h : w.ownsRow 0 e 1 v n xs) : v.oneCell' = true := by
  obtain ⟨a, cap, rfl, _⟩ := own_form h
  rfl

/-- What Copy has made behind k rows of registers. -/
structure CpR (w : World) (B : Nat) (c : Conf) (m : Nat) (R : List (List Int)) (vc : Value) (k : Nat) (W : World) : Prop where
  rep : ∃ rs vr, rs.length = k ∧ GRep (fun i => w.heap.size ≤ i) B c k (rs ++ [vc]) vr vc (.slice none 0 0) (R.take k ++ [R.getD m []]) W
  keep : Keep none_ w W
/-- .. and behind k objects. -/
structure CpO (w : World) (B : Nat) (c : Conf) (m : Nat) (R : List (List Int)) (k : Nat) (W : World) : Prop where
  rep : ∃ vs vr vc vo, GRep (fun i => w.heap.size ≤ i) B c m vs vr vc vo (R.take (m + 1 + k)) W
  keep : Keep none_ w W
theorem CpR.toO {w : World} {B : Nat} {c : Conf} {m : Nat} {R : List (List Int)} {vc : Value} {W : World} (h : CpR w B c m R vc m W) (hm : m < R.length) : CpO w B c m R 0 W := by
  obtain ⟨⟨rs, vr, hl, h0⟩, hk⟩ := h
  refine ⟨⟨rs ++ [vc], vr, vc, .slice none 0 0, ?_⟩, hk⟩
  · have e : R.take (m + 1 + 0) = R.take m ++ [R.getD m []] := by
      rw [Nat.add_zero, List.take_succ_eq_append_getElem hm]
      simp [hm]
    rw [e]; exact h0
theorem CpR.next {w : World} {B : Nat} {c : Conf} {m : Nat} {R : List (List Int)} {vc : Value} {k : Nat} {W : World} (h : CpR w B c m R vc k W) (hk : k < m) (hm : m < R.length) (hm2 : m ≤ 1000) : ∃ ar capr, W.cell? ⟨B, 7, none⟩ = some (.slice ar k capr) ∧ W.frozen? ⟨B, 7, none⟩ = false ∧
    ∀ W1 v0, Keep none_ W W1 → W1.ownsRow 0 3 1 v0 (R.getD k []).length ((R.getD k []).map (Value.int .i64)) → (∀ i, v0.ownBlock = some i → W.heap.size ≤ i) →
      ∃ g cap W2, (app9 #[63, 63] 63 #[.slice ar k capr, .slice (some ⟨W1.heap.size, 0, none⟩) 1 1]).run Tryz.prog (W1.alloc (.cells #[v0] 46)) = .ok (.slice (some ⟨g, 0, none⟩) (k + 1) cap) W2 ∧
        W2.cell? ⟨B, 7, none⟩ = some (.slice ar k capr) ∧ W2.frozen? ⟨B, 7, none⟩ = false ∧ Hid (CpR w B c m R vc (k + 1) (W2.setCell ⟨B, 7, none⟩ (.slice (some ⟨g, 0, none⟩) (k + 1) cap))) := by
  obtain ⟨⟨rs, vr, hl, h0⟩, hkp⟩ := h
  obtain ⟨ar, capr, rfl⟩ := h0.nregs
  refine ⟨ar, capr, h0.blk.cell 7 rfl, h0.blk.free 7, fun W1 v0 hk1 ho hnew => ?_⟩
  obtain ⟨g, cap, W2, h1, h2, h3, h4, h5⟩ := h0.addRegAt hl (fun i hi => Nat.le_trans hkp.size hi) (by omega) hk1 ho hnew (own_one ho)
  refine ⟨g, cap, W2, h1, h2, h3, ⟨rs ++ [v0], .slice (some ⟨g, 0, none⟩) (k + 1) cap, by simp [hl], ?_⟩, ?_⟩
  · have e : R.take (k + 1) = R.take k ++ [R.getD k []] := by
      have hkl : k < R.length := by omega
      rw [List.take_succ_eq_append_getElem hkl]
      simp [hkl]
    rw [e]; exact h4
  · exact hkp.trans' h5 (fun i hi hF => by omega)
theorem CpO.next {w : World} {B : Nat} {c : Conf} {m : Nat} {R : List (List Int)} {k : Nat} {W : World} (h : CpO w B c m R k W) (hk : m + 1 + k < R.length) (hR : R.length ≤ 1000) : ∃ ar capr, W.cell? ⟨B, 9, none⟩ = some (.slice ar k capr) ∧ W.frozen? ⟨B, 9, none⟩ = false ∧
    ∀ W1 v0, Keep none_ W W1 → W1.ownsRow 0 3 1 v0 (R.getD (m + 1 + k) []).length ((R.getD (m + 1 + k) []).map (Value.int .i64)) → (∀ i, v0.ownBlock = some i → W.heap.size ≤ i) →
      ∃ g cap W2, (app9 #[63, 63] 63 #[.slice ar k capr, .slice (some ⟨W1.heap.size, 0, none⟩) 1 1]).run Tryz.prog (W1.alloc (.cells #[v0] 46)) = .ok (.slice (some ⟨g, 0, none⟩) (k + 1) cap) W2 ∧
        W2.cell? ⟨B, 9, none⟩ = some (.slice ar k capr) ∧ W2.frozen? ⟨B, 9, none⟩ = false ∧ Hid (CpO w B c m R (k + 1) (W2.setCell ⟨B, 9, none⟩ (.slice (some ⟨g, 0, none⟩) (k + 1) cap))) := by
  obtain ⟨⟨vs, vr, vc, vo, h0⟩, hkp⟩ := h
  obtain ⟨ar, capr, rfl⟩ := h0.nobjs
  have hlen : (R.take (m + 1 + k)).length = m + 1 + k := by simp; omega
  have hc : cntP m (R.take (m + 1 + k)) = k := by unfold cntP; rw [hlen]; omega
  rw [hc] at h0
  refine ⟨ar, capr, h0.blk.cell 9 rfl, h0.blk.free 9, fun W1 v0 hk1 ho hnew => ?_⟩
  obtain ⟨g, cap, W2, h1, h2, h3, h4, h5⟩ := h0.addAt (fun i hi => Nat.le_trans hkp.size hi) (by omega) hk1 ho hnew (own_one ho)
  have e : (R.take (m + 1 + k)).length - (m + 1) + 1 = k + 1 := by rw [hlen]; omega
  rw [e] at h1 h4 h5
  refine ⟨g, cap, W2, h1, h2, h3, ⟨vs ++ [v0], vr, vc, .slice (some ⟨g, 0, none⟩) (k + 1) cap, ?_⟩, ?_⟩
  · have e : R.take (m + 1 + (k + 1)) = R.take (m + 1 + k) ++ [R.getD (m + 1 + k) []] := by
      rw [← Nat.add_assoc, List.take_succ_eq_append_getElem hk]
      simp [hk]
    rw [e]; exact h4
  · exact hkp.trans' h5 (fun i hi hF => by omega)
end Go.Proofs.YtkjplkkjdlanhaaGreatDoor
