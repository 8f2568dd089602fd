/- The walk of Copy. -/
import Derived.Test.YtkjplkkjdlanhaaGreatDoorGCopy
import Derived.Deep.RegionHeld3
namespace Go.Proofs.YtkjplkkjdlanhaaGreatDoor
open Go.RowKit Go.Sort
attribute [local go_sem ↓] app9_of

set_option maxRecDepth 4000 in
set_option maxHeartbeats 4000000 in
theorem copy_any {F : Nat → Prop} {B : Nat} {c : Conf} {m : Nat} {vs : List Value} {vr vc vo : Value} {R : List (List Int)} {w : World} (h : GRep F B c m vs vr vc vo R w) (hm : m ≤ 1000) (hR : R.length ≤ 1000) (hrow : ∀ zs ∈ R, zs.length ≤ 1000000) :
    Calls Tryz.prog 26 #[.pointer (some ⟨B, 0, none⟩)] w fun e w' => ∃ B', e = .returned (.pointer (some ⟨B', 0, none⟩)) ∧ (∃ vs' vr' vc' vo', GRep (fun k => w.heap.size ≤ k) B' c m vs' vr' vc' vo' R w') ∧ Keep none_ w w' := by
  obtain ⟨ar, capr, rfl⟩ := h.nregs
  obtain ⟨ao, capo, rfl⟩ := h.nobjs
  have hml := h.lt
  obtain ⟨cs, hcs⟩ : ∃ cs, R[m]? = some cs := ⟨_, List.getElem?_eq_getElem hml⟩
  have hvc := h.row m vc cs h.mid hcs
  have HCL : Hid (∀ W, Keep none_ w W → Calls Tryz.prog 43 #[vc] W fun e w' => ∃ v', e = .returned v' ∧ w'.ownsRow 0 3 1 v' cs.length (cs.map (Value.int .i64)) ∧ (∀ k, v'.ownBlock = some k → W.heap.size ≤ k) ∧ Keep none_ W w') := fun W hk => clone_row (own_still hvc hk) (hrow cs (List.mem_of_getElem? hcs))
  have HROW : Hid (∀ (i : Nat) v, vs[i]? = some v → ∀ W, Keep none_ w W → Calls Tryz.prog 43 #[v] W fun e w' => ∃ v', e = .returned v' ∧ w'.ownsRow 0 3 1 v' (R.getD i []).length ((R.getD i []).map (Value.int .i64)) ∧ (∀ k, v'.ownBlock = some k → W.heap.size ≤ k) ∧ Keep none_ W w') := fun i v hv W hk => by
    obtain ⟨zs, hz, ho⟩ := h.rowOf hv
    rw [getD_some hz]
    exact clone_row (own_still ho hk) (hrow zs (List.mem_of_getElem? hz))
  have HREG : Hid (∀ k, k < m → ∃ gr av nv cv, ar = some ⟨gr, 0, none⟩ ∧ vs[k]? = some (.slice av nv cv) ∧ w.cell? ⟨gr, k, none⟩ = some (.slice av nv cv)) := fun k hk => by
    obtain ⟨v, hv, ho⟩ := h.rowAt k (by omega)
    obtain ⟨gr, capr', e, hc⟩ := h.reg hk hv
    injection e with e1
    obtain ⟨av, cv, rfl, -⟩ := own_form ho
    exact ⟨gr, av, _, cv, e1, hv, hc⟩
  have HOBJ : Hid (∀ k, k < cntP m R → ∃ go av nv cv, ao = some ⟨go, 0, none⟩ ∧ vs[m + 1 + k]? = some (.slice av nv cv) ∧ w.cell? ⟨go, k, none⟩ = some (.slice av nv cv)) := fun k hk => by
    obtain ⟨v, hv, ho⟩ := h.rowAt (m + 1 + k) (by unfold cntP at hk; omega)
    obtain ⟨go, capo', e, _, hc⟩ := h.obj hv
    injection e with e1
    obtain ⟨av, cv, rfl, -⟩ := own_form ho
    exact ⟨go, av, _, cv, e1, hv, hc⟩
  have HB := Lib.hid h.blk
  have HML := Lib.hid hml
  have HM := Lib.hid hm
  have HRL := Lib.hid hR
  have HCS := Lib.hid hcs
  have q0 := h.blk.cell 0 rfl; have q1 := h.blk.cell 1 rfl; have q2 := h.blk.cell 2 rfl; have q3 := h.blk.cell 3 rfl; have q4 := h.blk.cell 4 rfl; have q5 := h.blk.cell 5 rfl; have q6 := h.blk.cell 6 rfl
  have q8 := h.blk.cell 8 rfl
  clear h hvc hml hm hR hrow hcs
  go_enter Tryz.func26, Tryz.ntmps26
  go_wp2_with fail
  go_region_held3 (fun w' => w'.cell? ⟨B, 0, none⟩ = some (.int .i64 c.b) ∧ w'.cell? ⟨B, 1, none⟩ = some (.int .i64 c.w) ∧ w'.cell? ⟨B, 2, none⟩ = some (.int .i64 c.m) ∧ w'.cell? ⟨B, 3, none⟩ = some (.int .i64 c.r) ∧ w'.cell? ⟨B, 4, none⟩ = some (.int .i64 c.c) ∧ w'.cell? ⟨B, 5, none⟩ = some (.int .i64 c.l) ∧ w'.cell? ⟨B, 6, none⟩ = some (.int .i64 c.s) ∧ w'.cell? ⟨B, 8, none⟩ = some vc)
    (first
      | exact ⟨q0, q1, q2, q3, q4, q5, q6, q8⟩
      | exact ⟨k0, k1, k2, k3, k4, k5, k6, k8⟩
      | exact ⟨(HKB1.out _).still q0, (HKB1.out _).still q1, (HKB1.out _).still q2, (HKB1.out _).still q3, (HKB1.out _).still q4, (HKB1.out _).still q5, (HKB1.out _).still q6, (HKB1.out _).still q8⟩
      | fail "SFAIL")
    (first
      | (go_at_call 43
         refine (HCL.out _ (Keep.refl _ _).drew).mono ?_
         rintro e w1 ⟨vc', rfl, ho1, hn1, hk1⟩
         have HK1 := Lib.hid ((Keep.refl none_ w).drew.trans hk1)
         have HKB1 := Lib.hid (fun o => HK1.out.alloc o)
         have HO1 := Lib.hid ho1
         have HN1 := Lib.hid hn1
         have k0 := HK1.out.still q0; have k1 := HK1.out.still q1; have k2 := HK1.out.still q2; have k3 := HK1.out.still q3; have k4 := HK1.out.still q4; have k5 := HK1.out.still q5; have k6 := HK1.out.still q6; have k8 := HK1.out.still q8
         obtain ⟨ac, capc, rfl, -⟩ := own_form ho1
         clear ho1 hn1 hk1)
      | fail "CFAIL")
  have hcs2 := getD_some HCS.out
  obtain ⟨W2, hW2⟩ : ∃ W', W' = w1.alloc (.cells #[.int .i64 c.b, .int .i64 c.w, .int .i64 c.m, .int .i64 c.r, .int .i64 c.c, .int .i64 c.l, .int .i64 c.s, .slice none 0 0, .slice ac cs.length capc, .slice none 0 0] 65) := ⟨_, rfl⟩
  have hk2 : Keep none_ w1 W2 := by rw [hW2]; exact (Keep.refl _ _).alloc _
  have hB2 : Blk W2 w1.heap.size [.int .i64 c.b, .int .i64 c.w, .int .i64 c.m, .int .i64 c.r, .int .i64 c.c, .int .i64 c.l, .int .i64 c.s, .slice none 0 0, .slice ac cs.length capc, .slice none 0 0] 65 := by rw [hW2]; exact Blk.new w1 _ _
  have HI2 : Hid (CpR w w1.heap.size c m R (.slice ac cs.length capc) 0 W2) :=
    ⟨⟨[], .slice none 0 0, rfl, by rw [hcs2]; exact GRep.start hB2 (own_still HO1.out hk2) HK1.out.size (fun k hk => HN1.out k hk)⟩, HK1.out.trans hk2⟩
  have q7 : W2.cell? ⟨B, 7, none⟩ = some (.slice ar m capr) := (HK1.out.trans hk2).still (HB.out.cell 7 rfl)
  rw [← hW2]
  clear hW2 hk2 hB2 hcs2 HKB1 HCL HO1 HN1 HK1 k0 k1 k2 k3 k4 k5 k6 k8 q0 q1 q2 q3 q4 q5 q6 q8
  generalize w1.heap.size = B2 at *
  generalize Value.slice ac cs.length capc = vc2 at *
  go_wp2_with fail
  go_loopg [5, 26] m (fun g l i wr => ∃ k : Nat, g + k = m ∧ i = .int .i64 k ∧ Hid (CpR w B2 c m R vc2 k wr))
  case atStart => exact ⟨0, by omega, rfl, HI2⟩
  case round =>
    obtain ⟨k, hg, rfl, HI⟩ := hrel
    clear HI2 q7
    by_cases hlt : k < m
    · have hltz : (k : Int) < m := by omega
      have hk8 : (k : Int) < 1000 := by have := HM.out; omega
      obtain ⟨gr, av, nv, capv, rfl, hv, hcv⟩ := HREG.out k hlt
      have cv := HI.out.keep.still hcv
      obtain ⟨ar2, capr2, c7, f7, hnx⟩ := HI.out.next hlt HML.out HM.out
      have hcall := (fun W (hk : Keep none_ wr W) => HROW.out k _ hv W (HI.out.keep.trans hk))
      obtain ⟨ys, hys⟩ : ∃ ys, ys = R.getD k [] := ⟨_, rfl⟩
      rw [← hys] at hnx
      simp only [← hys] at hcall
      have HNX := Lib.hid hnx
      have HCALL := Lib.hid hcall
      clear hnx hv hcv hcall hys
      go_wp2_with fail
      go_region_with
        (go_at_call 43
         refine (HCALL.out _ (Keep.refl _ _).drew).mono ?_
         rintro e w1 ⟨v1, rfl, ho1, hn1, hk1⟩
         have hkk := (Keep.refl none_ wr).drew.trans hk1
         obtain ⟨g, cap, W3, hrun, e7, d7, HN⟩ := HNX.out w1 _ hkk ho1 hn1
         have c71 := hkk.still c7
         have c72 : ∀ o, (w1.alloc o).cell? ⟨B2, 7, none⟩ = _ := fun o => (hkk.alloc o).still c7
         obtain ⟨a1, cap1, rfl, -⟩ := own_form ho1
         clear ho1 hn1 hk1 hkk)
      all_goals
        go_wp2_with fail
        go_roundg (gk - 1)
        case measure => omega
        case rel => exact ⟨k + 1, by omega, by go_num, HN⟩
    · obtain rfl : k = m := by omega
      have hge : ¬ ((k : Int) < k) := by omega
      have HO2 := Lib.hid (HI.out.toO HML.out)
      have q9 : wr.cell? ⟨B, 9, none⟩ = some (.slice ao (cntP k R) capo) := HI.out.keep.still (HB.out.cell 9 rfl)
      have HCN : Hid (cntP k R ≤ 1000 ∧ k + 1 + cntP k R = R.length) := by have h1 := HRL.out; have h2 := HML.out; unfold Hid cntP; omega
      clear hg HI
      generalize cntP k R = no at *
      go_wp2_with fail
      go_loopg [7, 47] no (fun g l i wr => ∃ j : Nat, g + j = no ∧ i = .int .i64 j ∧ Hid (CpO w B2 c k R j wr))
      case atStart => exact ⟨0, by omega, rfl, HO2⟩
      case round =>
        obtain ⟨j, hg, rfl, HI⟩ := hrel
        clear HO2 q9
        by_cases hlt : j < no
        · have hltz : (j : Int) < no := by omega
          have hj8 : (j : Int) < 1000 := by have := HCN.out; omega
          obtain ⟨go, av, nv, capv, rfl, hv, hcv⟩ := HOBJ.out j hlt
          have cv := HI.out.keep.still hcv
          obtain ⟨ar2, capr2, c7, f7, hnx⟩ := HI.out.next (by have := HCN.out; omega) HRL.out
          have hcall := (fun W (hk : Keep none_ wr W) => HROW.out (k + 1 + j) _ hv W (HI.out.keep.trans hk))
          obtain ⟨ys, hys⟩ : ∃ ys, ys = R.getD (k + 1 + j) [] := ⟨_, rfl⟩
          rw [← hys] at hnx
          simp only [← hys] at hcall
          have HNX := Lib.hid hnx
          have HCALL := Lib.hid hcall
          clear hnx hv hcv hcall hys
          go_wp2_with fail
          go_region_with
            (go_at_call 43
             refine (HCALL.out _ (Keep.refl _ _).drew).mono ?_
             rintro e w1 ⟨v1, rfl, ho1, hn1, hk1⟩
             have hkk := (Keep.refl none_ wr).drew.trans hk1
             obtain ⟨g, cap, W3, hrun, e7, d7, HN⟩ := HNX.out w1 _ hkk ho1 hn1
             have c71 := hkk.still c7
             have c72 : ∀ o, (w1.alloc o).cell? ⟨B2, 9, none⟩ = _ := fun o => (hkk.alloc o).still c7
             obtain ⟨a1, cap1, rfl, -⟩ := own_form ho1
             clear ho1 hn1 hk1 hkk)
          all_goals
            go_wp2_with fail
            go_roundg (gk - 1)
            case measure => omega
            case rel => exact ⟨j + 1, by omega, by go_num, HN⟩
        · obtain rfl : j = no := by omega
          have hge : ¬ ((j : Int) < j) := by omega
          clear hg
          go_wp2_with fail
          go_ret
          obtain ⟨⟨vs', vr', vc', vo', h0⟩, hkeep⟩ := HI.out
          have e : R.take (k + 1 + j) = R := List.take_of_length_le (by have := HCN.out; omega)
          rw [e] at h0
          exact ⟨B2, rfl, ⟨_, _, _, _, h0⟩, hkeep⟩
end Go.Proofs.YtkjplkkjdlanhaaGreatDoor
