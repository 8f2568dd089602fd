/- The reference's Parse. -/
import Derived.Test.YtdplakfmdkjfdaaDoorParsePlain
import Derived.Test.YtdplakfmdkjfdaaDoorOpWords
import Derived.Deep.QuietTactic
import Derived.BigQuiet
namespace Go.Proofs.YtdplakfmdkjfdaaDoor
open Go.RowKit Go.Sort

def numsN (ws : List (List UInt8)) (i : Nat) : List Value := [.int .i64 (if 1 < i then nv ws 0 else 0), .int .i64 (if 2 < i then nv ws 1 else 0), .int .i64 (if 3 < i then nv ws 2 else 0)]
theorem numsN_step (ws : List (List UInt8)) {i : Nat} (h1 : 1 ≤ i) (h4 : i < 4) : (numsN ws i).set (i - 1) (.int .i64 (nv ws (i - 1))) = numsN ws (i + 1) := by
  rcases (by omega : i = 1 ∨ i = 2 ∨ i = 3) with rfl | rfl | rfl <;> simp [numsN]

theorem numsN_end {ws : List (List UInt8)} {n : Nat} (h : n = ws.length) : numsN ws n = [.int .i64 (nv ws 0), .int .i64 (nv ws 1), .int .i64 (nv ws 2)] := by
  have key : ∀ i, ¬ i + 1 < n → nv ws i = 0 := fun i hi => by
    unfold nv
    rw [List.getElem?_eq_none (by omega)]
    rfl
  have e : ∀ i, (if i + 1 < n then nv ws i else 0) = nv ws i := fun i => by
    split
    · rfl
    · rename_i hh; rw [key i hh]
  unfold numsN
  rw [e 0, e 1, e 2]

set_option maxRecDepth 4000 in
set_option maxHeartbeats 8000000 in
theorem rParse_any (s : ByteArray) (w : World) (hs : s.size ≤ 1000) : Calls Tryd.prog 34 #[.string s] w fun e w' => ∃ o ok, RP (sp s.data.toList) o ok ∧ e = .returned (.tuple #[.agg o.cells.toArray, .bool ok]) ∧ Keep none_ w w' := by
  obtain ⟨W0, hW0⟩ : ∃ W', W' = w.alloc (.cells #[.int .i64 0, .int .i64 0, .int .i64 0, .int .i64 0] 35) := ⟨_, rfl⟩
  have HK0 : Hid (Keep none_ w W0) := by rw [hW0]; exact (Keep.refl _ _).alloc _
  have HR0 : Hid (Blk W0 w.heap.size [.int .i64 0, .int .i64 0, .int .i64 0, .int .i64 0] 35) := by rw [hW0]; exact Blk.new w _ _
  have HWS := Lib.hid (rWords_any s W0 hs)
  have HPL : Hid (∀ a ∈ sp s.data.toList, a.length ≤ 1000) := fun a ha => by
    have := sp_piece s.data.toList a ha
    have e : s.data.toList.length = s.size := by simp
    omega
  have hnn := sp_ne s.data.toList
  have hlen0 := sp_len s.data.toList
  have e0 : s.data.toList.length = s.size := by simp
  rw [e0] at hlen0
  generalize sp s.data.toList = ws at *
  have HLN : Hid (ws.length ≤ 1001) := by unfold Hid; omega
  have HWD := Lib.hid (fun k W => rWord_any k W)
  have HUS := Lib.hid (fun k W => rUses_any k W)
  clear hs hlen0 e0
  go_enter Tryd.func34, Tryd.ntmps34
  go_wp2_with fail
  rw [← hW0]
  clear hW0
  refine HWS.out.mono ?_
  rintro e W1 ⟨a, cap, rfl, hown, hk1⟩
  obtain ⟨a', cap', ee, hl, hnc, hnil, hcell⟩ := own_form (own_low hown (Nat.zero_le _))
  cases ee
  obtain ⟨w0, tl, hws⟩ : ∃ w0 tl, ws = w0 :: tl := by
    cases ws with
    | nil => exact absurd rfl hnn
    | cons a l => exact ⟨a, l, rfl⟩
  obtain ⟨g, e, -⟩ := hcell 0 (strV w0) (by rw [hws]; rfl)
  subst e
  have HCEL : Hid (∀ (i : Nat) (x : List UInt8), ws[i]? = some x → W1.cell? ⟨g, i, none⟩ = some (.string (bs x))) := fun i x hx => by
    obtain ⟨g', e, h1, _⟩ := hcell i (strV x) (by rw [List.getElem?_map, hx]; rfl)
    cases e
    exact h1
  have HW0 : Hid (ws[0]? = some w0) := by rw [Hid, hws]; rfl
  have HHD : Hid (ws.headD [] = w0) := by rw [Hid, hws]; rfl
  have HL1 : Hid (1 ≤ ws.length) := by rw [Hid, hws]; simp
  have HR1 := Lib.hid (hk1.blk HR0.out (fun f => f))
  have HK1 := Lib.hid (HK0.out.trans hk1)
  have HTL : Hid (∀ (i : Nat) (x : List UInt8), 1 ≤ i → ws[i]? = some x → nv ws (i - 1) = (numV x).getD 0) := fun i x h1 hx => by
    unfold nv
    rw [show i - 1 + 1 = i by omega, hx]
    rfl
  have HMT : Hid (∀ x ∈ ws.tail, ∃ i, 1 ≤ i ∧ i < ws.length ∧ ws[i]? = some x) := fun x hx => by
    rw [hws] at hx ⊢
    obtain ⟨i, hi⟩ := List.mem_iff_getElem?.1 hx
    have := (List.getElem?_eq_some_iff.1 hi).1
    exact ⟨i + 1, by omega, by simp at this ⊢; omega, by simpa using hi⟩
  have HMI : Hid (∀ (i : Nat) (x : List UInt8), 1 ≤ i → ws[i]? = some x → x ∈ ws.tail) := fun i x h1 hx => by
    rw [hws] at hx ⊢
    obtain ⟨j, rfl⟩ : ∃ j, i = j + 1 := ⟨i - 1, by omega⟩
    exact List.mem_of_getElem? (by simpa using hx)
  clear hk1 hown hl hnc hnil hcell hws hnn HWS HK0 HR0
  obtain ⟨n, hn⟩ : ∃ n, n = ws.length := ⟨_, rfl⟩
  rw [← hn] at HL1 HLN HMT ⊢
  have HN := Lib.hid hn
  clear hn
  go_wp2_with fail
  go_loopg [5] 8 (fun gg s5 wr => ∃ k : Nat, gg + k = 9 ∧ s5 = .int .i64 k ∧ 1 ≤ k ∧ Hid (∀ j, 1 ≤ j → j < k → ¬ matchK ws j) ∧ Hid (Keep none_ W1 wr))
  case atStart => exact ⟨1, rfl, rfl, Nat.le_refl _, fun j h1 h2 => absurd h1 (by omega), Keep.refl _ _⟩
  case round =>
    obtain ⟨k, hg, rfl, hk1, HNO, HK⟩ := hrel
    by_cases hlt : k ≤ 8
    · have hlt8 : (k : Int) ≤ 8 := by omega
      have cG : wr.cell? ⟨g, 0, none⟩ = some (.string (bs w0)) := HK.out.still (HCEL.out 0 w0 HW0.out)
      have hn1 : (0 : Int) < (n : Int) := by have := HL1.out; omega
      obtain ⟨u, hu⟩ : ∃ u, u = (useL (k : Int)).length := ⟨_, rfl⟩
      have hul := useL_len (k : Int)
      have HUK := Lib.hid (fun W => HUS.out (k : Int) W)
      have HWK : Hid (∀ W, Calls Tryd.prog 43 #[.int .i64 (k : Int)] W fun e w' => e = .returned (.string (bs (wordL (k : Int)))) ∧ W = w') := fun W => HWD.out (k : Int) W
      rw [← hu] at HUK hul
      have HUE := Lib.hid hu
      by_cases hw : wordL (k : Int) = w0
      · have hq : ((bs (wordL (k : Int))).toList == (bs w0).toList) = true := by rw [hw]; exact beq_self_eq_true _
        have HWE := Lib.hid hw
        by_cases hm : n = u + 1
        · have hm1 : ((n : Int) == ((u : Int) + 1)) = true := by rw [beq_iff_eq]; omega
          have hm2 : ((n : Int) != ((u : Int) + 1)) = false := by rw [bne, hm1]; rfl
          have HMK : Hid (matchK ws k) := ⟨by rw [HWE.out, HHD.out], by rw [← HN.out, ← HUE.out]; exact hm⟩
          have HNM : Hid (n = u + 1) := hm
          have HU3 : Hid (u ≤ 3) := by unfold Hid; omega
          have HRW := Lib.hid (HK.out.blk HR1.out (fun f => f))
          have HKW := Lib.hid (HK1.out.trans HK.out)
          generalize bs (wordL (k : Int)) = wd at *
          generalize bs w0 = w0' at *
          clear hw hu hm
          go_wp2_with fail
          go_quiet (first | (go_at_call 43; exact Calls.quiet_of_same ((HWK.out _).mono (fun _ _ h => And.intro h.1 h.2.symm))) | (go_at_call 44; exact Calls.quiet_of_same ((HUK.out _).mono (fun _ _ h => And.intro h.1 h.2.symm))))
          obtain ⟨W2, hW2⟩ : ∃ W', W' = (wr.drewN nq).alloc (.cells #[.int .i64 0, .int .i64 0, .int .i64 0] 104) := ⟨_, rfl⟩
          have HB0 : Hid (Blk W2 wr.heap.size (numsN ws 1) 104) := by
            rw [hW2]
            exact Blk.new (wr.drewN nq) [.int .i64 0, .int .i64 0, .int .i64 0] 104
          have HKW2 : Hid (Keep none_ wr W2) := by rw [hW2]; exact ((Keep.refl _ _).drewN _).alloc _
          have hN0 : (wr.drewN nq).heap.size = wr.heap.size := rfl
          go_wp2_with fail
          rw [← hW2]
          clear hW2 hN0 cG
          obtain ⟨N0, hN0⟩ : ∃ N0, N0 = wr.heap.size := ⟨_, rfl⟩
          rw [← hN0] at HB0 ⊢
          have HN0 : Hid (w.heap.size < N0) := by rw [hN0]; exact HRW.out.lt
          have HRW2 := Lib.hid (HKW2.out.blk HRW.out (fun f => f))
          have HKA := Lib.hid (HKW.out.trans HKW2.out)
          have HKB := Lib.hid (HK.out.trans HKW2.out)
          have HSZ : Hid (W1.heap.size ≤ N0) := by rw [hN0]; exact HK.out.size
          clear hN0 HRW HKW HKW2 HK
          obtain ⟨g1, rfl⟩ : ∃ g1 : Nat, g1 = gk := ⟨_, rfl⟩
          go_loopg [7] (n - 1) (fun gg s7 w2 => ∃ i : Nat, gg + i = n ∧ s7 = .int .i64 i ∧ 1 ≤ i ∧ Hid (Blk w2 N0 (numsN ws i) 104) ∧ Hid (∀ j x, 1 ≤ j → j < i → ws[j]? = some x → (numV x).isSome = true) ∧ Hid (Keep (only N0) W2 w2))
          case atStart => exact ⟨1, by have := HL1.out; omega, rfl, Nat.le_refl _, HB0, (fun j x h1 h2 => absurd h1 (by omega)), Keep.refl _ _⟩
          case round =>
            obtain ⟨i, hgi, rfl, hi1, HB, HNS, HK2⟩ := hrel
            have HRF : Hid (Blk wr w.heap.size [.int .i64 0, .int .i64 0, .int .i64 0, .int .i64 0] 35) := HK2.out.blk HRW2.out (by have := HN0.out; unfold only; omega)
            have HKF : Hid (Keep none_ w wr) := HKA.out.trans' HK2.out (fun j hj e => by unfold only at e; have := HN0.out; omega)
            have z0 := HRF.out.free 0; have z1 := HRF.out.free 1; have z2 := HRF.out.free 2; have z3 := HRF.out.free 3
            have y0 := HRF.out.cell 0 rfl; have y1 := HRF.out.cell 1 rfl; have y2 := HRF.out.cell 2 rfl; have y3 := HRF.out.cell 3 rfl
            by_cases hlt2 : i < n
            · have hlt2I : (i : Int) < (n : Int) := by omega
              have hi0 : (0 : Int) ≤ (i : Int) := by omega
              obtain ⟨x, hx⟩ : ∃ x, ws[i]? = some x := ⟨_, List.getElem?_eq_getElem (by rw [← HN.out]; exact hlt2)⟩
              have HX := Lib.hid hx
              have hcx : wr.cell? ⟨g, i, none⟩ = some (.string (bs x)) := HK2.out.cellv (HKB.out.still (HCEL.out i x hx)) (by
                have h8 : g < W1.heap.size := World.block_lt_of_cell? _ _ (HCEL.out i x hx)
                have h9 := HSZ.out
                show ¬ (g = N0)
                omega)
              have HNV : Hid (nv ws (i - 1) = (numV x).getD 0) := HTL.out i x hi1 hx
              have hxl : x.length ≤ 1000 := HPL.out x (List.mem_of_getElem? hx)
              have HNU := Lib.hid (rNumber_any x wr hxl)
              have hi4 : i < 4 := by have := HNM.out; have := HU3.out; omega
              have hi1I : (1 : Int) ≤ (i : Int) := by omega
              clear hx
              cases hv : numV x with
              | none =>
                rw [hv] at HNU
                have HNONE : Hid (numV x = none) := hv
                clear hv HNV
                go_wp2_with fail
                refine HNU.out.mono ?_
                rintro e w3 ⟨xv, rfl, -, rfl⟩
                simp only [Option.isSome_none]
                go_wp2_with fail
                have hR2 := ((((HRF.out.set 0 (.int .i64 0)).set 1 (.int .i64 0)).set 2 (.int .i64 0)).set 3 (.int .i64 0))
                have hk2 := (((HKF.out.putNew (B := w.heap.size) (Nat.le_refl _) 0 (.int .i64 0)).putNew (B := w.heap.size) (Nat.le_refl _) 1 (.int .i64 0)).putNew (B := w.heap.size) (Nat.le_refl _) 2 (.int .i64 0)).putNew (B := w.heap.size) (Nat.le_refl _) 3 (.int .i64 0)
                have k0 := hR2.cell 0 rfl; have k1 := hR2.cell 1 rfl; have k2 := hR2.cell 2 rfl; have k3 := hR2.cell 3 rfl
                refine bodyPost_ret (v := .tuple #[.agg #[.int .i64 0, .int .i64 0, .int .i64 0, .int .i64 0], .bool false]) (by simp [results, Tryd.f34, go_sem, k0, k1, k2, k3]) rfl ⟨⟨0, 0, 0, 0⟩, false, .inl ⟨k, hk1, by omega, HMK.out, .inr ⟨⟨x, HMI.out i x hi1 HX.out, HNONE.out⟩, rfl, rfl⟩⟩, rfl, hk2⟩
              | some v =>
                rw [hv] at HNU HNV
                have HSOME : Hid (numV x = some v) := hv
                clear hv
                have HB2 : Hid (Blk (wr.setCell ⟨N0, i - 1, none⟩ (.int .i64 v)) N0 (numsN ws (i + 1)) 104) := by
                  have h := HB.out.set (i - 1) (.int .i64 v)
                  have e : v = nv ws (i - 1) := by rw [HNV.out]; rfl
                  have h2 := numsN_step ws hi1 hi4
                  rw [← e] at h2
                  rw [h2] at h
                  exact h
                have hfz := HB.out.free (i - 1)
                have hcz : ∃ y, wr.cell? ⟨N0, i - 1, none⟩ = some y := by
                  have : i - 1 < (numsN ws i).length := by simp [numsN]; omega
                  exact ⟨_, HB.out.cell (i - 1) (List.getElem?_eq_getElem this)⟩
                obtain ⟨y, hcz⟩ := hcz
                have hnat : ((i : Int) - 1).toNat = i - 1 := by omega
                have hsub : (i : Int) - 1 = ((i - 1 : Nat) : Int) := by omega
                go_wp2_with fail
                refine HNU.out.mono ?_
                rintro e w3 ⟨xv, rfl, hxv, rfl⟩
                obtain rfl : xv = v := hxv v rfl
                simp only [Option.isSome_some]
                go_wp2_with fail
                go_roundg (gk - 1)
                case measure => omega
                case rel =>
                  exact ⟨i + 1, by omega, by go_num, by omega, HB2, (fun j y h1 h2 hy => by
                    rcases Nat.lt_or_ge j i with h | h
                    · exact HNS.out j y h1 h hy
                    · obtain rfl : j = i := by omega
                      have e := HX.out
                      rw [hy] at e
                      cases e
                      rw [HSOME.out]; rfl), HK2.out.put (i - 1) _⟩
            · obtain rfl : i = n := by omega
              have HNE := numsN_end (ws := ws) HN.out
              have hBE := HB.out
              rw [HNE] at hBE
              have x0 := hBE.cell 0 rfl; have x1 := hBE.cell 1 rfl; have x2 := hBE.cell 2 rfl
              have HALL : Hid (∀ a ∈ ws.tail, (numV a).isSome = true) := fun a ha => by
                obtain ⟨j, h1, h2, h3⟩ := HMT.out a ha
                exact HNS.out j a h1 h2 h3
              clear HNE hBE
              generalize hv0 : nv ws 0 = v0 at x0
              generalize hv1 : nv ws 1 = v1 at x1
              generalize hv2 : nv ws 2 = v2 at x2
              have HV0 := Lib.hid hv0; have HV1 := Lib.hid hv1; have HV2 := Lib.hid hv2
              clear hv0 hv1 hv2
              go_wp2_with fail
              have hR2 := ((((HRF.out.set 0 (.int .i64 k)).set 1 (.int .i64 v0)).set 2 (.int .i64 v1)).set 3 (.int .i64 v2))
              have hk2 := ((((HKF.out).putNew (B := w.heap.size) (Nat.le_refl _) 0 (.int .i64 k)).putNew (B := w.heap.size) (Nat.le_refl _) 1 (.int .i64 v0)).putNew (B := w.heap.size) (Nat.le_refl _) 2 (.int .i64 v1)).putNew (B := w.heap.size) (Nat.le_refl _) 3 (.int .i64 v2)
              have k0 := hR2.cell 0 rfl; have k1 := hR2.cell 1 rfl; have k2 := hR2.cell 2 rfl; have k3 := hR2.cell 3 rfl
              refine bodyPost_ret (v := .tuple #[.agg #[.int .i64 k, .int .i64 v0, .int .i64 v1, .int .i64 v2], .bool true]) (by simp [results, Tryd.f34, go_sem, k0, k1, k2, k3]) rfl ⟨⟨k, v0, v1, v2⟩, true, .inl ⟨k, hk1, by omega, HMK.out, .inl ⟨HALL.out, by rw [HV0.out, HV1.out, HV2.out], rfl⟩⟩, rfl, hk2⟩
        · have hm1 : ((n : Int) == ((u : Int) + 1)) = false := beq_eq_false_iff_ne.2 (by omega)
          have HNM : Hid (¬ matchK ws k) := fun h => hm (by rw [HN.out, HUE.out]; exact h.2)
          generalize bs (wordL (k : Int)) = wd at *
          generalize bs w0 = w0' at *
          clear hw hu
          go_wp2_with fail
          go_quiet (first | (go_at_call 43; exact Calls.quiet_of_same ((HWK.out _).mono (fun _ _ h => And.intro h.1 h.2.symm))) | (go_at_call 44; exact Calls.quiet_of_same ((HUK.out _).mono (fun _ _ h => And.intro h.1 h.2.symm))))
          go_wp2_with fail
          go_roundg (gk - 1)
          case measure => omega
          case rel => exact ⟨k + 1, by omega, by go_num, by omega, (fun j h1 h2 => by
            rcases Nat.lt_or_ge j k with h | h
            · exact HNO.out j h1 h
            · obtain rfl : j = k := by omega
              exact HNM.out), HK.out.drewN _⟩
      · have hq : ((bs (wordL (k : Int))).toList == (bs w0).toList) = false := by
          rw [bs_toList, bs_toList]; exact beq_eq_false_iff_ne.2 hw
        have HNM : Hid (¬ matchK ws k) := fun h => hw (by rw [← HHD.out]; exact h.1)
        generalize bs (wordL (k : Int)) = wd at *
        generalize bs w0 = w0' at *
        clear hw hu
        go_wp2_with fail
        go_quiet (first | (go_at_call 43; exact Calls.quiet_of_same ((HWK.out _).mono (fun _ _ h => And.intro h.1 h.2.symm))) | (go_at_call 44; exact Calls.quiet_of_same ((HUK.out _).mono (fun _ _ h => And.intro h.1 h.2.symm))))
        go_wp2_with fail
        go_roundg (gk - 1)
        case measure => omega
        case rel => exact ⟨k + 1, by omega, by go_num, by omega, (fun j h1 h2 => by
          rcases Nat.lt_or_ge j k with h | h
          · exact HNO.out j h1 h
          · obtain rfl : j = k := by omega
            exact HNM.out), HK.out.drewN _⟩
    · obtain rfl : k = 9 := by omega
      have HRF := Lib.hid (HK.out.blk HR1.out (fun f => f))
      have HKF := Lib.hid (HK1.out.trans HK.out)
      have z0 := HRF.out.free 0; have z1 := HRF.out.free 1; have z2 := HRF.out.free 2; have z3 := HRF.out.free 3
      have y0 := HRF.out.cell 0 rfl; have y1 := HRF.out.cell 1 rfl; have y2 := HRF.out.cell 2 rfl; have y3 := HRF.out.cell 3 rfl
      go_wp2_with fail
      have hR2 := ((((HRF.out.set 0 (.int .i64 0)).set 1 (.int .i64 0)).set 2 (.int .i64 0)).set 3 (.int .i64 0))
      have hk2 := (((HKF.out.putNew (B := w.heap.size) (Nat.le_refl _) 0 (.int .i64 0)).putNew (B := w.heap.size) (Nat.le_refl _) 1 (.int .i64 0)).putNew (B := w.heap.size) (Nat.le_refl _) 2 (.int .i64 0)).putNew (B := w.heap.size) (Nat.le_refl _) 3 (.int .i64 0)
      have k0 := hR2.cell 0 rfl; have k1 := hR2.cell 1 rfl; have k2 := hR2.cell 2 rfl; have k3 := hR2.cell 3 rfl
      refine bodyPost_ret (v := .tuple #[.agg #[.int .i64 0, .int .i64 0, .int .i64 0, .int .i64 0], .bool false]) (by simp [results, Tryd.f34, go_sem, k0, k1, k2, k3]) rfl ⟨⟨0, 0, 0, 0⟩, false, .inr ⟨fun j h1 h2 => HNO.out j h1 (by omega), rfl, rfl⟩, rfl, hk2⟩
end Go.Proofs.YtdplakfmdkjfdaaDoor
