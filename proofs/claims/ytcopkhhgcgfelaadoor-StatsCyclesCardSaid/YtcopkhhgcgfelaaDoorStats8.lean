/- What the document's own cycles does. -/
import Derived.Test.YtcopkhhgcgfelaaDoorStats2
import Derived.Deep.CutBlock
import Derived.Deep.DeepCutAuto
namespace Go.Proofs.YtcopkhhgcgfelaaDoor
open Go.RowKit

/-- The cycles that begin ahead of the place i. -/
def refp (l : List Ev) : Nat → List Cy
  | 0 => []
  | i + 1 => match l[i]? with
    | some e => if e.kind = 2 then refp l i ++ [(ownOf (c0 e) (l.drop (i + 1))).1] else refp l i
    | none => refp l i
theorem refp_refc (l : List Ev) (i : Nat) (h : i ≤ l.length) : refp l i ++ refc (l.drop i) = refc l := by
  induction i with
  | zero => rfl
  | succ i ih =>
    have hi : i < l.length := by omega
    have := ih (by omega)
    rw [List.drop_eq_getElem_cons hi, refc] at this
    rw [refp, List.getElem?_eq_getElem hi]
    by_cases hk : l[i].kind = 2
    · rw [if_pos hk] at this
      simp only [hk, if_true]
      rw [← this]; simp
    · rw [if_neg hk] at this
      simp only [hk, if_false]
      exact this
theorem refp_all (l : List Ev) : refp l l.length = refc l := by
  have := refp_refc l l.length (Nat.le_refl _)
  simpa [refc] using this
theorem refp_len (l : List Ev) (i : Nat) : (refp l i).length ≤ i := by
  induction i with
  | zero => simp [refp]
  | succ i ih =>
    rw [refp]
    split
    · split
      · simp; omega
      · omega
    · omega
/-- The cycle behind j of its own events. -/
def seg (e : Ev) (t : List Ev) (j : Nat) : Cy × Bool × Bool := (t.take j).foldl own1 (c0 e, false, false)
theorem seg_succ (e : Ev) (t : List Ev) (j : Nat) (h : j < t.length) : seg e t (j + 1) = own1 (seg e t j) t[j] := by
  rw [seg, List.take_succ_eq_append_getElem h, List.foldl_append]; rfl
theorem take_while (t : List Ev) (j : Nat) (h : ∀ x ∈ t.take j, x.kind ≠ 2) (he : ∀ x, t[j]? = some x → x.kind = 2) : (t.takeWhile fun e => e.kind != 2) = t.take j := by
  induction j generalizing t with
  | zero =>
    cases t with
    | nil => rfl
    | cons x t => simp [he x rfl]
  | succ j ih =>
    cases t with
    | nil => rfl
    | cons x t =>
      have h0 := h x (by simp)
      rw [List.takeWhile_cons, if_pos (by simpa using h0), List.take_succ_cons, ih t (fun y hy => h y (by simp [hy])) (fun y hy => he y (by simpa using hy))]
theorem seg_own (e : Ev) (t : List Ev) (j : Nat) (h : ∀ x ∈ t.take j, x.kind ≠ 2) (he : ∀ x, t[j]? = some x → x.kind = 2) : ownOf (c0 e) t = seg e t j := by
  rw [ownOf, take_while t j h he, seg]
theorem seg_freed (e : Ev) (t : List Ev) (j : Nat) : 0 ≤ (seg e t j).1.freed ∧ (seg e t j).1.freed ≤ j := by
  induction j with
  | zero => simp [seg, c0]
  | succ j ih =>
    rcases Nat.lt_or_ge j t.length with h | h
    · rw [seg_succ e t j h]
      generalize seg e t j = s at *
      obtain ⟨c, m, r⟩ := s
      simp only [own1, upd] at ih ⊢
      split
      · simp only; omega
      · split
        · simp only; omega
        · split
          · simp only; omega
          · simp only; omega
    · have : seg e t (j + 1) = seg e t j := by rw [seg, seg, List.take_of_length_le h, List.take_of_length_le (by omega)]
      rw [this]; omega

set_option maxRecDepth 100000 in
set_option maxHeartbeats 16000000 in
theorem lCycles_any (a : Option Addr) (n cc : Nat) (l : List Ev) (w : World) (h : RecAt w a n 6 (l.map Ev.cells)) (hn : n ≤ 100000) :
    Calls Tryd.prog 10 #[.slice a n cc] w fun e w' => ∃ v, e = .returned v ∧ CyRow w' w.heap.size v (refc l) ∧ Keep none_ w w' := by
  have hl := h.len
  simp at hl
  have HL := Lib.hid hl
  have H := Lib.hid h
  clear h hl
  go_enter Tryd.func10, Tryd.ntmps10
  go_wp2
  go_loopg [3, 4] n (fun g v i wr => ∃ (k : Nat) (vv : Value), vv = v ∧ g + k = n ∧ i = .int .i64 k ∧ Hid (CyRow wr w.heap.size vv (refp l k)) ∧ Hid (Keep none_ w wr))
  case atStart => exact ⟨0, _, rfl, rfl, rfl, World.ownsRow_nil _ _ _ _, Keep.refl _ _⟩
  case round =>
    obtain ⟨k, v, rfl, hg, rfl, HO, HK⟩ := hrel
    by_cases hlt : k < n
    · obtain ⟨b, off, rfl, ev, hc, g0, g1, g2, g3, g4, g5⟩ := evCells (H.out.below HK.out) k hlt
      have hkl : k < l.length := by rw [HL.out]; exact hlt
      have HEV : Hid (l[k]? = some ev) := hc
      clear hc
      obtain ⟨g0x, rfl⟩ : ∃ g0 : Nat, g0 = gk := ⟨_, rfl⟩
      by_cases h2 : ev.kind = 2
      · have hk2 : (ev.kind == 2) = true := beq_iff_eq.2 h2
        have hk2' : (ev.kind != 2) = false := by rw [bne_eq_false_iff_eq]; exact h2
        have HRP : Hid (refp l (k + 1) = refp l k ++ [(ownOf (c0 ev) (l.drop (k + 1))).1]) := by
          have := HEV.out; unfold Hid; rw [refp, this]; simp [h2]
        clear h2
        have HLEN := Lib.hid (refp_len l k)
        generalize hrp : refp l k = out at *
        clear hrp
        have ga0 : ∀ o, (wr.alloc o).cell? ⟨b, off + k * 6, none⟩ = some (.int .i64 ev.pick) := fun o => ((Keep.refl none_ wr).alloc o).still g0
        have ga5 : ∀ o, (wr.alloc o).cell? ⟨b, off + k * 6 + 5, none⟩ = some (.int .i64 ev.value) := fun o => ((Keep.refl none_ wr).alloc o).still g5
        go_wp2_with fail
        go_region
        go_wp2_with fail
        obtain ⟨W1, hW1⟩ : ∃ W', W' = (wr.alloc (.cells #[.int .i64 ev.value, .int .i64 ev.pick, .int .i64 (-1), .int .i64 (-1), .int .i64 0] 25)).drew := ⟨_, rfl⟩
        have HB1 : Hid (Blk W1 wr.heap.size (c0 ev).cells 25) := by rw [hW1]; exact (Blk.new _ _ _).drew
        have HK1 : Hid (Keep none_ w W1) := by rw [hW1]; exact (HK.out.alloc _).drew
        have HO1 : Hid (CyRow W1 w.heap.size v out) := by rw [hW1]; exact World.ownsRow.drew (World.ownsRow.alloc HO.out _)
        have HNE : Hid (∀ B, v.ownBlock = some B → ¬ only wr.heap.size B) := fun B hB e => by have := (World.ownsRow.lt HO.out B hB).2; unfold only at e; omega
        have HBE : Hid (w.heap.size ≤ wr.heap.size) := HK.out.size
        rw [← hW1]
        clear hW1 g0 g1 g2 g3 g4 g5 ga0 ga5 HO
        generalize wr.heap.size = E at *
        obtain ⟨t, ht⟩ : ∃ t, t = l.drop (k + 1) := ⟨_, rfl⟩
        have HTL : Hid (t.length + (k + 1) = n) := by rw [ht]; have := HL.out; unfold Hid; simp; omega
        have HTG : Hid (∀ (j : Nat) (e : Ev), l[k + 1 + j]? = some e → t[j]? = some e) := fun j e he => by rw [ht, List.getElem?_drop]; exact he
        rw [← ht] at HRP
        clear ht
        go_loopg [6, 7, 8] (n - k) (fun g m r kk wi => ∃ j : Nat, g + (k + 1 + j) = n + 1 ∧ kk = .int .i64 ((k : Int) + 1 + j) ∧ m = .bool (seg ev t j).2.1 ∧ r = .bool (seg ev t j).2.2 ∧ Hid (∀ x ∈ t.take j, x.kind ≠ 2) ∧ Hid (Blk wi E (seg ev t j).1.cells 25) ∧ Hid (Keep (only E) W1 wi) ∧ Hid (Keep none_ w wi))
        case atStart => exact ⟨0, by omega, by go_num, rfl, rfl, fun x hx => by simp at hx, HB1.out, Keep.refl _ _, HK1.out⟩
        case round =>
          clear HB1
          obtain ⟨j, hgj, rfl, rfl, rfl, HALL, HBI, HKE, HKN⟩ := hrel
          have HFR := Lib.hid (seg_freed ev t j)
          by_cases hjn : k + 1 + j < n
          · obtain ⟨b2, off2, eq2, e2, hc2, q0, q1, q2, q3, q4, q5⟩ := evCells (H.out.below HKN.out) (k + 1 + j) hjn
            injection eq2 with eq2
            injection eq2 with eb eo
            subst eb eo
            have htj := HTG.out j e2 hc2
            have hjt : j < t.length := (List.getElem?_eq_some_iff.1 htj).1
            have htj2 : t[j] = e2 := by rw [List.getElem?_eq_getElem hjt] at htj; simpa using htj
            have HSS : Hid (seg ev t (j + 1) = own1 (seg ev t j) e2) := by rw [← htj2]; exact seg_succ ev t j hjt
            have HTJ := Lib.hid htj
            have HAL2 : Hid (e2.kind ≠ 2 → ∀ x ∈ t.take (j + 1), x.kind ≠ 2) := fun hne x hx => by
              rw [List.take_succ_eq_append_getElem hjt, htj2] at hx
              rcases List.mem_append.1 hx with hx | hx
              · exact HALL.out x hx
              · simp at hx; subst hx; exact hne
            have HOWN := Lib.hid (seg_own ev t j HALL.out)
            clear htj htj2 hc2
            generalize hsj : seg ev t j = s at *
            have HSJ := Lib.hid hsj
            clear hsj
            obtain ⟨⟨cn, cs, cm, cr, cf⟩, m, r⟩ := s
            have HSJ : Hid (seg ev t j = (⟨cn, cs, cm, cr, cf⟩, m, r)) := HSJ
            have HBI : Hid (Blk wr E [.int .i64 cn, .int .i64 cs, .int .i64 cm, .int .i64 cr, .int .i64 cf] 25) := HBI
            have hcf0 : 0 ≤ cf := HFR.out.1
            have hcf1 : cf ≤ j := HFR.out.2
            have d0 := HBI.out.cell 0 rfl; have d1 := HBI.out.cell 1 rfl; have d2 := HBI.out.cell 2 rfl; have d3 := HBI.out.cell 3 rfl; have d4 := HBI.out.cell 4 rfl
            have z2 := HBI.out.free 2; have z3 := HBI.out.free 3; have z4 := HBI.out.free 4
            obtain ⟨ep, ew, ek, eo, ec, ex⟩ := e2
            simp only at q0 q1 q2 q3 q4 q5
            clear hjt
            by_cases hx2 : ek = 2
            · have HEND : Hid (∀ x, t[j]? = some x → x.kind = 2) := fun x hx => by rw [HTJ.out] at hx; simp at hx; subst hx; exact hx2
              subst hx2
              have HOWN9 : Hid (ownOf (c0 ev) t = (⟨cn, cs, cm, cr, cf⟩, m, r)) := HOWN.out HEND.out
              have HOR : Hid (wr.ownsRow w.heap.size 25 5 v out.length (out.map Cy.cells).flatten) := own_keep HO1.out HKE.out HNE.out
              have HLE : Hid (out.length ≤ 100000000000) := by have := HLEN.out; unfold Hid; omega
              have HU : Hid (∀ u ∈ [Value.int .i64 cn, .int .i64 cs, .int .i64 cm, .int .i64 cr, .int .i64 cf], u.oneCell' = true) := cy_one ⟨cn, cs, cm, cr, cf⟩
              go_wp2_with (at_builtin; refine appendR rfl (.tmp 94) (.tmp 96) 22 rfl Tryd.underlying22 Tryd.infoCycle rfl (by decide) rfl HOR.out (us := [.int .i64 cn, .int .i64 cs, .int .i64 cm, .int .i64 cr, .int .i64 cf]) rfl rfl rfl HU.out (by decide) HLE.out HKN.out.size ?_; intro v1 w1 hown1 hgrow1)
              have HR1 : Hid (CyRow w1 w.heap.size v1 (out ++ [⟨cn, cs, cm, cr, cf⟩])) := by
                unfold Hid CyRow; rw [List.length_append, List.map_append, List.flatten_append]; simpa [Cy.cells] using hown1
              have HK3 := Lib.hid (HKN.out.grew HOR.out (Nat.le_refl _) hgrow1)
              clear hown1 hgrow1
              go_wp2_with fail
              go_roundg (g0x - 1)
              case measure => omega
              case rel => exact ⟨k + 1, _, rfl, by omega, by go_num, by rw [HRP.out, HOWN9.out]; exact HR1, HK3⟩
            · have hk2x : (ek != 2) = true := by rw [bne_iff_ne]; exact hx2
              have HAL3 := Lib.hid (HAL2.out hx2)
              by_cases hx3 : ek = 3
              · subst hx3
                cases m with
                | false =>
                  have HE2 : Hid (own1 (⟨cn, cs, cm, cr, cf⟩, false, r) ⟨ep, ew, 3, eo, ec, ex⟩ = (⟨cn, cs, ep, cr, cf⟩, true, r)) := by simp [Hid, own1, upd]
                  have HSS : Hid (seg ev t (j + 1) = (⟨cn, cs, ep, cr, cf⟩, true, r)) := by rw [Hid, HSS.out]; exact HE2.out
                  go_wp2_with fail
                  go_roundg (gk - 1)
                  case measure => omega
                  case rel => exact ⟨j + 1, by omega, by go_num, by rw [HSS.out], by rw [HSS.out], HAL3.out, by rw [HSS.out]; exact HBI.out.set 2 (.int .i64 (ep)), HKE.out.put _ _, HKN.out.putNew HBE.out _ _⟩
                | true =>
                  have HE2 : Hid (own1 (⟨cn, cs, cm, cr, cf⟩, true, r) ⟨ep, ew, 3, eo, ec, ex⟩ = (⟨cn, cs, cm, cr, cf⟩, true, r)) := by simp [Hid, own1, upd]
                  have HSS : Hid (seg ev t (j + 1) = (⟨cn, cs, cm, cr, cf⟩, true, r)) := by rw [Hid, HSS.out]; exact HE2.out
                  go_wp2_with fail
                  go_roundg (gk - 1)
                  case measure => omega
                  case rel => exact ⟨j + 1, by omega, by go_num, by rw [HSS.out], by rw [HSS.out], HAL3.out, by rw [HSS.out]; exact HBI.out, HKE.out, HKN.out⟩
              · have hk3 : (ek == 3) = false := beq_eq_false_iff_ne.2 hx3
                by_cases hx5 : ek = 5
                · subst hx5
                  cases r with
                  | false =>
                    have HE2 : Hid (own1 (⟨cn, cs, cm, cr, cf⟩, m, false) ⟨ep, ew, 5, eo, ec, ex⟩ = (⟨cn, cs, cm, cr, cf + 1⟩, m, false)) := by simp [Hid, own1, upd]
                    have HSS : Hid (seg ev t (j + 1) = (⟨cn, cs, cm, cr, cf + 1⟩, m, false)) := by rw [Hid, HSS.out]; exact HE2.out
                    go_wp2_with fail
                    go_roundg (gk - 1)
                    case measure => omega
                    case rel => exact ⟨j + 1, by omega, by go_num, by rw [HSS.out], by rw [HSS.out], HAL3.out, by rw [HSS.out]; exact HBI.out.set 4 (.int .i64 (cf + 1)), HKE.out.put _ _, HKN.out.putNew HBE.out _ _⟩
                  | true =>
                    have HE2 : Hid (own1 (⟨cn, cs, cm, cr, cf⟩, m, true) ⟨ep, ew, 5, eo, ec, ex⟩ = (⟨cn, cs, cm, cr, cf⟩, m, true)) := by simp [Hid, own1, upd]
                    have HSS : Hid (seg ev t (j + 1) = (⟨cn, cs, cm, cr, cf⟩, m, true)) := by rw [Hid, HSS.out]; exact HE2.out
                    go_wp2_with fail
                    go_roundg (gk - 1)
                    case measure => omega
                    case rel => exact ⟨j + 1, by omega, by go_num, by rw [HSS.out], by rw [HSS.out], HAL3.out, by rw [HSS.out]; exact HBI.out, HKE.out, HKN.out⟩
                · have hk5 : (ek == 5) = false := beq_eq_false_iff_ne.2 hx5
                  by_cases hx4 : ek = 4
                  · subst hx4
                    cases r with
                    | false =>
                      have HE2 : Hid (own1 (⟨cn, cs, cm, cr, cf⟩, m, false) ⟨ep, ew, 4, eo, ec, ex⟩ = (⟨cn, cs, cm, ep, cf⟩, m, true)) := by simp [Hid, own1, upd]
                      have HSS : Hid (seg ev t (j + 1) = (⟨cn, cs, cm, ep, cf⟩, m, true)) := by rw [Hid, HSS.out]; exact HE2.out
                      go_wp2_with fail
                      go_roundg (gk - 1)
                      case measure => omega
                      case rel => exact ⟨j + 1, by omega, by go_num, by rw [HSS.out], by rw [HSS.out], HAL3.out, by rw [HSS.out]; exact HBI.out.set 3 (.int .i64 (ep)), HKE.out.put _ _, HKN.out.putNew HBE.out _ _⟩
                    | true =>
                      have HE2 : Hid (own1 (⟨cn, cs, cm, cr, cf⟩, m, true) ⟨ep, ew, 4, eo, ec, ex⟩ = (⟨cn, cs, cm, cr, cf⟩, m, true)) := by simp [Hid, own1, upd]
                      have HSS : Hid (seg ev t (j + 1) = (⟨cn, cs, cm, cr, cf⟩, m, true)) := by rw [Hid, HSS.out]; exact HE2.out
                      go_wp2_with fail
                      go_roundg (gk - 1)
                      case measure => omega
                      case rel => exact ⟨j + 1, by omega, by go_num, by rw [HSS.out], by rw [HSS.out], HAL3.out, by rw [HSS.out]; exact HBI.out, HKE.out, HKN.out⟩
                  · have hk4 : (ek == 4) = false := beq_eq_false_iff_ne.2 hx4
                    have HE2 : Hid (own1 (⟨cn, cs, cm, cr, cf⟩, m, r) ⟨ep, ew, ek, eo, ec, ex⟩ = (⟨cn, cs, cm, cr, cf⟩, m, r)) := by simp [Hid, own1, upd, hx3, hx4, hx5]
                    have HSS : Hid (seg ev t (j + 1) = (⟨cn, cs, cm, cr, cf⟩, m, r)) := by rw [Hid, HSS.out]; exact HE2.out
                    go_wp2_with fail
                    go_roundg (gk - 1)
                    case measure => omega
                    case rel => exact ⟨j + 1, by omega, by go_num, by rw [HSS.out], by rw [HSS.out], HAL3.out, by rw [HSS.out]; exact HBI.out, HKE.out, HKN.out⟩
          · have HEND : Hid (∀ x, t[j]? = some x → x.kind = 2) := fun x hx => by
              have := (List.getElem?_eq_some_iff.1 hx).1
              have := HTL.out
              omega
            have HOWN := Lib.hid (seg_own ev t j HALL.out)
            have hjn' : ¬ ((k : Int) + 1 + j < n) := by omega
            have hd : decide ((k : Int) + 1 + j < n) = false := decide_eq_false hjn'
            generalize hsj : seg ev t j = s at *
            have HSJ := Lib.hid hsj
            clear hsj
            obtain ⟨⟨cn, cs, cm, cr, cf⟩, m, r⟩ := s
            have HSJ : Hid (seg ev t j = (⟨cn, cs, cm, cr, cf⟩, m, r)) := HSJ
            have HBI : Hid (Blk wr E [.int .i64 cn, .int .i64 cs, .int .i64 cm, .int .i64 cr, .int .i64 cf] 25) := HBI
            have hcf0 : 0 ≤ cf := HFR.out.1
            have hcf1 : cf ≤ j := HFR.out.2
            have d0 := HBI.out.cell 0 rfl; have d1 := HBI.out.cell 1 rfl; have d2 := HBI.out.cell 2 rfl; have d3 := HBI.out.cell 3 rfl; have d4 := HBI.out.cell 4 rfl
            have z2 := HBI.out.free 2; have z3 := HBI.out.free 3; have z4 := HBI.out.free 4
            have HOWN9 : Hid (ownOf (c0 ev) t = (⟨cn, cs, cm, cr, cf⟩, m, r)) := HOWN.out HEND.out
            have HOR : Hid (wr.ownsRow w.heap.size 25 5 v out.length (out.map Cy.cells).flatten) := own_keep HO1.out HKE.out HNE.out
            have HLE : Hid (out.length ≤ 100000000000) := by have := HLEN.out; unfold Hid; omega
            have HU : Hid (∀ u ∈ [Value.int .i64 cn, .int .i64 cs, .int .i64 cm, .int .i64 cr, .int .i64 cf], u.oneCell' = true) := cy_one ⟨cn, cs, cm, cr, cf⟩
            go_wp2_with (at_builtin; refine appendR rfl (.tmp 94) (.tmp 96) 22 rfl Tryd.underlying22 Tryd.infoCycle rfl (by decide) rfl HOR.out (us := [.int .i64 cn, .int .i64 cs, .int .i64 cm, .int .i64 cr, .int .i64 cf]) rfl rfl rfl HU.out (by decide) HLE.out HKN.out.size ?_; intro v1 w1 hown1 hgrow1)
            have HR1 : Hid (CyRow w1 w.heap.size v1 (out ++ [⟨cn, cs, cm, cr, cf⟩])) := by
              unfold Hid CyRow; rw [List.length_append, List.map_append, List.flatten_append]; simpa [Cy.cells] using hown1
            have HK3 := Lib.hid (HKN.out.grew HOR.out (Nat.le_refl _) hgrow1)
            clear hown1 hgrow1
            go_wp2_with fail
            go_roundg (g0x - 1)
            case measure => omega
            case rel => exact ⟨k + 1, _, rfl, by omega, by go_num, by rw [HRP.out, HOWN9.out]; exact HR1, HK3⟩
      · have hk2 : (ev.kind == 2) = false := beq_eq_false_iff_ne.2 h2
        have hk2' : (ev.kind != 2) = true := by rw [bne_iff_ne]; exact h2
        have HRP : Hid (refp l (k + 1) = refp l k) := by
          have := HEV.out; unfold Hid; rw [refp, this]; simp [h2]
        clear h2
        go_wp2_with fail
        go_roundg (g0x - 1)
        case measure => omega
        case rel => exact ⟨k + 1, _, rfl, by omega, by go_num, by rw [HRP.out]; exact HO, HK⟩
    · obtain rfl : k = n := by omega
      have hl := HL.out
      have hall : refp l k = refc l := by rw [← hl]; exact refp_all l
      rw [hall] at HO
      go_wp2_with fail
      go_ret
      exact ⟨_, rfl, HO.out, HK.out⟩
end Go.Proofs.YtcopkhhgcgfelaaDoor
