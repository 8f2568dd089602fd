/- What stats.Cycles does. -/
import Derived.Test.YtcopkhhgcgfelaaDoorStats1
import Derived.Test.YtcopkhhgcgfelaaDoorGrowR
import Derived.Lib.SmallJoins
namespace Go.Proofs.YtcopkhhgcgfelaaDoor
open Go.RowKit

theorem evCells {w : World} {a : Option Addr} {n : Nat} {l : List Ev} (h : RecAt w a n 6 (l.map Ev.cells)) (i : Nat) (hi : i < n) : ∃ b off, a = some ⟨b, off, none⟩ ∧ ∃ e, l[i]? = some e ∧ w.cell? ⟨b, off + i * 6, none⟩ = some (.int .i64 e.pick) ∧ w.cell? ⟨b, off + i * 6 + 1, none⟩ = some (.int .i64 e.who) ∧ w.cell? ⟨b, off + i * 6 + 2, none⟩ = some (.int .i64 e.kind) ∧ w.cell? ⟨b, off + i * 6 + 3, none⟩ = some (.int .i64 e.op) ∧ w.cell? ⟨b, off + i * 6 + 4, none⟩ = some (.int .i64 e.code) ∧ w.cell? ⟨b, off + i * 6 + 5, none⟩ = some (.int .i64 e.value) := by
  obtain ⟨b, off, e, hc⟩ := h.at_ (by omega)
  have hl := h.len
  simp at hl
  have h1 : l[i]? = some (l[i]'(by omega)) := List.getElem?_eq_getElem _
  have h2 := hc i (l[i]'(by omega)).cells (by simp [h1])
  exact ⟨b, off, e, _, h1, h2 0 _ rfl, h2 1 _ rfl, h2 2 _ rfl, h2 3 _ rfl, h2 4 _ rfl, h2 5 _ rfl⟩

theorem Tryd.infoCycle : (Tryd.prog.info? 25).map (fun i => (i.zero, i.size, i.bytes)) = some (some (.agg #[.int .i64 0, .int .i64 0, .int .i64 0, .int .i64 0, .int .i64 0]), 5, 40) := by kernel_rfl

/-- The cycles found so far, in a row of the call's own. -/
def CyRow (w : World) (base : Nat) (v : Value) (o : List Cy) : Prop := w.ownsRow base 25 5 v o.length (o.map Cy.cells).flatten
theorem CyRow.form {w : World} {base : Nat} {v : Value} {o : List Cy} (h : CyRow w base v o) : ∃ av cv, v = .slice av o.length cv := by
  rcases Joins.ownsRow_forms h with ⟨rfl, h0⟩ | ⟨g, cap, rfl⟩
  · exact ⟨none, 0, by rw [h0]⟩
  · exact ⟨_, _, rfl⟩
theorem CyRow.last {w : World} {base : Nat} {v : Value} {o : List Cy} {c : Cy} (h : CyRow w base v (o ++ [c])) : ∃ gb cv, v = .slice (some ⟨gb, 0, none⟩) (o.length + 1) cv := by
  obtain ⟨g, cap, rfl⟩ := Joins.ownsRow_form h (by simp)
  exact ⟨g, cap, by simp⟩
theorem cy_len (o : List Cy) : ∀ r ∈ o.map Cy.cells, r.length = 5 := by
  intro r hr
  simp at hr
  obtain ⟨c, _, rfl⟩ := hr
  rfl
theorem cy_one (c : Cy) : ∀ u ∈ c.cells, u.oneCell' = true := by
  intro u hu
  simp [Cy.cells] at hu
  rcases hu with rfl | rfl | rfl | rfl | rfl <;> rfl

theorem CyRow.row {w : World} {base gb cv : Nat} {o : List Cy} {c : Cy} (h : CyRow w base (.slice (some ⟨gb, 0, none⟩) (o.length + 1) cv) (o ++ [c])) :
    w.ownsRow base 25 5 (.slice (some ⟨gb, 0, none⟩) (o.length + 1) cv) (o.length + 1) (o.map Cy.cells ++ [c.cells]).flatten := by
  unfold CyRow at h; simpa using h
/-- The last cycle's cells. -/
theorem CyRow.cells {w : World} {base gb cv : Nat} {o : List Cy} {c : Cy} (h : CyRow w base (.slice (some ⟨gb, 0, none⟩) (o.length + 1) cv) (o ++ [c])) :
    w.cell? ⟨gb, o.length * 5 + 2, none⟩ = some (.int .i64 c.marked) ∧ w.cell? ⟨gb, o.length * 5 + 3, none⟩ = some (.int .i64 c.rested) ∧ w.cell? ⟨gb, o.length * 5 + 4, none⟩ = some (.int .i64 c.freed) ∧
    w.frozen? ⟨gb, o.length * 5 + 2, none⟩ = false ∧ w.frozen? ⟨gb, o.length * 5 + 3, none⟩ = false ∧ w.frozen? ⟨gb, o.length * 5 + 4, none⟩ = false := by
  have hr := h.row
  have key : ∀ (j : Nat) (v : Value), j < 5 → c.cells[j]? = some v → w.cell? ⟨gb, o.length * 5 + j, none⟩ = some v := fun j v hj hv => by
    rw [hr.cellAt _ (by omega)]
    have := flat_last_get (o.map Cy.cells) (cy_len o) c.cells j v hv
    rw [List.length_map] at this
    exact this
  exact ⟨key 2 _ (by omega) rfl, key 3 _ (by omega) rfl, key 4 _ (by omega) rfl, hr.frozenAt _, hr.frozenAt _, hr.frozenAt _⟩
theorem CyRow.put {W : World} {base gb cv : Nat} {o : List Cy} {c : Cy} {j : Nat} {u : Value} (h : CyRow W base (.slice (some ⟨gb, 0, none⟩) (o.length + 1) cv) (o ++ [c])) :
    ∀ c' : Cy, c.cells.set j u = c'.cells → CyRow (W.setCell ⟨gb, o.length * 5 + j, none⟩ u) base (.slice (some ⟨gb, 0, none⟩) (o.length + 1) cv) (o ++ [c']) := fun c' hc => by
  have := (h.row.stored (o.length * 5 + j) u).1
  have e := flat_last_set (o.map Cy.cells) (cy_len o) c.cells j u
  rw [List.length_map, hc] at e
  rw [e] at this
  unfold CyRow
  simpa using this

theorem nil_or_snoc (l : List Cy) : l = [] ∨ ∃ o c, l = o ++ [c] := by
  rcases List.eq_nil_or_concat l with h | ⟨o, c, h⟩
  · exact .inl h
  · exact .inr ⟨o, c, by simpa using h⟩
theorem free_snoc {o : List Cy} {c : Cy} {k : Nat} (h : ∀ c ∈ o, 0 ≤ c.freed ∧ c.freed ≤ (k : Int)) (h0 : 0 ≤ c.freed) (h1 : c.freed ≤ (k : Int) + 1) : Hid (∀ x ∈ o ++ [c], 0 ≤ x.freed ∧ x.freed ≤ ((k + 1 : Nat) : Int)) := fun x hx => by
  rcases List.mem_append.1 hx with hx | hx
  · have := h x hx; omega
  · simp at hx; subst hx; omega
set_option maxRecDepth 100000 in
set_option maxHeartbeats 8000000 in
theorem sCycles_any (a : Option Addr) (n cc : Nat) (l : List Ev) (w : World) (h : RecAt w a n 6 (l.map Ev.cells)) (hn : n ≤ 100000) :
    Calls Tryd.prog 9 #[.slice a n cc] w fun e w' => ∃ v, e = .returned v ∧ CyRow w' w.heap.size v (cyc l).out ∧ Keep none_ w w' := by
  have hl := h.len
  simp at hl
  have HL := Lib.hid hl
  have H := Lib.hid h
  clear h hl
  go_enter Tryd.func9, Tryd.ntmps9
  go_wp2
  go_loopg [3, 4, 5, 11] n (fun g v m r i wr => ∃ (k : Nat) (vv : Value), vv = v ∧ g + k = n ∧ i = .int .i64 k ∧ m = .bool (cyc (l.take k)).marked ∧ r = .bool (cyc (l.take k)).rested ∧ Hid (CyRow wr w.heap.size vv (cyc (l.take k)).out) ∧ Hid ((cyc (l.take k)).out.length ≤ k) ∧ Hid (∀ c ∈ (cyc (l.take k)).out, 0 ≤ c.freed ∧ c.freed ≤ k) ∧ Hid (Keep none_ w wr))
  case atStart => exact ⟨0, _, rfl, rfl, rfl, rfl, rfl, World.ownsRow_nil _ _ _ _, Nat.le_refl _, (by intro x hx; simp [cyc] at hx), Keep.refl _ _⟩
  case round =>
    obtain ⟨k, v, rfl, hg, rfl, rfl, rfl, HO, HLEN, HF, HK⟩ := hrel
    by_cases hlt : k < n
    · obtain ⟨b, off, rfl, ev, hc, g0, g1, g2, g3, g4, g5⟩ := evCells (H.out.below HK.out) k hlt
      have hkl : k < l.length := by rw [HL.out]; exact hlt
      have hs := cyc_snoc l k hkl
      have hck : l[k] = ev := by
        rw [List.getElem?_eq_getElem hkl] at hc; simpa using hc
      rw [hck] at hs
      have HS := Lib.hid hs
      clear hs hc hck
      generalize cyc (l.take k) = s at *
      have HK2 : ∀ o, Hid (Keep none_ w (wr.alloc o)) := fun o => HK.out.alloc o
      obtain ⟨out, m, r⟩ := s
      have HLEN : Hid (out.length ≤ k) := HLEN
      have HF : Hid (∀ c ∈ out, 0 ≤ c.freed ∧ c.freed ≤ k) := HF
      have HO : Hid (CyRow wr w.heap.size v out) := HO
      by_cases h2 : ev.kind = 2
      · have HE : Hid (CS.step ⟨out, m, r⟩ ev = ⟨out ++ [c0 ev], false, false⟩) := by simp [Hid, CS.step, h2]
        obtain ⟨ep, ew, ek, eo, ec, ex⟩ := ev
        simp only at h2
        subst h2
        have HOWN := Lib.hid (HO.out.alloc (.cells #[.int .i64 ep, .int .i64 ew, .int .i64 2, .int .i64 eo, .int .i64 ec, .int .i64 ex] 44))
        have HLE : Hid (out.length ≤ 100000000000) := by have := HLEN.out; unfold Hid; omega
        have HB : Hid (w.heap.size ≤ (wr.alloc (.cells #[.int .i64 ep, .int .i64 ew, .int .i64 2, .int .i64 eo, .int .i64 ec, .int .i64 ex] 44)).heap.size) := (HK2 _).out.size
        have HU : Hid (∀ u ∈ [Value.int .i64 ex, .int .i64 ep, .int .i64 (-1), .int .i64 (-1), .int .i64 0], u.oneCell' = true) := cy_one ⟨ex, ep, -1, -1, 0⟩
        go_wp2_with (at_builtin; go_loud (refine appendR rfl (.tmp 18) (.tmp 24) 22 rfl Tryd.underlying22 Tryd.infoCycle rfl (by decide) rfl HOWN.out (us := [.int .i64 ex, .int .i64 ep, .int .i64 (-1), .int .i64 (-1), .int .i64 0]) (by simp) rfl rfl HU.out (by decide) HLE.out HB.out ?_); intro v1 w1 hown1 hgrow1)
        have HR1 : Hid (CyRow w1 w.heap.size v1 (out ++ [c0 ⟨ep, ew, 2, eo, ec, ex⟩])) := by
          unfold Hid CyRow; rw [List.length_append, List.map_append, List.flatten_append]; simpa [Cy.cells, c0] using hown1
        have HK3 := Lib.hid ((HK2 _).out.grew HOWN.out (Nat.le_refl _) hgrow1)
        clear hown1 hgrow1
        go_wp2_with fail
        go_roundg (gk - 1)
        case measure => omega
        case rel => exact ⟨k + 1, _, rfl, by omega, by go_num, by rw [HS.out, HE.out], by rw [HS.out, HE.out], by rw [HS.out, HE.out]; exact HR1, by rw [HS.out, HE.out]; have := HLEN.out; unfold Hid; simp; omega, by rw [HS.out, HE.out]; exact free_snoc HF.out (by simp [c0]) (by simp [c0]; omega), HK3⟩
      · rcases nil_or_snoc out with rfl | ⟨o, c, rfl⟩
        · have HE : Hid (CS.step ⟨[], m, r⟩ ev = ⟨[], m, r⟩) := by simp [Hid, CS.step, h2]
          obtain ⟨av, cv, rfl⟩ : ∃ av cv, v = .slice av 0 cv := CyRow.form HO.out
          go_wp2_with fail
          go_roundg (gk - 1)
          case measure => omega
          case rel => exact ⟨k + 1, _, rfl, by omega, by go_num, by rw [HS.out, HE.out], by rw [HS.out, HE.out], by rw [HS.out, HE.out]; exact World.ownsRow.alloc HO.out _, by rw [HS.out, HE.out]; exact Nat.zero_le _, by rw [HS.out, HE.out]; intro x hx; simp at hx, HK2 _⟩
        · have HE : Hid (CS.step ⟨o ++ [c], m, r⟩ ev = ⟨o ++ [(upd c m r ev).1], (upd c m r ev).2.1, (upd c m r ev).2.2⟩) := by simp [Hid, CS.step, h2]
          obtain ⟨gb, cv, rfl⟩ : ∃ gb cv, v = .slice (some ⟨gb, 0, none⟩) (o.length + 1) cv := CyRow.last HO.out
          have HJ : Hid (o.length + 1 ≤ k) := by have := HLEN.out; unfold Hid; simpa using this
          obtain ⟨f2, f3, f4, z2, z3, z4⟩ := CyRow.cells (w := wr.alloc (.cells #[.int .i64 ev.pick, .int .i64 ev.who, .int .i64 ev.kind, .int .i64 ev.op, .int .i64 ev.code, .int .i64 ev.value] 44)) (World.ownsRow.alloc HO.out _)
          have hj : o.length ≤ 100000 := by have := HJ.out; omega
          have HST := fun j u => Lib.hid (CyRow.put (c := c) (j := j) (u := u) (W := wr.alloc (.cells #[.int .i64 ev.pick, .int .i64 ev.who, .int .i64 ev.kind, .int .i64 ev.op, .int .i64 ev.code, .int .i64 ev.value] 44)) (World.ownsRow.alloc HO.out _))
          generalize hol : o.length = oj at *
          have HOL := Lib.hid hol
          clear hol
          have hk2 : (ev.kind == 2) = false := beq_eq_false_iff_ne.2 h2
          have HCF : Hid (0 ≤ c.freed ∧ c.freed ≤ k) := HF.out c (by simp)
          have HF0 : Hid (∀ c ∈ o, 0 ≤ c.freed ∧ c.freed ≤ (k : Int)) := fun c hc => HF.out c (by simp [hc])
          have HKS : ∀ i u, Hid (Keep none_ w ((wr.alloc (.cells #[.int .i64 ev.pick, .int .i64 ev.who, .int .i64 ev.kind, .int .i64 ev.op, .int .i64 ev.code, .int .i64 ev.value] 44)).setCell ⟨gb, i, none⟩ u)) := fun i u => by
            rcases HO.out.2 with ⟨h, _⟩ | ⟨g9, cap9, cur9, h9, hb9, _⟩
            · simp at h
            · simp at h9
              obtain ⟨⟨rfl, _⟩, _⟩ := h9
              exact (HK2 _).out.putNew hb9 _ _
          obtain ⟨ep, ew, ek, eo, ec, ex⟩ := ev
          obtain ⟨cn, cs, cm, cr, cf⟩ := c
          simp only at h2 hk2 f2 f3 f4 z2 z3 z4 HE HS HST HCF HKS g0 g1 g2 g3 g4 g5
          have hcf0 := HCF.out.1
          have hcf1 := HCF.out.2
          have hkb : (k : Int) ≤ 100000 := by omega
          by_cases h3 : ek = 3
          · subst h3
            cases m with
            | false =>
              have HE2 : Hid (upd ⟨cn, cs, cm, cr, cf⟩ false r ⟨ep, ew, 3, eo, ec, ex⟩ = (⟨cn, cs, ep, cr, cf⟩, true, r)) := by simp [Hid, upd]
              have HQ := Lib.hid ((HST 2 (.int .i64 ep)).out ⟨cn, cs, ep, cr, cf⟩ rfl)
              have HQK := HKS (oj * 5 + 2) (.int .i64 ep)
              clear HST HKS
              go_wp2_with fail
              go_roundg (gk - 1)
              case measure => omega
              case rel => exact ⟨k + 1, _, rfl, by omega, by go_num, by rw [HS.out, HE.out, HE2.out], by rw [HS.out, HE.out, HE2.out], by rw [HS.out, HE.out, HE2.out]; exact HQ, by rw [HS.out, HE.out, HE2.out]; have := HJ.out; have := HOL.out; unfold Hid; simp; omega, by rw [HS.out, HE.out, HE2.out]; exact free_snoc HF0.out (by simp; omega) (by simp; omega), HQK⟩
            | true =>
              have HE2 : Hid (upd ⟨cn, cs, cm, cr, cf⟩ true r ⟨ep, ew, 3, eo, ec, ex⟩ = (⟨cn, cs, cm, cr, cf⟩, true, r)) := by simp [Hid, upd]
              clear HST HKS
              go_wp2_with fail
              go_roundg (gk - 1)
              case measure => omega
              case rel => exact ⟨k + 1, _, rfl, by omega, by go_num, by rw [HS.out, HE.out, HE2.out], by rw [HS.out, HE.out, HE2.out], by rw [HS.out, HE.out, HE2.out]; exact World.ownsRow.alloc HO.out _, by rw [HS.out, HE.out, HE2.out]; have := HJ.out; have := HOL.out; unfold Hid; simp; omega, by rw [HS.out, HE.out, HE2.out]; exact free_snoc HF0.out (by simp; omega) (by simp; omega), HK2 _⟩
          · have hk3 : (ek == 3) = false := beq_eq_false_iff_ne.2 h3
            by_cases h4 : ek = 4
            · subst h4
              cases r with
              | false =>
                have HE2 : Hid (upd ⟨cn, cs, cm, cr, cf⟩ m false ⟨ep, ew, 4, eo, ec, ex⟩ = (⟨cn, cs, cm, ep, cf⟩, m, true)) := by simp [Hid, upd]
                have HQ := Lib.hid ((HST 3 (.int .i64 ep)).out ⟨cn, cs, cm, ep, cf⟩ rfl)
                have HQK := HKS (oj * 5 + 3) (.int .i64 ep)
                clear HST HKS
                go_wp2_with fail
                go_roundg (gk - 1)
                case measure => omega
                case rel => exact ⟨k + 1, _, rfl, by omega, by go_num, by rw [HS.out, HE.out, HE2.out], by rw [HS.out, HE.out, HE2.out], by rw [HS.out, HE.out, HE2.out]; exact HQ, by rw [HS.out, HE.out, HE2.out]; have := HJ.out; have := HOL.out; unfold Hid; simp; omega, by rw [HS.out, HE.out, HE2.out]; exact free_snoc HF0.out (by simp; omega) (by simp; omega), HQK⟩
              | true =>
                have HE2 : Hid (upd ⟨cn, cs, cm, cr, cf⟩ m true ⟨ep, ew, 4, eo, ec, ex⟩ = (⟨cn, cs, cm, cr, cf⟩, m, true)) := by simp [Hid, upd]
                clear HST HKS
                go_wp2_with fail
                go_roundg (gk - 1)
                case measure => omega
                case rel => exact ⟨k + 1, _, rfl, by omega, by go_num, by rw [HS.out, HE.out, HE2.out], by rw [HS.out, HE.out, HE2.out], by rw [HS.out, HE.out, HE2.out]; exact World.ownsRow.alloc HO.out _, by rw [HS.out, HE.out, HE2.out]; have := HJ.out; have := HOL.out; unfold Hid; simp; omega, by rw [HS.out, HE.out, HE2.out]; exact free_snoc HF0.out (by simp; omega) (by simp; omega), HK2 _⟩
            · have hk4 : (ek == 4) = false := beq_eq_false_iff_ne.2 h4
              by_cases h5 : ek = 5
              · subst h5
                cases r with
                | false =>
                  have HE2 : Hid (upd ⟨cn, cs, cm, cr, cf⟩ m false ⟨ep, ew, 5, eo, ec, ex⟩ = (⟨cn, cs, cm, cr, cf + 1⟩, m, false)) := by simp [Hid, upd]
                  have HQ := Lib.hid ((HST 4 (.int .i64 (cf + 1))).out ⟨cn, cs, cm, cr, cf + 1⟩ rfl)
                  have HQK := HKS (oj * 5 + 4) (.int .i64 (cf + 1))
                  clear HST HKS
                  go_wp2_with fail
                  go_roundg (gk - 1)
                  case measure => omega
                  case rel => exact ⟨k + 1, _, rfl, by omega, by go_num, by rw [HS.out, HE.out, HE2.out], by rw [HS.out, HE.out, HE2.out], by rw [HS.out, HE.out, HE2.out]; exact HQ, by rw [HS.out, HE.out, HE2.out]; have := HJ.out; have := HOL.out; unfold Hid; simp; omega, by rw [HS.out, HE.out, HE2.out]; exact free_snoc HF0.out (by simp; omega) (by simp; omega), HQK⟩
                | true =>
                  have HE2 : Hid (upd ⟨cn, cs, cm, cr, cf⟩ m true ⟨ep, ew, 5, eo, ec, ex⟩ = (⟨cn, cs, cm, cr, cf⟩, m, true)) := by simp [Hid, upd]
                  clear HST HKS
                  go_wp2_with fail
                  go_roundg (gk - 1)
                  case measure => omega
                  case rel => exact ⟨k + 1, _, rfl, by omega, by go_num, by rw [HS.out, HE.out, HE2.out], by rw [HS.out, HE.out, HE2.out], by rw [HS.out, HE.out, HE2.out]; exact World.ownsRow.alloc HO.out _, by rw [HS.out, HE.out, HE2.out]; have := HJ.out; have := HOL.out; unfold Hid; simp; omega, by rw [HS.out, HE.out, HE2.out]; exact free_snoc HF0.out (by simp; omega) (by simp; omega), HK2 _⟩
              · have hk5 : (ek == 5) = false := beq_eq_false_iff_ne.2 h5
                have HE2 : Hid (upd ⟨cn, cs, cm, cr, cf⟩ m r ⟨ep, ew, ek, eo, ec, ex⟩ = (⟨cn, cs, cm, cr, cf⟩, m, r)) := by simp [Hid, upd, h3, h4, h5]
                clear HST HKS
                go_wp2_with fail
                go_roundg (gk - 1)
                case measure => omega
                case rel => exact ⟨k + 1, _, rfl, by omega, by go_num, by rw [HS.out, HE.out, HE2.out], by rw [HS.out, HE.out, HE2.out], by rw [HS.out, HE.out, HE2.out]; exact World.ownsRow.alloc HO.out _, by rw [HS.out, HE.out, HE2.out]; have := HJ.out; have := HOL.out; unfold Hid; simp; omega, by rw [HS.out, HE.out, HE2.out]; exact free_snoc HF0.out (by simp; omega) (by simp; omega), HK2 _⟩
    · obtain rfl : k = n := by omega
      have hl := HL.out
      rw [List.take_of_length_le (by omega)] at HO
      go_wp2_with fail
      go_ret
      exact ⟨_, rfl, HO.out, HK.out⟩
end Go.Proofs.YtcopkhhgcgfelaaDoor
