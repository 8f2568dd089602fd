/- The reference's graph: Roots. -/
import Derived.Test.YtdplakfmdkjfdaaDoorGRefAt
import Derived.Test.YtdplakfmdkjfdaaDoorAppAt
namespace Go.Proofs.YtdplakfmdkjfdaaDoor
open Go.RowKit Go.Sort

theorem ids_step {j : Nat} (h : 1 ≤ j) : ids j = ids (j - 1) ++ [(j : Int)] := by
  obtain ⟨i, rfl⟩ : ∃ i, j = i + 1 := ⟨j - 1, by omega⟩
  rw [ids_succ, Nat.add_sub_cancel]
  simp
theorem ids_next {f : Int → Bool} {j : Nat} {O : List Int} (hj : 1 ≤ j) (h : O = (ids (j - 1)).filter f) : (if f (j : Int) = true then O ++ [(j : Int)] else O) = (ids j).filter f := by
  rw [ids_step hj, List.filter_append, ← h]
  cases e : f (j : Int) <;> simp [e]
theorem ids_fresh {f : Int → Bool} {j : Nat} {O : List Int} (hj : 1 ≤ j) (h : O = (ids (j - 1)).filter f) : inL O (j : Int) = false := by
  rw [Bool.eq_false_iff]
  intro e
  have h1 := inL_true.1 e
  rw [h] at h1
  have := mem_ids.1 (List.mem_filter.1 h1).1
  omega
theorem ids_filter_len (f : Int → Bool) (k : Nat) : ((ids k).filter f).length ≤ k := by
  have := List.length_filter_le f (ids k)
  rw [ids_len] at this
  exact this
theorem any_snoc {L : List PlaceR} {k : Nat} {p : PlaceR} (h : L[k]? = some p) (f : PlaceR → Bool) : (L.take (k + 1)).any f = ((L.take k).any f || f p) := by
  have hk := (List.getElem?_eq_some_iff.1 h).1
  have he := (List.getElem?_eq_some_iff.1 h).2
  rw [List.take_succ_eq_append_getElem hk, he]
  simp
theorem inL_snoc (O : List Int) (x : Int) : inL (O ++ [x]) x = true := by simp [inL]
/-- A row of the call's own, as a row that is read. -/
theorem own_cells {w : World} {s : Nat} {v : Value} {O : List Int} (h : w.ownsRow s 3 1 v O.length (O.map (Value.int .i64))) : ∃ a cap, v = .slice a O.length cap ∧ IntCells .i64 w a O.length O := by
  obtain ⟨a, cap, h1, h2, _⟩ := IntCells.ofOwn' (own_low h (Nat.zero_le _))
  exact ⟨a, cap, h1, h2⟩
theorem own_snoc {w : World} {s : Nat} {v : Value} {O : List Int} {x : Int} (h : w.ownsRow s 3 1 v (O.length + 1) (O.map (Value.int .i64) ++ [.int .i64 x])) : w.ownsRow s 3 1 v (O ++ [x]).length ((O ++ [x]).map (Value.int .i64)) := by
  rw [List.length_append, List.map_append]
  exact h

section
variable {F : Nat → Prop} {B : Nat} {c : Conf} {S : List Int} {L : List PlaceR} {vs vl : Value} {w : World}
set_option maxRecDepth 4000 in
set_option maxHeartbeats 4000000 in
theorem rRoots_any (h : RRep F B c S L vs vl w) (hl : L.length ≤ 100000) (hS : S.length ≤ 100000) : Calls Tryd.prog 28 #[.pointer (some ⟨B, 0, none⟩)] w fun e w' =>
    ∃ v, e = .returned v ∧ w'.ownsRow w.heap.size 3 1 v (rootsR L S.length).length ((rootsR L S.length).map (Value.int .i64)) ∧ Keep none_ w w' := by
  obtain ⟨a, cap, rfl, hr, hcp⟩ := h.list
  obtain ⟨sa, caps, rfl, hs, hcs⟩ := h.sizes
  have HR := Lib.hid hr
  have y8 := h.blk.cell 8 rfl
  have y7 := h.blk.cell 7 rfl
  clear h hr hs hcp hcs
  obtain ⟨N, hN⟩ : ∃ N, N = L.length := ⟨_, rfl⟩
  obtain ⟨M, hM⟩ : ∃ M, M = S.length := ⟨_, rfl⟩
  have HN := Lib.hid hN
  rw [← hN] at y8 hl
  rw [← hM] at y7 hS
  rw [← hM]
  clear hN hM
  obtain ⟨Z, hZ⟩ : ∃ Z, Z = rootsR L M := ⟨_, rfl⟩
  rw [← hZ]
  have HZ := Lib.hid hZ
  clear hZ
  have H0 : Hid (w.ownsRow w.heap.size 3 1 (.slice none 0 0) ([] : List Int).length (([] : List Int).map (Value.int .i64))) := ⟨rfl, .inl ⟨rfl, rfl⟩⟩
  have HK0 : Hid (Keep none_ w w) := Keep.refl _ _
  have HFL := Lib.hid (ids_filter_len (rootOf L))
  go_enter Tryd.func28, Tryd.ntmps28
  go_wp2_with fail
  go_loopg [3, 4] M (fun g s3 i wr => ∃ (j : Nat) (O : List Int) (v : Value), g + j = M + 1 ∧ 1 ≤ j ∧ i = .int .i64 j ∧ v = s3 ∧ Hid (O = (ids (j - 1)).filter (rootOf L)) ∧ Hid (wr.ownsRow w.heap.size 3 1 v O.length (O.map (Value.int .i64))) ∧ Hid (Keep none_ w wr))
  case atStart => exact ⟨1, [], _, by omega, Nat.le_refl _, rfl, rfl, rfl, H0, HK0⟩
  case round =>
    clear H0 HK0
    obtain ⟨j, O, v, hg, hj1, rfl, hv, HO, HW, HK⟩ := hrel
    subst hv
    obtain ⟨g1, rfl⟩ : ∃ g1 : Nat, g1 = gk := ⟨_, rfl⟩
    have y7' : wr.cell? ⟨B, 7, none⟩ = some (.slice sa M caps) := HK.out.still y7
    by_cases hlt : j ≤ M
    · have hltI : (j : Int) ≤ (M : Int) := by omega
      have HOL : Hid (O.length ≤ M) := by have := HFL.out (j - 1); rw [← HO.out] at this; unfold Hid; omega
      go_wp2_with fail
      go_loopg [3, 5] N (fun g s3 i wr2 => ∃ (k : Nat) (t : Bool) (v : Value), g + k = N ∧ i = .int .i64 k ∧ v = s3 ∧ Hid (t = (L.take k).any (fun p => decide (p.k < 3) && p.h == (j : Int))) ∧
        Hid (wr2.ownsRow w.heap.size 3 1 v (if t = true then O ++ [(j : Int)] else O).length ((if t = true then O ++ [(j : Int)] else O).map (Value.int .i64))) ∧ Hid (Keep none_ w wr2))
      case atStart => exact ⟨0, false, _, by omega, rfl, rfl, rfl, HW, HK⟩
      case round =>
        clear HW HK y7'
        obtain ⟨k, t, v, hg2, rfl, hv, HT, HW, HK⟩ := hrel
        subst hv
        have y8' := HK.out.still y8
        have HOT : Hid ((if t = true then O ++ [(j : Int)] else O).length ≤ M + 1) := by
          have := HOL.out
          unfold Hid
          cases t
          · simp; omega
          · simp; omega
        have HIN : Hid (inL (if t = true then O ++ [(j : Int)] else O) (j : Int) = t) := by
          unfold Hid
          cases t
          · simpa using ids_fresh hj1 HO.out
          · simpa using inL_snoc O (j : Int)
        obtain ⟨O2, hO2⟩ : ∃ O2, O2 = (if t = true then O ++ [(j : Int)] else O) := ⟨_, rfl⟩
        rw [← hO2] at HW HOT HIN
        have HO2 := Lib.hid hO2
        clear hO2
        by_cases hlt2 : k < N
        · have hkN : k < L.length := by rw [← HN.out]; exact hlt2
          obtain ⟨b, off, rfl, p, hp, c0, c1, c2, c3⟩ := placeCells (HR.out.below HK.out) k hkN
          have HSN := Lib.hid (any_snoc hp (fun p => decide (p.k < 3) && p.h == (j : Int)))
          obtain ⟨pk, pm, pn, ph⟩ := p
          simp only at c0 c3 HSN
          have hlt2I : (k : Int) < (N : Int) := by omega
          have hk0 : (0 : Int) ≤ (k : Int) := by omega
          obtain ⟨av, cv, rfl, hcv⟩ := own_cells HW.out
          have hin := in_is (c := cv) (m := (j : Int)) hcv (by have := HOT.out; omega) HIN.out
          have HINC := Lib.hid hin
          clear hcv hp hkN c1 c2 hin
          by_cases hpk : pk < 3
          · have dpk : decide (pk < 3) = true := decide_eq_true hpk
            by_cases hph : ph = (j : Int)
            · subst hph
              have HT1 : Hid ((L.take (k + 1)).any (fun p => decide (p.k < 3) && p.h == (j : Int)) = true) := by
                rw [Hid, HSN.out, dpk]; simp
              cases t with
              | true =>
                have HE : Hid (O2 = O ++ [(j : Int)]) := by rw [Hid]; simpa using HO2.out
                go_wp2_with (go_at_call 25; refine HINC.out.mono ?_; rintro e w8 ⟨rfl, rfl⟩)
                go_roundg (gk - 1)
                case measure => omega
                case rel => exact ⟨k + 1, true, _, by omega, by go_num, rfl, HT1.out.symm, by rw [if_pos rfl, ← HE.out]; exact HW, HK⟩
              | false =>
                have HE : Hid (O2 = O) := by rw [Hid]; simpa using HO2.out
                have HLE : Hid (O2.length ≤ 100000000000) := by have := HOT.out; unfold Hid; omega
                have HB : Hid (w.heap.size ≤ wr.heap.size) := HK.out.size
                go_wp2_with (first | (go_at_call 25; refine HINC.out.mono ?_; rintro e w8 ⟨rfl, rfl⟩) | (at_builtin; refine append1 rfl (.tmp 51) (.tmp 53) 39 rfl Tryd.underlying39 Tryd.infoInt rfl rfl HW.out rfl rfl (by decide) HLE.out HB.out ?_; intro v1 w1 hown1 hgrow1))
                have HK1 := Lib.hid (HK.out.grew HW.out (Nat.le_refl _) hgrow1)
                have HW1 := Lib.hid (own_snoc hown1)
                clear hown1 hgrow1
                go_wp2_with fail
                go_roundg (gk - 1)
                case measure => omega
                case rel => exact ⟨k + 1, true, v1, by omega, by go_num, rfl, HT1.out.symm, by rw [if_pos rfl, ← HE.out]; exact HW1, HK1⟩
            · have hph1 : (ph == (j : Int)) = false := by simpa using hph
              have HT1 : Hid (t = (L.take (k + 1)).any (fun p => decide (p.k < 3) && p.h == (j : Int))) := by
                rw [Hid, HSN.out, HT.out, hph1]; simp
              go_wp2_with fail
              go_roundg (gk - 1)
              case measure => omega
              case rel => exact ⟨k + 1, t, _, by omega, by go_num, rfl, HT1, by rw [← HO2.out]; exact HW, HK⟩
          · have dpk : decide (pk < 3) = false := decide_eq_false hpk
            have HT1 : Hid (t = (L.take (k + 1)).any (fun p => decide (p.k < 3) && p.h == (j : Int))) := by
              rw [Hid, HSN.out, HT.out, dpk]; simp
            go_wp2_with fail
            go_roundg (gk - 1)
            case measure => omega
            case rel => exact ⟨k + 1, t, _, by omega, by go_num, rfl, HT1, by rw [← HO2.out]; exact HW, HK⟩
        · obtain rfl : k = N := by omega
          have HE : Hid (O2 = (ids j).filter (rootOf L)) := by
            have e : t = rootOf L (j : Int) := by
              rw [HT.out, HN.out, List.take_length]; rfl
            rw [Hid, HO2.out, e]
            exact ids_next hj1 HO.out
          go_wp2_with fail
          go_roundg (g1 - 1)
          case measure => omega
          case rel => exact ⟨j + 1, O2, _, by omega, by omega, by go_num, rfl, by rw [Nat.add_sub_cancel]; exact HE, HW, HK⟩
    · have hltI : ¬ ((j : Int) ≤ (M : Int)) := by omega
      have hge : decide ((j : Int) ≤ (M : Int)) = false := decide_eq_false hltI
      have HE : Hid (O = Z) := by
        have e : j - 1 = M := by omega
        rw [Hid, HO.out, HZ.out, e]; rfl
      clear hltI
      go_wp2_with fail
      go_ret
      exact ⟨_, rfl, by rw [← HE.out]; exact HW.out, HK.out⟩
end
end Go.Proofs.YtdplakfmdkjfdaaDoor
