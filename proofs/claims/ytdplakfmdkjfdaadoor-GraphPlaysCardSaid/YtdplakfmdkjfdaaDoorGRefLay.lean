/- The reference's graph: Lay. -/
import Derived.Test.YtdplakfmdkjfdaaDoorGRefAt
import Derived.Laws.OwnMore
namespace Go.Proofs.YtdplakfmdkjfdaaDoor
open Go.RowKit Go.Sort

theorem plc_snoc (O : List PlaceR) (p : PlaceR) : plc (O ++ [p]) = plc O ++ p.cells := by simp [plc]
theorem filter_snoc {L : List PlaceR} {j : Nat} {p : PlaceR} (hp : L[j]? = some p) (k m n : Int) : (L.take (j + 1)).filter (fun p => !p.is k m n) = (L.take j).filter (fun p => !p.is k m n) ++ (if p.is k m n = true then [] else [p]) := by
  have hj := (List.getElem?_eq_some_iff.1 hp).1
  have he := (List.getElem?_eq_some_iff.1 hp).2
  rw [List.take_succ_eq_append_getElem hj, he, List.filter_append]
  cases h : p.is k m n <;> simp [h]
section
variable {F : Nat → Prop} {B : Nat} {c : Conf} {S : List Int} {L : List PlaceR} {vs vl : Value} {w : World}
set_option maxRecDepth 4000 in
set_option maxHeartbeats 4000000 in
theorem rLay_any (h : RRep F B c S L vs vl w) (hF : ∀ k, w.heap.size ≤ k → F k) (hl : L.length ≤ 100000) (k m n x : Int) : Calls Tryd.prog 51 #[.pointer (some ⟨B, 0, none⟩), .int .i64 k, .int .i64 m, .int .i64 n, .int .i64 x] w fun e w' =>
    e = .returned (.tuple #[]) ∧ (∃ vl', RRep F B c S (layL L k m n x) vs vl' w') ∧ Keep (only B) w w' := by
  obtain ⟨a, cap, rfl, hr, hcp⟩ := h.list
  have HR := Lib.hid hr
  have y8 := h.blk.cell 8 rfl
  have HH := Lib.hid h
  have HF := Lib.hid hF
  have HBL : Hid (B < w.heap.size) := h.blk.lt
  clear h hr hcp hF
  obtain ⟨N, hN⟩ : ∃ N, N = L.length := ⟨_, rfl⟩
  have HN := Lib.hid hN
  rw [← hN] at y8 hl
  clear hN
  have HFILT : Hid (∀ j, ((L.take j).filter (fun p => !p.is k m n)).length ≤ 100000) := fun j => by
    have h1 := List.length_filter_le (fun p : PlaceR => !p.is k m n) (L.take j)
    have h2 : (L.take j).length ≤ L.length := by rw [List.length_take]; exact Nat.min_le_right _ _
    have := HN.out
    omega
  have H0 : Hid (w.ownsRow w.heap.size 88 4 (.slice none 0 0) ([] : List PlaceR).length (plc [])) := ⟨rfl, .inl ⟨rfl, rfl⟩⟩
  have HK0 : Hid (Keep none_ w w) := Keep.refl _ _
  go_enter Tryd.func51, Tryd.ntmps51
  go_wp2_with fail
  go_loopg [10, 11] N (fun g s10 i wr => ∃ (j : Nat) (O : List PlaceR) (v : Value), g + j = N ∧ i = .int .i64 j ∧ v = s10 ∧ Hid (O = (L.take j).filter (fun p => !p.is k m n)) ∧ Hid (wr.ownsRow w.heap.size 88 4 v O.length (plc O)) ∧ Hid (Keep none_ w wr))
  case atStart => exact ⟨0, [], _, rfl, rfl, rfl, rfl, H0, HK0⟩
  case round =>
    clear H0 HK0
    obtain ⟨j, O, v, hg, rfl, hv, HO, HW, HK⟩ := hrel
    subst hv
    have y8' : wr.cell? ⟨B, 8, none⟩ = some (.slice a N cap) := HK.out.still y8
    have HLE : Hid (O.length ≤ 100000000000) := by have := HFILT.out j; rw [← HO.out] at this; unfold Hid; omega
    have HB : Hid (w.heap.size ≤ wr.heap.size) := HK.out.size
    by_cases hlt : j < N
    · have hjN : j < L.length := by rw [← HN.out]; exact hlt
      obtain ⟨b, off, rfl, p, hp, c0, c1, c2, c3⟩ := placeCells (HR.out.below HK.out) j hjN
      have hltI : (j : Int) < (N : Int) := by omega
      have hj0 : (0 : Int) ≤ (j : Int) := by omega
      have HFS := Lib.hid (filter_snoc hp k m n)
      have hic := is_cases p k m n
      have HSN := Lib.hid (plc_snoc O p)
      obtain ⟨pk, pm, pn, ph⟩ := p
      simp only at c0 c1 c2 c3 hic
      rcases hic with ⟨hi, hic⟩ | ⟨hi, ⟨t1, t2⟩, ⟨t3, t4⟩, t5, t6⟩
      · have HI := Lib.hid hi
        have HU : Hid (∀ u ∈ [Value.int .i64 pk, .int .i64 pm, .int .i64 pn, .int .i64 ph], u.oneCell' = true) := fun u hu => by
          simp at hu
          rcases hu with rfl | rfl | rfl | rfl <;> rfl
        have HO2 : Hid (O ++ [(⟨pk, pm, pn, ph⟩ : PlaceR)] = (L.take (j + 1)).filter (fun p => !p.is k m n)) := by
          rw [Hid, HFS.out, if_neg (by rw [HI.out]; decide), ← HO.out]
        clear hi hjN hp
        rcases hic with ⟨t1, t2⟩ | ⟨⟨t1, t2⟩, t3, t4⟩ | ⟨⟨t1, t2⟩, ⟨t3, t4⟩, t5, t6⟩
        all_goals
          go_wp2_with (at_builtin; refine appendR rfl (.tmp 55) (.tmp 63) 52 rfl Tryd.underlying52 Tryd.infoPlace rfl (by decide) rfl HW.out (us := [.int .i64 pk, .int .i64 pm, .int .i64 pn, .int .i64 ph]) rfl rfl rfl HU.out (by decide) HLE.out HB.out ?_; intro v1 w1 hown1 hgrow1)
          have HK1 := Lib.hid (HK.out.grew HW.out (Nat.le_refl _) hgrow1)
          have HW1 : Hid (w1.ownsRow w.heap.size 88 4 v1 (O ++ [(⟨pk, pm, pn, ph⟩ : PlaceR)]).length (plc (O ++ [⟨pk, pm, pn, ph⟩]))) := by
            rw [HSN.out, List.length_append]
            exact hown1
          clear hown1 hgrow1
          go_wp2_with fail
          go_roundg (gk - 1)
          case measure => omega
          case rel => exact ⟨j + 1, _, v1, by omega, by go_num, rfl, HO2, HW1, HK1⟩
      · have HO2 : Hid (O = (L.take (j + 1)).filter (fun p => !p.is k m n)) := by
          rw [Hid, HFS.out, if_pos hi, List.append_nil, ← HO.out]
        clear hi hjN hp
        go_wp2_with fail
        go_roundg (gk - 1)
        case measure => omega
        case rel => exact ⟨j + 1, _, _, by omega, by go_num, rfl, HO2, HW, HK⟩
    · obtain rfl : j = N := by omega
      have HOE : Hid (O = L.filter (fun p => !p.is k m n)) := by
        rw [Hid, HO.out, HN.out, List.take_length]
      have z8 : wr.frozen? ⟨B, 8, none⟩ = false := (HK.out.blk HH.out.blk (fun f => f)).free 8
      have fin : ∀ (W : World) (v' : Value), W.ownsRow w.heap.size 88 4 v' (layL L k m n x).length (plc (layL L k m n x)) → Keep none_ w W →
          (∃ vl', RRep F B c S (layL L k m n x) vs vl' (W.setCell ⟨B, 8, none⟩ v')) ∧ Keep (only B) w (W.setCell ⟨B, 8, none⟩ v') := fun W v' ho hk => by
        have hh := HH.out.still hk
        have hBL := HBL.out
        have hlt := World.ownsRow.lt ho
        refine ⟨⟨v', hh.blk.set 8 v', ?_, ?_, hh.fB, hh.fs, fun q hq => HF.out q (hlt q hq).1⟩, (hk.mono (fun _ _ f => f.elim)).put 8 v'⟩
        · refine ownsRow_setCell_other hh.siz (fun e => ?_) v'
          exact own_ne hh.blk hh.siz (by decide) e
        · refine ownsRow_setCell_other (own_low ho (Nat.zero_le _)) (fun e => ?_) v'
          have := (hlt _ e).1
          simp only at this
          omega
      have HFIN := Lib.hid fin
      clear fin
      by_cases hx : x = 0
      · have hx1 : (x != 0) = false := by simp [hx]
        have HLY : Hid (layL L k m n x = O) := by rw [Hid, layL, if_pos hx, List.append_nil, ← HOE.out]
        obtain ⟨a1, c1, rfl, -, -⟩ := RecAt.ofOwn HW.out (plc_rows O) (by simp)
        clear hx
        go_wp2_with fail
        go_end0
        rw [HLY.out] at HFIN
        rw [HLY.out]
        exact ⟨rfl, HFIN.out _ _ HW.out HK.out⟩
      · have hx1 : (x != 0) = true := by simpa using hx
        have HLY : Hid (layL L k m n x = O ++ [⟨k, m, n, x⟩]) := by rw [Hid, layL, if_neg hx, ← HOE.out]
        have HSN := Lib.hid (plc_snoc O ⟨k, m, n, x⟩)
        have HU : Hid (∀ u ∈ [Value.int .i64 k, .int .i64 m, .int .i64 n, .int .i64 x], u.oneCell' = true) := fun u hu => by
          simp at hu
          rcases hu with rfl | rfl | rfl | rfl <;> rfl
        clear hx
        go_wp2_with (at_builtin; refine appendR rfl (.tmp 67) (.tmp 73) 52 rfl Tryd.underlying52 Tryd.infoPlace rfl (by decide) rfl HW.out (us := [.int .i64 k, .int .i64 m, .int .i64 n, .int .i64 x]) rfl rfl rfl HU.out (by decide) HLE.out HB.out ?_; intro v1 w1 hown1 hgrow1; have HK1 := Lib.hid (HK.out.grew HW.out (Nat.le_refl _) hgrow1); have HW1 : Hid (w1.ownsRow w.heap.size 88 4 v1 (layL L k m n x).length (plc (layL L k m n x))) := (by rw [HLY.out, HSN.out, List.length_append]; exact hown1); have y8'' : w1.cell? ⟨B, 8, none⟩ = some (.slice a j cap) := HK1.out.still y8; have z8'' : w1.frozen? ⟨B, 8, none⟩ = false := (HK1.out.blk HH.out.blk (fun f => f)).free 8; clear hown1 hgrow1; obtain ⟨a1, c1, rfl, -, -⟩ := RecAt.ofOwn HW1.out (plc_rows _) (by simp))
        go_end0
        exact ⟨rfl, HFIN.out _ _ HW1.out HK1.out⟩
end
end Go.Proofs.YtdplakfmdkjfdaaDoor
