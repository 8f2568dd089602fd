/- The reference's graph: Reach. -/
import Derived.Test.YtdplakfmdkjfdaaDoorGRefRoots
namespace Go.Proofs.YtdplakfmdkjfdaaDoor
open Go.RowKit Go.Sort

theorem take_snoc {L : List PlaceR} {k : Nat} {p : PlaceR} (h : L[k]? = some p) : L.take (k + 1) = L.take k ++ [p] := by
  have hk := (List.getElem?_eq_some_iff.1 h).1
  have he := (List.getElem?_eq_some_iff.1 h).2
  rw [List.take_succ_eq_append_getElem hk, he]
/-- A round of Reach: what is in, whether it is more than before, and what of the places is closed. -/
structure RY (m : Nat) (R : List (List Int)) (n : Nat) (L : List PlaceR) (I : List Int) (k : Nat) (J : List Int) (t : Bool) : Prop where
  rx : RX m R n J
  no : t = false → J = I ∧ ∀ p ∈ L.take k, p.k = 3 → p.m ∈ I → p.h ∈ I
  yes : t = true → free n J + 1 ≤ free n I
section
variable {c : Conf} {m : Nat} {R : List (List Int)} {S : List Int} {L : List PlaceR} {I J : List Int} {k : Nat} {t : Bool}
theorem RY.start {n : Nat} (h : RX m R n I) : RY m R n L I 0 I false := ⟨h, fun _ => ⟨rfl, fun p hp => by simp at hp⟩, fun h => by cases h⟩
theorem RY.skip {n : Nat} {p : PlaceR} (h : RY m R n L I k J t) (hp : L[k]? = some p) (hno : p.k = 3 → inL J p.m = true → inL J p.h = true) : RY m R n L I (k + 1) J t := by
  refine ⟨h.rx, fun ht => ⟨(h.no ht).1, fun q hq hk hm => ?_⟩, h.yes⟩
  obtain ⟨rfl, h2⟩ := h.no ht
  rw [take_snoc hp] at hq
  rcases List.mem_append.1 hq with hq | hq
  · exact h2 q hq hk hm
  · obtain rfl := List.mem_singleton.1 hq
    exact inL_true.1 (hno hk (inL_true.2 hm))
theorem RY.add {p : PlaceR} (hr : RelG m R S L) (hg : Good c m R) (h : RY m R S.length L I k J t) (hp : L[k]? = some p) (hk : p.k = 3) (hin : inL J p.m = true) (hno : inL J p.h = false) : RY m R S.length L I (k + 1) (J ++ [p.h]) true := by
  obtain ⟨h1, h2⟩ := h.rx.add hr hg (List.mem_iff_getElem?.2 ⟨_, hp⟩) hk (inL_true.1 hin) (fun e => by rw [inL_true.2 e] at hno; cases hno)
  refine ⟨h1, fun ht => by (cases ht), fun _ => ?_⟩
  cases t with
  | false => obtain ⟨rfl, _⟩ := h.no rfl; exact h2
  | true => have := h.yes rfl; omega
end

section
variable {F : Nat → Prop} {B : Nat} {c : Conf} {m : Nat} {R : List (List Int)} {S : List Int} {L : List PlaceR} {vs vl : Value} {w : World}
set_option maxRecDepth 4000 in
set_option maxHeartbeats 4000000 in
theorem rReach_any (h : RRep F B c S L vs vl w) (hrel : RelG m R S L) (hg : Good c m R) (hl : L.length ≤ 100000) (hS : S.length ≤ 1000) : Calls Tryd.prog 29 #[.pointer (some ⟨B, 0, none⟩)] w fun e w' =>
    ∃ (a : Option Addr) (cap : Nat) (K : List Int), e = .returned (.slice a K.length cap) ∧ IntCells .i64 w' a K.length K ∧ IsReach m R K ∧ Keep none_ w w' := by
  have HRT := Lib.hid (rRoots_any h hl (by omega))
  obtain ⟨a, cap, rfl, hr, hcp⟩ := h.list
  obtain ⟨sa, caps, rfl, hs, hcs⟩ := h.sizes
  have HR := Lib.hid hr
  have y8 := h.blk.cell 8 rfl
  have y7 := h.blk.cell 7 rfl
  clear h hr hs hcp hcs
  obtain ⟨N, hN⟩ : ∃ N, N = L.length := ⟨_, rfl⟩
  obtain ⟨M, hM⟩ : ∃ M, M = S.length := ⟨_, rfl⟩
  have HN := Lib.hid hN
  have HX0 : Hid (RX m R M (rootsR L M)) := by rw [hM]; exact RX.start hrel hg
  have HADD : Hid (∀ {I J : List Int} {k : Nat} {t : Bool} {p : PlaceR}, RY m R M L I k J t → L[k]? = some p → p.k = 3 → inL J p.m = true → inL J p.h = false → RY m R M L I (k + 1) (J ++ [p.h]) true) := by
    intro I J k t p h1 h2 h3 h4 h5
    rw [hM] at h1 ⊢
    exact h1.add hrel hg h2 h3 h4 h5
  have HDONE : Hid (∀ I, RX m R M I → (∀ p ∈ L, p.k = 3 → p.m ∈ I → p.h ∈ I) → IsReach m R ((ids M).filter (inL I))) := by
    intro I h1 h2
    rw [hM] at h1 ⊢
    exact h1.done hrel hg h2 hS
  rw [← hN] at y8 hl
  rw [← hM] at y7 hS HRT
  clear hN hM hrel hg
  go_enter Tryd.func29, Tryd.ntmps29
  go_wp2_with fail
  refine HRT.out.mono ?_
  rintro e w1 ⟨v1, rfl, ho1, hk1⟩
  have HO1 := Lib.hid ho1
  have HK1 := Lib.hid hk1
  clear ho1 hk1 HRT
  go_wp2_with fail
  go_loopg [3, 4] (M + 1) (fun g s3 s4 wr => ∃ (I : List Int) (v : Value) (t : Bool), v = s3 ∧ s4 = .bool t ∧ Hid (wr.ownsRow w.heap.size 3 1 v I.length (I.map (Value.int .i64))) ∧ Hid (Keep none_ w wr) ∧ Hid (RX m R M I) ∧ Hid (t = true → free M I + 1 ≤ g) ∧ Hid (t = false → ∀ p ∈ L, p.k = 3 → p.m ∈ I → p.h ∈ I))
  case atStart => exact ⟨_, v1, true, rfl, rfl, HO1, HK1, HX0, fun _ => by have := free_le M (rootsR L M); omega, fun h => by cases h⟩
  case round =>
    clear HO1 HK1 HX0
    obtain ⟨I, v, t, hv, rfl, HW, HK, HX, HM, HC⟩ := hrel
    subst hv
    obtain ⟨g1, rfl⟩ : ∃ g1 : Nat, g1 = gk := ⟨_, rfl⟩
    cases t with
    | true =>
      have HG : Hid (free M I + 1 ≤ g1) := HM.out rfl
      have HY0 : Hid (RY m R M L I 0 I false) := RY.start HX.out
      clear HM HC
      go_wp2_with fail
      go_loopg [3, 4, 5] N (fun g s3 s4 i wr2 => ∃ (k : Nat) (J : List Int) (v : Value) (t : Bool), g + k = N ∧ i = .int .i64 k ∧ v = s3 ∧ s4 = .bool t ∧ Hid (RY m R M L I k J t) ∧ Hid (wr2.ownsRow w.heap.size 3 1 v J.length (J.map (Value.int .i64))) ∧ Hid (Keep none_ w wr2))
      case atStart => exact ⟨0, I, _, false, by omega, rfl, rfl, rfl, HY0, HW, HK⟩
      case round =>
        clear HY0 HW HK
        obtain ⟨k, J, v, t, hg2, rfl, hv, rfl, HY, HW, HK⟩ := hrel
        subst hv
        have y8' := HK.out.still y8
        have HJL : Hid (J.length ≤ 2000) := by have := HY.out.rx.len; unfold Hid; omega
        by_cases hlt2 : k < N
        · have hkN : k < L.length := by rw [← HN.out]; exact hlt2
          obtain ⟨b, off, rfl, p, hp, c0, c1, c2, c3⟩ := placeCells (HR.out.below HK.out) k hkN
          have HP := Lib.hid hp
          have hlt2I : (k : Int) < (N : Int) := by omega
          have hk0 : (0 : Int) ≤ (k : Int) := by omega
          obtain ⟨av, cv, rfl, hcv⟩ := own_cells HW.out
          have HIN : Hid (∀ (W : World) (x : Int), Keep none_ wr W → Calls Tryd.prog 25 #[.slice av J.length cv, .int .i64 x] W fun e w' => e = .returned (.bool (inL J x)) ∧ W = w') := fun W x hW =>
            in_any av _ cv J x W (hcv.below hW) (by have := HJL.out; omega)
          clear hcv hp hkN
          obtain ⟨pk, pm, pn, ph⟩ := p
          simp only at c0 c1 c2 c3
          have HK2 : Hid (Keep none_ w (wr.alloc (.cells #[.int .i64 pk, .int .i64 pm, .int .i64 pn, .int .i64 ph] 88))) := HK.out.alloc _
          have HW2 : Hid ((wr.alloc (.cells #[.int .i64 pk, .int .i64 pm, .int .i64 pn, .int .i64 ph] 88)).ownsRow w.heap.size 3 1 (.slice av J.length cv) J.length (J.map (Value.int .i64))) := own_still HW.out ((Keep.refl _ _).alloc _)
          by_cases hpk : pk = 3
          · subst hpk
            cases hm : inL J pm with
            | true =>
              have HM1 := Lib.hid hm
              cases hh : inL J ph with
              | true =>
                have HH1 := Lib.hid hh
                go_wp2_with (go_at_call 25; refine (HIN.out _ _ ((Keep.refl _ _).alloc _)).mono ?_; rintro e w8 ⟨rfl, rfl⟩)
                go_roundg (gk - 1)
                case measure => omega
                case rel => exact ⟨k + 1, J, _, t, by omega, by go_num, rfl, rfl, HY.out.skip HP.out (fun _ _ => HH1.out), HW2, HK2⟩
              | false =>
                have HH1 := Lib.hid hh
                have HU1 : Hid (∀ u ∈ [Value.int .i64 ph], u.oneCell' = true) := fun u hu => by obtain rfl := List.mem_singleton.1 hu; rfl
                have HYN := Lib.hid (HADD.out HY.out HP.out rfl HM1.out HH1.out)
                have HLE : Hid (J.length ≤ 100000000000) := by have := HJL.out; unfold Hid; omega
                have HB : Hid (w.heap.size ≤ (wr.alloc (.cells #[.int .i64 3, .int .i64 pm, .int .i64 pn, .int .i64 ph] 88)).heap.size) := HK2.out.size
                go_wp2_with (first | (go_at_call 25; refine (HIN.out _ _ ((Keep.refl _ _).alloc _)).mono ?_; rintro e w8 ⟨rfl, rfl⟩) | (at_builtin; refine appendR rfl (.tmp 44) (.tmp 47) 39 rfl Tryd.underlying39 Tryd.infoInt rfl (by decide) rfl HW2.out (us := [.int .i64 ph]) (World.size_alloc _ _) rfl rfl HU1.out (by decide) HLE.out HB.out ?_; intro v2 w2 hown2 hgrow2; have HK3 := Lib.hid (HK2.out.grew HW2.out (Nat.le_refl _) hgrow2); have HW3 := Lib.hid (own_snoc hown2); clear hown2 hgrow2))
                go_roundg (gk - 1)
                case measure => omega
                case rel => exact ⟨k + 1, _, _, true, by omega, by go_num, rfl, rfl, HYN, HW3, HK3⟩
            | false =>
              have HM1 := Lib.hid hm
              go_wp2_with (go_at_call 25; refine (HIN.out _ _ ((Keep.refl _ _).alloc _)).mono ?_; rintro e w8 ⟨rfl, rfl⟩)
              go_roundg (gk - 1)
              case measure => omega
              case rel => exact ⟨k + 1, J, _, t, by omega, by go_num, rfl, rfl, HY.out.skip HP.out (fun _ h => by rw [HM1.out] at h; cases h), HW2, HK2⟩
          · have hpk1 : (pk == 3) = false := by simpa using hpk
            have HPK := Lib.hid hpk
            clear hpk
            go_wp2_with fail
            go_roundg (gk - 1)
            case measure => omega
            case rel => exact ⟨k + 1, J, _, t, by omega, by go_num, rfl, rfl, HY.out.skip HP.out (fun h => absurd h HPK.out), HW2, HK2⟩
        · obtain rfl : k = N := by omega
          have HYE := HY.out
          go_wp2_with fail
          go_roundg (g1 - 1)
          case measure => have := HG.out; omega
          case rel => exact ⟨J, _, t, rfl, rfl, HW, HK, HYE.rx, fun ht => by have := HYE.yes ht; have := HG.out; omega, fun ht => by
            obtain ⟨rfl, h2⟩ := HYE.no ht
            rw [HN.out, List.take_length] at h2
            exact h2⟩
    | false =>
      have HIS : Hid (IsReach m R ((ids M).filter (inL I))) := HDONE.out I HX.out (HC.out rfl)
      have HIL : Hid (I.length ≤ 2000) := by have := HX.out.len; unfold Hid; omega
      obtain ⟨av, cv, rfl, hcv⟩ := own_cells HW.out
      have HIN : Hid (∀ (W : World) (x : Int), Keep none_ wr W → Calls Tryd.prog 25 #[.slice av I.length cv, .int .i64 x] W fun e w' => e = .returned (.bool (inL I x)) ∧ W = w') := fun W x hW =>
        in_any av _ cv I x W (hcv.below hW) (by have := HIL.out; omega)
      obtain ⟨V, rfl⟩ : ∃ V : World, V = wr := ⟨_, rfl⟩
      have H0 : Hid (V.ownsRow V.heap.size 3 1 (.slice none 0 0) ([] : List Int).length (([] : List Int).map (Value.int .i64))) := ⟨rfl, .inl ⟨rfl, rfl⟩⟩
      have HK0 : Hid (Keep none_ V V) := Keep.refl _ _
      have HFL := Lib.hid (ids_filter_len (inL I))
      have y7 := HK.out.still y7
      clear hcv HM HC HX HW y8
      go_wp2_with fail
      go_loopg [7, 8] M (fun g s7 i wr => ∃ (j : Nat) (O : List Int) (v : Value), g + j = M + 1 ∧ 1 ≤ j ∧ i = .int .i64 j ∧ v = s7 ∧ Hid (O = (ids (j - 1)).filter (inL I)) ∧ Hid (wr.ownsRow V.heap.size 3 1 v O.length (O.map (Value.int .i64))) ∧ Hid (Keep none_ V wr))
      case atStart => exact ⟨1, [], _, by omega, Nat.le_refl _, rfl, rfl, rfl, H0, HK0⟩
      case round =>
        clear H0 HK0
        obtain ⟨j, O, v, hg, hj1, rfl, hv, HO, HW, HKV⟩ := hrel
        subst hv
        have y7' := HKV.out.still y7
        by_cases hlt : j ≤ M
        · have hltI : (j : Int) ≤ (M : Int) := by omega
          have HLE : Hid (O.length ≤ 100000000000) := by have := HFL.out (j - 1); rw [← HO.out] at this; unfold Hid; omega
          have HB : Hid (V.heap.size ≤ wr.heap.size) := HKV.out.size
          have HNX := Lib.hid (ids_next hj1 HO.out)
          have HINC := Lib.hid (HIN.out wr (j : Int) HKV.out)
          cases hin : inL I (j : Int) with
          | true =>
            rw [hin] at HINC HNX
            clear hin
            go_wp2_with (first | (go_at_call 25; refine HINC.out.mono ?_; rintro e w8 ⟨rfl, rfl⟩) | (at_builtin; refine append1 rfl (.tmp 61) (.tmp 63) 39 rfl Tryd.underlying39 Tryd.infoInt rfl rfl HW.out rfl rfl (by decide) HLE.out HB.out ?_; intro v1 w1 hown1 hgrow1))
            have HK1 := Lib.hid (HKV.out.grew HW.out (Nat.le_refl _) hgrow1)
            have HW1 := Lib.hid (own_snoc hown1)
            clear hown1 hgrow1
            go_wp2_with fail
            go_roundg (gk - 1)
            case measure => omega
            case rel => exact ⟨j + 1, _, v1, by omega, by omega, by go_num, rfl, by rw [Nat.add_sub_cancel, Hid]; simpa using HNX.out, HW1, HK1⟩
          | false =>
            rw [hin] at HINC HNX
            clear hin
            go_wp2_with (go_at_call 25; refine HINC.out.mono ?_; rintro e w8 ⟨rfl, rfl⟩)
            go_roundg (gk - 1)
            case measure => omega
            case rel => exact ⟨j + 1, O, _, by omega, by omega, by go_num, rfl, by rw [Nat.add_sub_cancel, Hid]; simpa using HNX.out, HW, HKV⟩
        · have hge : decide ((j : Int) ≤ (M : Int)) = false := decide_eq_false (by omega)
          have HE : Hid (O = (ids M).filter (inL I)) := by
            have e : j - 1 = M := by omega
            rw [Hid, HO.out, e]
          obtain ⟨a2, c2, rfl, hc2⟩ := own_cells HW.out
          have HC2 := Lib.hid hc2
          clear hc2
          go_wp2_with fail
          go_ret
          exact ⟨_, _, O, rfl, HC2.out, by rw [HE.out]; exact HIS.out, HK.out.trans HKV.out⟩
end
end Go.Proofs.YtdplakfmdkjfdaaDoor
