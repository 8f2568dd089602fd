/- Reach: what is reached. -/
import Derived.Test.YtdplakfmdkjfdaaDoorGReachP
import Derived.Scope
namespace Go.Proofs.YtdplakfmdkjfdaaDoor
open Go.RowKit Go.Sort
attribute [local go_sem ↓] app9_of

/-- What lies in memory at the search's loop. -/
structure RM (w : World) (m : Nat) (R : List (List Int)) (SB : Nat) (T O : List Int) (S : List Bool) (vt vo : Value) (W : World) : Prop where
  ri : RI m R T O S
  todo : W.ownsRow w.heap.size 3 1 vt T.length (T.map (Value.int .i64))
  out : W.ownsRow w.heap.size 3 1 vo O.length (O.map (Value.int .i64))
  seen : Blk W SB (S.map Value.bool) 4
  ap : ∀ k, vt.ownBlock = some k → vo.ownBlock = some k → False
  sb : w.heap.size ≤ SB
  keep : Keep none_ w W

set_option maxRecDepth 4000 in
set_option maxHeartbeats 8000000 in
theorem reach_any {F : Nat → Prop} {B : Nat} {c : Conf} {m : Nat} {R : List (List Int)} {w : World} (hg : GSt F B c m R w) (hm : m ≤ 1000) (hR : R.length ≤ 1000) : Calls Tryd.prog 24 #[.pointer (some ⟨B, 0, none⟩)] w fun e w' =>
    ∃ (a : Option Addr) (cap : Nat) (O : List Int), e = .returned (.slice a (sortL O).length cap) ∧ IntCells .i64 w' a (sortL O).length (sortL O) ∧ (∀ x, x ∈ sortL O ↔ RC m R x) ∧ O.length ≤ 1001 ∧ (∀ b off, a = some ⟨b, off, none⟩ → w.heap.size ≤ b) ∧ Keep none_ w w' := by
  have HR := Lib.hid (roots_any hg hm)
  have HCT := Lib.hid (fun W (h : Keep none_ w W) => (gcount_any (hg.still h)).mono (fun _ _ h => And.intro h.1 h.2.symm))
  have HGD := Lib.hid hg.good
  have HI0 := Lib.hid (RI.start hg.good)
  obtain ⟨⟨vs, vr, vc, vo, h⟩, -⟩ := hg
  have HH := Lib.hid h
  have hcn : cntP m R ≤ 1000 := by unfold cntP; omega
  have HCN := Lib.hid hcn
  obtain ⟨cnt, hcnt⟩ : ∃ cnt, cnt = cntP m R := ⟨_, rfl⟩
  have HCC := Lib.hid hcnt
  rw [← hcnt] at HCT hcn HI0
  have hmk : ∀ w : World, (Instr.makeSlice 85 (.int .i64 ((cnt : Int) + 1)) (.int .i64 ((cnt : Int) + 1))).run Tryd.prog w = .ok (.slice (some ⟨w.heap.size, 0, none⟩) (cnt + 1) (cnt + 1)) (w.alloc (.cells (zeros (.bool false) (cnt + 1)).toArray 4)) :=
    fun w => run_mk (P := Tryd.prog) (z := .bool false) (bytes := 1) (by kernel_rfl) (by kernel_rfl) rfl (by decide) (cnt + 1) (by omega) _ (by omega) w
  clear h hcnt
  go_enter Tryd.func24, Tryd.ntmps24
  go_wp2_with fail
  refine wp_scope_straight ?_
  go_wp2_with fail
  refine HR.out.mono ?_
  rintro e w1 ⟨vt, rfl, hrt, hk1⟩
  have HT1 := Lib.hid hrt
  have HK1 := Lib.hid hk1
  have HCT1 := Lib.hid (HCT.out w1 hk1)
  clear hrt hk1
  go_wp2_with (go_at_call 21; refine HCT1.out.mono ?_; rintro e w9 ⟨rfl, rfl⟩)
  obtain ⟨W2, hW2⟩ : ∃ W', W' = w1.alloc (.cells (zeros (.bool false) (cnt + 1)).toArray 4) := ⟨_, rfl⟩
  have HM : Hid (RM w m R w1.heap.size (rootsL m R) [] (List.replicate (cnt + 1) false) vt (.slice none 0 0) W2) := by
    have hk2 : Keep none_ w1 W2 := by rw [hW2]; exact (Keep.refl _ _).alloc _
    have hb : Blk W2 w1.heap.size ((List.replicate (cnt + 1) false).map Value.bool) 4 := by
      rw [hW2, List.map_replicate]
      exact Blk.new w1 _ _
    refine ⟨HI0.out, own_still HT1.out hk2, World.ownsRow_nil _ _ _ _, hb, fun k _ h => by simp [Value.ownBlock] at h, HK1.out.size, HK1.out.trans hk2⟩
  rw [← hW2]
  clear hW2 hmk HT1 HCT1 HI0 HR
  generalize w1.heap.size = SB at *
  refine wp_label ?_
  go_wp2_with fail
  go_loopg [3, 5] ((rootsL m R).length + 101 * (List.replicate (cnt + 1) false).count false) (fun g t o wr => ∃ (T O : List Int) (S : List Bool) (vt vo : Value), g = T.length + 101 * S.count false ∧ vt = t ∧ vo = o ∧ Hid (RM w m R SB T O S vt vo wr))
  case atStart => exact ⟨_, _, _, _, _, rfl, rfl, rfl, HM⟩
  case round =>
    clear HM HK1
    obtain ⟨T, O, S, vt', vo', hgk, ht, ho', HM⟩ := hrel
    subst ht ho'
    rcases List.eq_nil_or_concat T with rfl | ⟨T0, x, rfl⟩
    · obtain ⟨at', ct, rfl, _⟩ := own_form (own_low HM.out.todo (Nat.zero_le _))
      obtain ⟨ao, co, rfl, _⟩ := own_form (own_low HM.out.out (Nat.zero_le _))
      have hol : O.length ≤ 1001 := by have h1 := HM.out.ri.cnt; have := HCN.out; omega
      have HOL := Lib.hid hol
      have HSO := Lib.hid (sorted_any ao _ co O wr (own_low HM.out.out (Nat.zero_le _)) (by omega))
      clear hol
      simp only [List.length_nil]
      go_wp2_with fail
      refine HSO.out.mono ?_
      rintro e w2 ⟨rfl, ho2, hk2⟩
      have HO2 := Lib.hid ho2
      have HK2 : Hid (Keep none_ w w2) := HM.out.keep.trans' hk2 (fun i hi he => by have := own_above HM.out.out i he; omega)
      clear ho2 hk2
      go_wp2_with fail
      simp only [Exit.noGoto]
      go_ret
      refine ⟨_, _, O, rfl, ?_, fun x => ?_, HOL.out, ?_, HK2.out⟩
      · obtain ⟨a', c', e, hl, hnc, hnil, hcell⟩ := own_form HO2.out
        cases e
        refine ⟨rfl, fun h0 => ?_⟩
        obtain ⟨g, cur, rfl, _⟩ := own_slice HO2.out h0
        refine ⟨g, 0, rfl, fun j hj => ?_⟩
        have hj2 : (sortL O)[j]? = some ((sortL O).getD j 0) := by rw [List.getD_eq_getElem?_getD, List.getElem?_eq_getElem hj]; rfl
        obtain ⟨g', e, h3, _⟩ := hcell j (.int .i64 ((sortL O).getD j 0)) (by rw [List.getElem?_map, hj2]; rfl)
        cases e
        simpa using h3
      · rw [mem_sortL, HM.out.ri.done]
        exact ⟨fun h => h.1, fun h => ⟨h, h.nz⟩⟩
      · rintro b off rfl
        rcases HM.out.out.2 with ⟨e, _⟩ | ⟨g, cap, cur, e, hb, _⟩
        · cases e
        · cases e; exact hb
    · have htd := HM.out.todo
      have e1 : (T0.concat x) = T0 ++ [x] := by simp
      rw [e1] at htd HM hgk
      have e2 : (T0 ++ [x]).length = T0.length + 1 := by simp
      rw [e2] at htd hgk
      obtain ⟨a0, ct, rfl, hl0, hkc, hnil0, hcell0⟩ := own_form (own_low htd (Nat.zero_le _))
      obtain ⟨gt, e, cX, fX⟩ := hcell0 T0.length (.int .i64 x) (by simp)
      subst e
      obtain ⟨q, rfl, hq⟩ := HM.out.ri.rng x (by simp)
      have hlS := HM.out.ri.lenS
      obtain ⟨bq, hbq⟩ : ∃ bq, S[q]? = some bq := ⟨_, List.getElem?_eq_getElem (by omega)⟩
      have cS : wr.cell? ⟨SB, q, none⟩ = some (.bool bq) := HM.out.seen.cell q (by rw [List.getElem?_map, hbq]; rfl)
      have fS : wr.frozen? ⟨SB, q, none⟩ = false := HM.out.seen.free q
      have hkI : (T0.length : Int) < ((T0.length : Int) + 1) := by omega
      have hqI : (q : Int) < (cnt : Int) + 1 := by have := HCC.out; omega
      have hq0 : (0 : Int) ≤ (q : Int) := by omega
      have htl : T0.length ≤ 1000000 := by have h1 := HM.out.ri.size; have := HCN.out; have := HM.out.ri.cnt; simp at h1; omega
      have HP := Lib.hid (own_prefix htd (k := T0.length) (Nat.le_succ _))
      have HBQ := Lib.hid hbq
      have HCUT : Hid (((T0 ++ [(q : Int)]).map (Value.int .i64)).take T0.length = T0.map (Value.int .i64)) := by
        unfold Hid
        rw [← List.map_take, List.take_left]
      rw [HCUT.out] at HP
      have HT0 : Hid (∃ n, n = T0.length) := ⟨_, rfl⟩
      clear hl0 hnil0 hcell0 htd hbq hlS e1 e2
      generalize hn0 : T0.length = k at *
      have HN0 := Lib.hid hn0
      clear hn0
      have hskip : (q = 0 ∨ bq = true) → Hid (RM w m R SB T0 O S (.slice (some ⟨gt, 0, none⟩) k ct) vo' wr) := by
        intro h
        have h1 : ((q : Int)) = 0 ∨ (q : Int) ∈ O := by
          rcases h with h | h
          · exact .inl (by omega)
          · exact .inr ((HM.out.ri.seen q).1 (by rw [HBQ.out, h]))
        exact ⟨HM.out.ri.skip h1, by rw [HN0.out]; exact HP.out, HM.out.out, HM.out.seen, HM.out.ap, HM.out.sb, HM.out.keep⟩
      by_cases hz : q = 0
      · have HS1 := hskip (.inl hz)
        subst hz
        clear hskip
        go_wp2_with fail
        go_roundg (k + 101 * S.count false)
        case measure => omega
        case rel => exact ⟨T0, O, S, _, _, by rw [HN0.out], rfl, rfl, HS1⟩
      have hz0 : ((q : Int) == 0) = false := by simpa using hz
      cases bq with
      | true =>
        have HS1 := hskip (.inr rfl)
        clear hskip
        go_wp2_with fail
        go_roundg (k + 101 * S.count false)
        case measure => omega
        case rel => exact ⟨T0, O, S, _, _, by rw [HN0.out], rfl, rfl, HS1⟩
      | false =>
        clear hskip
        -- the object's row
        obtain ⟨p, rfl⟩ : ∃ p, q = p + 1 := ⟨q - 1, by omega⟩
        have hcr : cnt = R.length - (m + 1) := HCC.out
        have hqr : m + 1 + p < R.length := by omega
        obtain ⟨v, hv, -⟩ := HH.out.rowAt (m + 1 + p) hqr
        obtain ⟨fs, hf⟩ : ∃ fs, R[m + 1 + p]? = some fs := ⟨_, List.getElem?_eq_getElem hqr⟩
        have hrow := HH.out.row _ v fs hv hf
        obtain ⟨go, capo, hvo, _, co⟩ := HH.out.obj hv
        have c9 : w.cell? ⟨B, 9, none⟩ = some (.slice (some ⟨go, 0, none⟩) (cntP m R) capo) := by have := HH.out.blk.cell 9 rfl; rw [hvo] at this; exact this
        rw [← HCC.out] at c9
        have HF : Hid (fldP m R ((p + 1 : Nat) : Int) = fs) := by
          unfold Hid fldP
          rw [if_neg (by have := HCC.out; omega)]
          have e : m + (((p + 1 : Nat) : Int)).toNat = m + 1 + p := by omega
          rw [e]; exact getD_some hf
        have hfl : fs.length ≤ 100 := HGD.out.sz _ _ hf
        obtain ⟨hri, hlt⟩ := HM.out.ri.take HGD.out hz HBQ.out
        rw [HF.out] at hri hlt
        have hqe : ((p + 1 : Nat) : Int) = (p : Int) + 1 := by omega
        -- the store into seen
        obtain ⟨W1, hW1⟩ : ∃ W', W' = wr.setCell ⟨SB, p + 1, none⟩ (.bool true) := ⟨_, rfl⟩
        have hsz1 : W1.heap.size = wr.heap.size := by rw [hW1]; simp
        have hsb1 : Blk W1 SB ((S.set (p + 1) true).map Value.bool) 4 := by rw [hW1, List.map_set]; exact HM.out.seen.set (p + 1) _
        have hk1 : Keep none_ w W1 := by rw [hW1]; exact HM.out.keep.putNew HM.out.sb _ _
        have hsk : Keep (only SB) wr W1 := by rw [hW1]; exact (Keep.refl _ _).put _ _
        have hno : ∀ (v : Value) (n : Nat) (xs : List Value), wr.ownsRow 0 3 1 v n xs → ∀ b, v.ownBlock = some b → ¬ only SB b := fun v n xs ho b hb he => own_ne HM.out.seen ho (by decide) (by unfold only at he; rw [hb, he])
        have hout1 : W1.ownsRow w.heap.size 3 1 vo' O.length (O.map (Value.int .i64)) := own_high (own_keep (own_low HM.out.out (Nat.zero_le _)) hsk (hno _ _ _ (own_low HM.out.out (Nat.zero_le _)))) (own_above HM.out.out)
        have htd1 : W1.ownsRow w.heap.size 3 1 (.slice (some ⟨gt, 0, none⟩) k ct) k (T0.map (Value.int .i64)) := own_high (own_keep (own_low HP.out (Nat.zero_le _)) hsk (hno _ _ _ (own_low HP.out (Nat.zero_le _)))) (own_above HP.out)
        -- the append of the number
        obtain ⟨W2, hW2⟩ : ∃ W', W' = W1.alloc (.cells #[.int .i64 ((p : Int) + 1)] 3) := ⟨_, rfl⟩
        have hk2 : Keep none_ W1 W2 := by rw [hW2]; exact (Keep.refl _ _).alloc _
        have hone : W2.ownsRow 0 3 1 (.slice (some ⟨W1.heap.size, 0, none⟩) 1 1) [(p : Int) + 1].length ([(p : Int) + 1].map (Value.int .i64)) := by
          rw [hW2]
          exact own_oneI W1 _
        have hol : O.length ≤ 1001 := by have h1 := HM.out.ri.cnt; have := HCN.out; omega
        obtain ⟨vo2, W3, hrun3, ho3, hgr3, hwh3⟩ := app_at (own_still hout1 hk2) hone (by simp; omega) (hk1.trans hk2).size
        have hk3 : Keep none_ w W3 := keep_grown hgr3 (hk1.trans hk2) (own_above hout1)
        have hlt2 : W1.heap.size < W2.heap.size := by rw [hW2]; simp
        have hgt : gt < wr.heap.size := (World.ownsRow.lt HP.out gt rfl).2
        have htd3 : W3.ownsRow w.heap.size 3 1 (.slice (some ⟨gt, 0, none⟩) k ct) k (T0.map (Value.int .i64)) :=
          own_high (own_grown (own_low (own_still htd1 hk2) (Nat.zero_le _)) hgr3 (fun b hb he => HM.out.ap b hb he)) (own_above HP.out)
        have hsb3 : Blk W3 SB ((S.set (p + 1) true).map Value.bool) 4 := (hk2.blk hsb1 (fun f => f)).grown hgr3 (own_ne (hk2.blk hsb1 (fun f => f)) (own_low (own_still hout1 hk2) (Nat.zero_le _)) (by decide))
        have hrow3 := own_still hrow hk3
        obtain ⟨vt4, W4, hrun4, ht4, hgr4, hwh4⟩ := app_at htd3 hrow3 (by omega) hk3.size
        have hk4 : Keep none_ w W4 := keep_grown hgr4 hk3 (own_above htd3)
        have hvo2 : ∀ b, vo2.ownBlock = some b → b ≠ gt := fun b hb he => by
          subst he
          rcases hwh3 b hb with h | h
          · exact HM.out.ap b rfl h
          · omega
        have ho4 : W4.ownsRow w.heap.size 3 1 vo2 (O.length + [(p : Int) + 1].length) ((O ++ [(p : Int) + 1]).map (Value.int .i64)) := by
          rw [List.map_append]
          exact own_high (own_grown (own_low ho3 (Nat.zero_le _)) hgr4 (fun b hb he => hvo2 b hb (by injection he with he; exact he.symm))) (own_above ho3)
        have hsb4 : Blk W4 SB ((S.set (p + 1) true).map Value.bool) 4 := hsb3.grown hgr4 (own_ne hsb3 (own_low htd3 (Nat.zero_le _)) (by decide))
        rw [← List.map_append] at ht4
        have HN4 : Hid (RM w m R SB (T0 ++ fs) (O ++ [(p : Int) + 1]) (S.set (p + 1) true) vt4 vo2 W4) := by
          refine ⟨by rw [← hqe]; exact hri, ?_, ?_, hsb4, fun b h1 h2 => ?_, HM.out.sb, hk4⟩
          · rw [List.length_append, HN0.out]; exact ht4
          · rw [List.length_append]; exact ho4
          · rcases hwh4 b h1 with h | h
            · exact hvo2 b h2 (by injection h with h; exact h.symm)
            · have := (World.ownsRow.lt ho3 b h2).2
              omega
        have HLT4 : Hid ((T0 ++ fs).length + 101 * (S.set (p + 1) true).count false < k + 1 + 101 * S.count false) := by
          have h1 := hlt
          have e : (T0 ++ [((p + 1 : Nat) : Int)]).length = k + 1 := by rw [List.length_append, HN0.out]; rfl
          rw [e] at h1
          exact h1
        have c9' := hk3.still c9
        have co' := hk3.still co
        rw [hW2, hsz1, hW1] at hrun3
        rw [hqe] at cX
        have hpI : (p : Int) < (cnt : Int) := by omega
        have hp0 : (0 : Int) ≤ (p : Int) := by omega
        clear hW1 hW2 hsz1 hsb1 hk1 hsk hno hout1 htd1 hk2 hone hol ho3 hgr3 hwh3 hk3 hlt2 hgt htd3 hsb3 hrow3 ht4 hgr4 hwh4 hk4 hvo2 ho4 hsb4 hri hlt hrow hf hv c9 co hqr hcr hfl
        go_wp2_with fail
        go_roundg ((T0 ++ fs).length + 101 * (S.set (p + 1) true).count false)
        case measure => have := HLT4.out; omega
        case rel => exact ⟨T0 ++ fs, O ++ [(p : Int) + 1], S.set (p + 1) true, _, _, rfl, rfl, rfl, HN4⟩
end Go.Proofs.YtdplakfmdkjfdaaDoor
