/- DeleteFunc of the zeros of a row of the call's own. -/
import Derived.Test.YtdplakfmdkjfdaaDoorGAct
import Derived.Lib.Slices
namespace Go.Proofs.YtdplakfmdkjfdaaDoor
open Go.RowKit Go.Sort

/-! ### Plain -/
def nz (zs : List Int) : List Int := zs.filter (fun z => z != 0)
def lay (zs : List Int) (j : Nat) : List Int := nz (zs.take j) ++ zs.drop (nz (zs.take j)).length
theorem nz_le (zs : List Int) (j : Nat) : (nz (zs.take j)).length ≤ j := by
  have h1 : (nz (zs.take j)).length ≤ (zs.take j).length := List.length_filter_le _ _
  have h2 : (zs.take j).length ≤ j := by simp; omega
  omega
theorem lay_len {zs : List Int} {j : Nat} (h : j ≤ zs.length) : (lay zs j).length = zs.length := by
  have := nz_le zs j
  simp [lay]
  omega
theorem lay_at {zs : List Int} {j : Nat} : (lay zs j)[j]? = zs[j]? := by
  have h1 := nz_le zs j
  unfold lay
  rw [List.getElem?_append_right h1, List.getElem?_drop]
  congr 1
  omega
theorem nz_succ {zs : List Int} {j : Nat} {z : Int} (h : zs[j]? = some z) : nz (zs.take (j + 1)) = nz (zs.take j) ++ (if z = 0 then [] else [z]) := by
  have hj := (List.getElem?_eq_some_iff.1 h).1
  have hz : zs[j] = z := (List.getElem?_eq_some_iff.1 h).2
  unfold nz
  rw [List.take_succ_eq_append_getElem hj, List.filter_append, hz]
  by_cases h0 : z = 0 <;> simp [h0]
theorem lay_skip {zs : List Int} {j : Nat} (h : zs[j]? = some 0) : lay zs (j + 1) = lay zs j := by
  unfold lay
  rw [nz_succ h]
  simp
theorem lay_put {zs : List Int} {j : Nat} {z : Int} (h : zs[j]? = some z) (hz : z ≠ 0) : (lay zs j).set (nz (zs.take j)).length z = lay zs (j + 1) := by
  have hj := (List.getElem?_eq_some_iff.1 h).1
  have h1 := nz_le zs j
  unfold lay
  rw [nz_succ h, if_neg hz, List.set_append_right _ _ (Nat.le_refl _), Nat.sub_self]
  obtain ⟨y, ys, hy⟩ : ∃ y ys, zs.drop (nz (zs.take j)).length = y :: ys := by
    cases hd : zs.drop (nz (zs.take j)).length with
    | nil => have := congrArg List.length hd; simp at this; omega
    | cons y ys => exact ⟨y, ys, rfl⟩
  rw [hy]
  have h2 : zs.drop ((nz (zs.take j)).length + 1) = ys := by
    rw [← List.drop_drop, hy]; rfl
  simp [h2]
theorem nz_self {zs : List Int} (h : ∀ z ∈ zs, z ≠ 0) : nz zs = zs := by
  unfold nz
  exact List.filter_eq_self.2 (fun z hz => by simpa using h z hz)

/-! ### Rows of the call's own -/
theorem own_prefix {s : Nat} {w : World} {e : TypeId} {g n cap : Nat} {xs : List Value} (h : w.ownsRow s e 1 (.slice (some ⟨g, 0, none⟩) n cap) n xs) {k : Nat} (hk : k ≤ n) : w.ownsRow s e 1 (.slice (some ⟨g, 0, none⟩) k cap) k (xs.take k) := by
  obtain ⟨hl, hf⟩ := h
  rcases hf with ⟨h, _⟩ | ⟨g', cap', cur, hv, hb, hg, hn, hm, hs, hc⟩
  · cases h
  · cases hv
    refine ⟨by simp at hl ⊢; omega, .inr ⟨g, cap, cur, rfl, hb, hg, by omega, hm, hs, ?_⟩⟩
    rw [← hc, List.take_take]
    congr 1
    omega
theorem own_past {w : World} {e : TypeId} {g n cap : Nat} {xs : List Value} (h : w.ownsRow 0 e 1 (.slice (some ⟨g, 0, none⟩) n cap) n xs) {j : Nat} (hj : n ≤ j) (u : Value) : (w.setCell ⟨g, j, none⟩ u).ownsRow 0 e 1 (.slice (some ⟨g, 0, none⟩) n cap) n xs := by
  have h1 := own_set h j u
  have hl : xs.length = n := by simpa using h.1
  rwa [List.set_eq_of_length_le (by omega)] at h1
theorem own_pasts {e : TypeId} {g n cap : Nat} {xs : List Value} : ∀ (us : List Value) {w : World} {j : Nat}, w.ownsRow 0 e 1 (.slice (some ⟨g, 0, none⟩) n cap) n xs → n ≤ j → (w.setCells g j us).ownsRow 0 e 1 (.slice (some ⟨g, 0, none⟩) n cap) n xs
  | [], _, _, h, _ => h
  | u :: us, w, j, h, hj => by
    simp only [World.setCells]
    exact own_pasts us (own_past h hj u) (by omega)
theorem keep_sets {S : Nat → Prop} {w0 : World} {g : Nat} (hg : S g) : ∀ (us : List Value) {w : World} {j : Nat}, Keep S w0 w → Keep S w0 (w.setCells g j us)
  | [], _, _, h => h
  | u :: us, w, j, h => by
    simp only [World.setCells]
    exact keep_sets hg us (h.puts hg j u)

/-! ### The walks -/
set_option maxRecDepth 4000 in
theorem isZero_any (x : Int) (w : World) : Calls Tryd.prog 80 #[.int .i64 x] w fun e w' => e = .returned (.bool (x == 0)) ∧ w = w' := by
  go_enter Tryd.func80, Tryd.ntmps80
  go_wp2_with fail
  go_ret
  exact ⟨rfl, rfl⟩

/-- The predicate, as a value. -/
abbrev zeroF : Value := .func (.func 80) #[] #[]

set_option maxRecDepth 4000 in
set_option maxHeartbeats 1000000 in
theorem index_any (a : Option Addr) (n c : Nat) (zs : List Int) (w : World) (h : IntCells .i64 w a n zs) (hn : n ≤ 1000000) : Calls Tryd.prog 89 #[.slice a n c, zeroF] w fun e w' =>
    ∃ i : Int, e = .returned (.int .i64 i) ∧ w' = w ∧ ((i = -1 ∧ ∀ z ∈ zs, z ≠ 0) ∨ ∃ k : Nat, i = k ∧ zs[k]? = some 0 ∧ ∀ z ∈ zs.take k, z ≠ 0) := by
  have HZ := Lib.hid (fun x => isZero_any x w)
  have HL : Hid (zs.length = n) := h.len
  go_enter Tryd.func89, Tryd.ntmps89
  go_wp2_with fail
  go_loopg [8] n (fun g i wr => ∃ k : Nat, g + k = n ∧ i = .int .i64 k ∧ Hid (∀ z ∈ zs.take k, z ≠ 0) ∧ w = wr)
  case atStart => exact ⟨0, by omega, rfl, fun z hz => by simp at hz, rfl⟩
  case round =>
    obtain ⟨k, hg, rfl, HN, rfl⟩ := hrel
    by_cases hlt : k < n
    · obtain ⟨b, off, rfl, hc⟩ := h.at_ (by omega)
      have hck := hc k hlt
      have hzk : zs[k]? = some (zs.getD k 0) := by
        have hl := HL.out
        rw [List.getD_eq_getElem?_getD, List.getElem?_eq_getElem (by omega)]; rfl
      have HZK := Lib.hid hzk
      have hltI : (k : Int) < (n : Int) := by omega
      have hk0 : (0 : Int) ≤ (k : Int) := by omega
      clear hzk hc
      obtain ⟨x, hx⟩ : ∃ x, x = zs.getD k 0 := ⟨_, rfl⟩
      rw [← hx] at hck HZK
      clear hx
      by_cases h0 : x = 0
      · subst h0
        go_wp2_with fail
        refine (HZ.out 0).mono ?_
        rintro e w1 ⟨rfl, rfl⟩
        go_wp2_with fail
        go_ret
        exact ⟨_, rfl, rfl, .inr ⟨k, rfl, HZK.out, HN.out⟩⟩
      · have hx0 : (x == 0) = false := by simpa using h0
        have HX := Lib.hid h0
        go_wp2_with fail
        refine (HZ.out x).mono ?_
        rintro e w1 ⟨rfl, rfl⟩
        go_wp2_with fail
        go_roundg (gk - 1)
        case measure => omega
        case rel =>
          refine ⟨k + 1, by omega, by go_num, ?_, rfl⟩
          intro z hz
          have hkl := (List.getElem?_eq_some_iff.1 HZK.out).1
          have hke : zs[k] = x := (List.getElem?_eq_some_iff.1 HZK.out).2
          rw [List.take_succ_eq_append_getElem hkl, hke] at hz
          rcases List.mem_append.1 hz with hz | hz
          · exact HN.out z hz
          · simp at hz; rw [hz]; exact HX.out
    · obtain rfl : n = k := by omega
      go_wp2_with fail
      go_ret
      refine ⟨_, rfl, rfl, .inl ⟨rfl, fun z hz => HN.out z ?_⟩⟩
      rwa [List.take_of_length_le (by rw [HL.out]; exact Nat.le_refl _)]

set_option maxRecDepth 4000 in
set_option maxHeartbeats 4000000 in
theorem delete_any (a : Option Addr) (n c : Nat) (zs : List Int) (w : World) (h : w.ownsRow 0 3 1 (.slice a n c) n (zs.map (Value.int .i64))) (hn : n ≤ 1000000) : Calls Tryd.prog 79 #[.slice a n c, zeroF] w fun e w' =>
    e = .returned (.slice a (nz zs).length c) ∧ w'.ownsRow 0 3 1 (.slice a (nz zs).length c) (nz zs).length ((nz zs).map (Value.int .i64)) ∧ Keep (fun k => (Value.slice a n c).ownBlock = some k) w w' := by
  obtain ⟨a', c', e, hl, hnc, hnil, hcell⟩ := own_form h
  cases e
  have hzl : zs.length = n := by simpa using hl
  have HI : Hid (IntCells .i64 w a n zs) := by
    refine ⟨hzl, fun h0 => ?_⟩
    obtain ⟨z, hz⟩ : ∃ z, zs[0]? = some z := ⟨_, List.getElem?_eq_getElem (by omega)⟩
    obtain ⟨g, rfl, _⟩ := hcell 0 (.int .i64 z) (by simp [hz])
    refine ⟨g, 0, rfl, fun j hj => ?_⟩
    have hj2 : zs[j]? = some (zs.getD j 0) := by rw [List.getD_eq_getElem?_getD, List.getElem?_eq_getElem (by omega)]; rfl
    obtain ⟨g', e, h3, _⟩ := hcell j (.int .i64 (zs.getD j 0)) (by rw [List.getElem?_map, hj2]; rfl)
    injection e with e
    injection e with e
    subst e
    simpa using h3
  have HO := Lib.hid h
  have HZL := Lib.hid hzl
  have HX := Lib.hid (index_any a n c zs w HI.out hn)
  clear h hl hcell HI hnil hzl
  go_enter Tryd.func79, Tryd.ntmps79
  go_wp2_with fail
  refine HX.out.mono ?_
  rintro e w1 ⟨i, rfl, rfl, hi⟩
  rcases hi with ⟨rfl, hno⟩ | ⟨i0, rfl, hi0, hno⟩
  · have HE : Hid (nz zs = zs) := nz_self hno
    clear hno
    go_wp2_with fail
    go_ret
    refine ⟨?_, ?_, Keep.refl _ _⟩
    · rw [HE.out, HZL.out]; rfl
    · rw [HE.out, HZL.out]; exact HO.out
  · have hi0l := (List.getElem?_eq_some_iff.1 hi0).1
    obtain ⟨g, rfl⟩ : ∃ g, a = some ⟨g, 0, none⟩ := by
      obtain ⟨a', c', e, hl, hnc, hnil, hcell⟩ := own_form HO.out
      cases e
      obtain ⟨g, rfl, _⟩ := hcell i0 (.int .i64 0) (by rw [List.getElem?_map, hi0]; rfl)
      exact ⟨g, rfl⟩
    have hin : i0 < n := by rw [← HZL.out]; exact hi0l
    have e0 : nz (zs.take i0) = zs.take i0 := nz_self hno
    have e1 : nz (zs.take (i0 + 1)) = zs.take i0 := by rw [nz_succ hi0, e0]; simp
    have e1l : (nz (zs.take (i0 + 1))).length = i0 := by rw [e1]; simp; omega
    have e2 : lay zs (i0 + 1) = zs := by
      unfold lay
      rw [e1l, e1, List.take_append_drop]
    have HB : Hid (w1.ownsRow 0 3 1 (.slice (some ⟨g, 0, none⟩) n c) n ((lay zs (i0 + 1)).map (Value.int .i64))) := by rw [e2]; exact HO.out
    have H1 := Lib.hid e1l
    have HZ := Lib.hid (fun x w => isZero_any x w)
    have hi1 : (((i0 : Nat) : Int) == -1) = false := by simp
    clear e0 e1 e2 hi0 hno hi0l e1l HO HX
    go_wp2_with fail
    go_loopg [5, 6] (n - (i0 + 1)) (fun gq i j wr => ∃ q p : Nat, gq + q = n ∧ j = .int .i64 q ∧ i = .int .i64 p ∧ p < q ∧ Hid ((nz (zs.take q)).length = p) ∧ Hid (wr.ownsRow 0 3 1 (.slice (some ⟨g, 0, none⟩) n c) n ((lay zs q).map (Value.int .i64))) ∧ Hid (Keep (only g) w1 wr))
    case atStart => exact ⟨i0 + 1, i0, by omega, by go_num, rfl, by omega, H1, HB, Keep.refl _ _⟩
    case round =>
      clear HB H1
      obtain ⟨q, p, hg, rfl, rfl, hpq, HP, HB, HK⟩ := hrel
      by_cases hlt : q < n
      · obtain ⟨x, hx⟩ : ∃ x, zs[q]? = some x := ⟨_, List.getElem?_eq_getElem (by rw [HZL.out]; exact hlt)⟩
        have hcq : wr.cell? ⟨g, q, none⟩ = some (.int .i64 x) := by
          obtain ⟨a', c', e, hl, hnc, hnil, hcell⟩ := own_form HB.out
          cases e
          obtain ⟨g', e, h3, _⟩ := hcell q (.int .i64 x) (by rw [List.getElem?_map, lay_at, hx]; rfl)
          cases e
          exact h3
        have hcp : (∃ v, wr.cell? ⟨g, p, none⟩ = some v) ∧ wr.frozen? ⟨g, p, none⟩ = false := by
          obtain ⟨a', c', e, hl, hnc, hnil, hcell⟩ := own_form HB.out
          cases e
          obtain ⟨v, hv⟩ : ∃ v, ((lay zs q).map (Value.int .i64))[p]? = some v := ⟨_, List.getElem?_eq_getElem (by rw [hl]; omega)⟩
          obtain ⟨g', e, h3, h4⟩ := hcell p v hv
          cases e
          exact ⟨⟨v, h3⟩, h4⟩
        obtain ⟨⟨vp, hvp⟩, hfp⟩ := hcp
        have HXQ := Lib.hid hx
        clear hx
        have hltI : (q : Int) < (n : Int) := by omega
        have hq0 : (0 : Int) ≤ (q : Int) := by omega
        have hpI : (p : Int) < (n : Int) := by omega
        have hp0 : (0 : Int) ≤ (p : Int) := by omega
        by_cases h0 : x = 0
        · subst h0
          go_wp2_with fail
          refine (HZ.out 0 _).mono ?_
          rintro e w2 ⟨rfl, rfl⟩
          go_wp2_with fail
          go_roundg (gk - 1)
          case measure => omega
          case rel => exact ⟨q + 1, p, by omega, by go_num, rfl, by omega, by have := HP.out; unfold Hid; rw [nz_succ HXQ.out]; simpa using this, by rw [lay_skip HXQ.out]; exact HB.out, HK⟩
        · have hx0 : (x == 0) = false := by simpa using h0
          have HX0 := Lib.hid h0
          clear h0
          go_wp2_with fail
          refine (HZ.out x _).mono ?_
          rintro e w2 ⟨rfl, rfl⟩
          go_wp2_with fail
          go_roundg (gk - 1)
          case measure => omega
          case rel =>
            refine ⟨q + 1, p + 1, by omega, by go_num, by go_num, by omega, ?_, ?_, ?_⟩
            · rw [nz_succ HXQ.out, if_neg HX0.out]
              have := HP.out
              simp [Hid, this]
            · have h1 := own_set HB.out p (.int .i64 x)
              rw [← List.map_set, ← HP.out, lay_put HXQ.out HX0.out, HP.out] at h1
              exact h1
            · exact HK.out.put p _
      · obtain ⟨-, rfl⟩ : q ≤ n ∧ n = q := ⟨by omega, by omega⟩
        have e3 : nz (zs.take n) = nz zs := by rw [List.take_of_length_le (by rw [HZL.out]; exact Nat.le_refl _)]
        have hp := HP.out
        rw [e3] at hp
        have HP' := Lib.hid hp
        have hb := own_prefix HB.out (k := p) (by omega)
        have e4 : (((lay zs n).map (Value.int .i64)).take p) = (nz zs).map (Value.int .i64) := by
          rw [← List.map_take]
          congr 1
          unfold lay
          rw [e3, ← hp, List.take_left]
        rw [e4] at hb
        have HB' := Lib.hid hb
        have hn2 : n ≤ c := by obtain ⟨a', c', e, hl, hnc, hnil, hcell⟩ := own_form HB.out; cases e; exact hnc
        have hcl : ∀ ty, (Builtin.clear_ #[39] ty #[.slice (some ⟨g, p, none⟩) (n - p) (c - p)]).run Tryd.prog wr = .ok (.tuple #[]) (wr.setCells g p (List.replicate (n - p) (.int .i64 0))) := by
          intro ty
          have hcell : ∀ j, j < n - p → (wr.cell? ⟨g, p + j, none⟩).isSome = true ∧ wr.frozen? ⟨g, p + j, none⟩ = false := by
            obtain ⟨a', c', e, hl, hnc, hnil, hcell⟩ := own_form HB.out
            cases e
            intro j hj
            obtain ⟨v, hv⟩ : ∃ v, ((lay zs n).map (Value.int .i64))[p + j]? = some v := ⟨_, List.getElem?_eq_getElem (by rw [hl]; omega)⟩
            obtain ⟨g', e, h3, h4⟩ := hcell (p + j) v hv
            cases e
            exact ⟨by rw [h3]; rfl, h4⟩
          exact Lib.run_clear_slice wr _ _ ty _ Tryd.underlying39 (fun w => by first | exact Tryd.zeroValue3 w | rfl | simp [zeroValue]) rfl rfl g p _ _ (by omega) (fun j hj => (hcell j hj).1) (fun j hj => (hcell j hj).2)
        clear hp hb e3 e4
        go_wp2_with fail
        go_ret
        refine ⟨by rw [HP'.out]; rfl, ?_, ?_⟩
        · rw [HP'.out]
          exact own_pasts _ HB'.out (Nat.le_refl _)
        · exact keep_sets (by rfl) _ (HK.out.mono (fun i hi h => by unfold only at h; subst h; rfl))
end Go.Proofs.YtdplakfmdkjfdaaDoor
