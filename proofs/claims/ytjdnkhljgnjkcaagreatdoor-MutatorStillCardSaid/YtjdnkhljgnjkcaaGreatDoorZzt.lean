/- Parts of a walk, put together by a small program of mine from texts of their own: SwpX SwpY MutS6. -/
import Derived.Test.YtjdnkhljgnjkcaaGreatDoorZzk
import Derived.Test.YtjdnkhljgnjkcaaGreatDoorZzn
import Derived.Test.YtjdnkhljgnjkcaaGreatDoorZzh
import Derived.Test.YtjdnkhljgnjkcaaGreatDoorZzo
import Derived.Deep.RegionHeld3
import Derived.Test.YtjdnkhljgnjkcaaGreatDoorZzs
/- A table's copy; a cursor that sweeps a block. -/
namespace Go.Proofs.YtjdnkhljgnjkcaaGreatDoor
open Go.RowKit
attribute [local go_sem] Oper.semAt_some

section
variable {w w' : World} {R X cap : Nat} {c : Conf} {K : List Nat}
/-- A table, of any capacity. -/
structure TabC (w : World) (R X cap : Nat) (c : Conf) (K : List Nat) : Prop where
  blk : Blk w R (c.cells ++ [.slice (some ⟨X, 0, none⟩) K.length cap]) 174
  cls : ∃ cur : List Value, Blk w X cur 3 ∧ ∀ (j : Nat) (u : Value), (tabV K)[j]? = some u → cur[j]? = some u
  len : c.b = (K.length : Int)
  ok : c.ok = true
  cap : K.length ≤ cap
theorem TabC.small (h : TabC w R X cap c K) : 1 ≤ K.length ∧ K.length ≤ 4096 := by
  have h1 := (ok_bounds h.ok).1
  have h2 := h.len
  omega
set_option maxRecDepth 4000 in
set_option maxHeartbeats 1000000 in
theorem tClass_c (h : TabC w R X cap c K) (B k : Nat) (hB : B < K.length) (hk : K.getD B 0 = k + 1) (h4 : k < 4) : Calls Tryz.prog 121 #[.pointer (some ⟨R, 0, none⟩), .int .i64 (B : Int)] w fun e w' => e = .returned (.tuple #[.int .i64 (k : Int), .bool true]) ∧ w = w' := by
  have hb := h.blk
  obtain ⟨c0, c1, c2, c3, c4, c5, c6⟩ := c
  simp only [Conf.cells, List.cons_append, List.nil_append] at hb
  have y7 := hb.cell 7 rfl
  obtain ⟨cur, hcu, hcv⟩ := h.cls
  have z := hcu.cell B (hcv _ _ (tabV_at hB))
  rw [hk] at z
  have hs := h.small
  have hcap := h.cap
  have d1 : decide ((K.length : Int) ≤ (B : Int)) = false := decide_eq_false (by omega)
  have d2 : ((((k + 1 : Nat) : Int)) == 0) = false := by simp; omega
  have d3 : IntKind.i64.wrap ((((k + 1 : Nat) : Int)) - 1) = (k : Int) := by rw [IntWalk.i64_in _ (by omega)]; omega
  obtain ⟨q, hq⟩ : ∃ q : Int, q = ((k + 1 : Nat) : Int) := ⟨_, rfl⟩
  rw [← hq] at z d2 d3
  have hBI : (B : Int) < (K.length : Int) := by omega
  have h0I : (0 : Int) ≤ (B : Int) := by omega
  generalize K.length = L at *
  clear h hb hk hs hq hB
  go_enter Tryz.func121, Tryz.ntmps121
  go_wp2_with fail
  go_ret2
  exact ⟨rfl, rfl⟩
set_option maxRecDepth 4000 in
set_option maxHeartbeats 1000000 in
theorem tSlots_c (h : TabC w R X cap c K) (ww B k : Nat) (hw : c.w = ww) (hB : B < K.length) (hk : K.getD B 0 = k + 1) (h4 : k < 4) (hT : Tabs w) (hS : Sizes w) : Calls Tryz.prog 84 #[.pointer (some ⟨R, 0, none⟩), .int .i64 (B : Int)] w fun e w' => ∃ v, e = .returned v ∧ w'.ownsRow w.heap.size 3 1 v (ww / 2 ^ (k + 1)) ((slotsL (ww / 2 ^ (k + 1)) (2 ^ (k + 1)) (B * ww)).map fun x : Nat => .int .i64 (x : Int)) ∧ Keep none_ w w' := by
  have HA := Lib.hid (adSlots_in h.ok h.len hw k B h4 hB w hT hS)
  have HCL := Lib.hid (tClass_c h B k hB hk h4)
  have hb := h.blk
  obtain ⟨c0, c1, c2, c3, c4, c5, c6⟩ := c
  simp only [Conf.cells, List.cons_append, List.nil_append] at *
  have y0 := hb.cell 0 rfl; have y1 := hb.cell 1 rfl; have y2 := hb.cell 2 rfl; have y3 := hb.cell 3 rfl; have y4 := hb.cell 4 rfl; have y5 := hb.cell 5 rfl; have y6 := hb.cell 6 rfl
  generalize slotsL (ww / 2 ^ (k + 1)) (2 ^ (k + 1)) (B * ww) = sl at *
  generalize ww / 2 ^ (k + 1) = per at *
  clear h hb hB hk h4 hT hS hw
  go_enter Tryz.func84, Tryz.ntmps84
  go_wp2_with (first
    | (go_at_call 121; refine HCL.out.mono ?_; rintro e w1 ⟨rfl, rfl⟩)
    | (go_at_call 122; refine HA.out.mono ?_; rintro e w1 ⟨v, rfl, ho, hk1⟩; have HO := Lib.hid ho; have HKK := Lib.hid hk1; clear ho hk1))
  go_ret
  exact ⟨_, rfl, HO.out, HKK.out⟩
set_option maxRecDepth 10000 in
set_option maxHeartbeats 1000000 in
theorem tCopy_any (h : TableAt w R X c K) : Calls Tryz.prog 75 #[.pointer (some ⟨R, 0, none⟩)] w fun e w' => ∃ R' X' cap, e = .returned (.pointer (some ⟨R', 0, none⟩)) ∧ TabC w' R' X' cap c K ∧ Keep none_ w w' := by
  have hb := h.blk
  have hlen := h.small
  have HC := Lib.hid (cloneI_cells (some ⟨X, 0, none⟩) K.length K.length (tabV K) w.drew ⟨by simp [tabV], fun _ => ⟨X, 0, rfl, fun j u hj => by
    rw [Nat.zero_add]
    exact ((Keep.refl none_ w).drew.blk h.cls (fun f => f)).cell j hj⟩⟩ (fun e => by cases e) (by omega) (fun u hu => by obtain ⟨z, _, rfl⟩ := List.mem_map.1 hu; rfl))
  have H := Lib.hid h
  have HL1 : Hid (1 ≤ K.length) := hlen.1
  obtain ⟨c0, c1, c2, c3, c4, c5, c6⟩ := c
  simp only [Conf.cells, List.cons_append, List.nil_append] at hb
  have y0 := hb.cell 0 rfl; have y1 := hb.cell 1 rfl; have y2 := hb.cell 2 rfl; have y3 := hb.cell 3 rfl; have y4 := hb.cell 4 rfl; have y5 := hb.cell 5 rfl; have y6 := hb.cell 6 rfl; have y7 := hb.cell 7 rfl
  generalize hKL : K.length = kl at *
  have HKL := Lib.hid hKL
  clear h hb hlen hKL
  go_enter Tryz.func75, Tryz.ntmps75
  go_wp2_with fail
  go_region_held3 (fun w' => w'.cell? ⟨R, 0, none⟩ = some (.int .i64 c0) ∧ w'.cell? ⟨R, 1, none⟩ = some (.int .i64 c1) ∧ w'.cell? ⟨R, 2, none⟩ = some (.int .i64 c2) ∧ w'.cell? ⟨R, 3, none⟩ = some (.int .i64 c3) ∧ w'.cell? ⟨R, 4, none⟩ = some (.int .i64 c4) ∧ w'.cell? ⟨R, 5, none⟩ = some (.int .i64 c5) ∧ w'.cell? ⟨R, 6, none⟩ = some (.int .i64 c6) ∧ w'.cell? ⟨R, 7, none⟩ = some (.slice (some ⟨X, 0, none⟩) kl kl))
    (first | exact ⟨y0, y1, y2, y3, y4, y5, y6, y7⟩ | exact ⟨HK1.out.still y0, HK1.out.still y1, HK1.out.still y2, HK1.out.still y3, HK1.out.still y4, HK1.out.still y5, HK1.out.still y6, HK1.out.still y7⟩ | exact ⟨(HK1.out.alloc _).still y0, (HK1.out.alloc _).still y1, (HK1.out.alloc _).still y2, (HK1.out.alloc _).still y3, (HK1.out.alloc _).still y4, (HK1.out.alloc _).still y5, (HK1.out.alloc _).still y6, (HK1.out.alloc _).still y7⟩ | fail "SFAIL")
    ((go_at_call 55
      refine HC.out.mono ?_
      rintro e w1 ⟨v, rfl, hown, hk1⟩
      obtain ⟨g, cp, rfl, hge⟩ := own_some hown HL1.out
      have HGE := Lib.hid hge
      have HOWN := Lib.hid hown
      have HK1 := Lib.hid ((Keep.refl none_ w).drew.trans hk1)
      clear hown hk1 hge))
  obtain ⟨W2, hW2⟩ : ∃ W', W' = w1.alloc (.cells #[.int .i64 c0, .int .i64 c1, .int .i64 c2, .int .i64 c3, .int .i64 c4, .int .i64 c5, .int .i64 c6, .slice (some ⟨g, 0, none⟩) kl cp] 174) := ⟨_, rfl⟩
  rw [← hW2]
  go_wp2_with fail
  go_ret
  have hk2 : Keep none_ w1 W2 := by rw [hW2]; exact (Keep.refl _ _).alloc _
  rcases HOWN.out.2 with ⟨h, _⟩ | ⟨g', cap', cur, hv, hb, hg, hn, hm, hs, hc⟩
  · cases h
  · cases hv
    refine ⟨w1.heap.size, g, cp, rfl, ⟨?_, ?_, H.out.len, H.out.ok, ?_⟩, HK1.out.trans hk2⟩
    · rw [hW2, HKL.out]; exact Blk.new w1 _ _
    · refine ⟨cur.toList, hk2.blk (by unfold Blk; simpa using hg) (fun f => f), fun i v hi => ?_⟩
      rw [← hc] at hi
      have hl := (List.getElem?_eq_some_iff.1 hi).1
      rw [List.getElem?_take_of_lt (by simp at hl; omega)] at hi
      exact hi
    · rw [HKL.out]; exact hn
end
section
variable {w w' : World} {D : Nat → Nat} {H : HS}
set_option maxRecDepth 4000 in
set_option maxHeartbeats 1000000 in
theorem hTable_any (h : HeapAt w D H) : Calls Tryz.prog 35 #[.pointer (some ⟨D 0, 0, none⟩)] w fun e w' => ∃ R' X' cap, e = .returned (.pointer (some ⟨R', 0, none⟩)) ∧ TabC w' R' X' cap H.c H.K ∧ Keep none_ w w' := by
  have y1 := h.blk.cell 1 rfl
  have HC : Hid (Calls Tryz.prog 75 #[.pointer (some ⟨D 3, 0, none⟩)] w fun e w' => ∃ R' X' cap, e = .returned (.pointer (some ⟨R', 0, none⟩)) ∧ TabC w' R' X' cap H.c H.K ∧ Keep none_ w w') := tCopy_any h.table
  clear h
  go_enter Tryz.func35, Tryz.ntmps35
  go_wp2_with fail
  refine HC.out.mono ?_
  rintro e w1 ⟨R', X', cap, rfl, h1, k1⟩
  have H1 := Lib.hid h1
  have K1 := Lib.hid k1
  clear h1 k1
  go_wp2_with fail
  go_ret
  exact ⟨_, _, _, rfl, H1.out, K1.out⟩
set_option maxRecDepth 4000 in
theorem swColor_any (c : Nat) (hc : c < 2) (w : World) : Calls Tryz.prog 232 #[.int .i64 (c : Int)] w fun e w' => e = .returned (.bool true) ∧ w = w' := by
  have : c = 0 ∨ c = 1 := by omega
  rcases this with rfl | rfl
  all_goals
    clear hc
    go_enter Tryz.func232, Tryz.ntmps232
    go_wp2_with fail
    go_ret
    exact ⟨rfl, rfl⟩
set_option maxRecDepth 4000 in
set_option maxHeartbeats 1000000 in
/-- A cursor at an assigned block's first slot. -/
theorem swNew_ok (h : HeapAt w D H) (B c : Nat) (hB : H.K.getD B 0 ≠ 0) (hc : c < 2) : Calls Tryz.prog 229 #[.pointer (some ⟨D 0, 0, none⟩), .int .i64 (B : Int), .int .i64 (c : Int)] w fun e w' => ∃ W g n cp, e = .returned (.tuple #[ptrV W.heap.size, .int .i64 0]) ∧ Keep none_ w W ∧ W.ownsRow w.heap.size 3 1 (.slice (some ⟨g, 0, none⟩) n cp) n (tabV (H.slots B)) ∧ n ≤ 256 ∧ Keep none_ W w' ∧ Blk w' W.heap.size [ptrV (D 0), .slice (some ⟨g, 0, none⟩) n cp, .int .i64 (B : Int), .int .i64 (c : Int)] 244 := by
  have HT := Lib.hid (hTable_any h)
  have hBl : B < H.K.length := by
    rcases Nat.lt_or_ge B H.K.length with g | g
    · exact g
    · rw [List.getD_eq_getElem?_getD, List.getElem?_eq_none g] at hB
      simp at hB
  have hk4 : H.K.getD B 0 ≤ 4 := by
    rw [List.getD_eq_getElem?_getD, List.getElem?_eq_getElem hBl]
    exact h.table.le _ (List.getElem_mem hBl)
  have hn := ok_nat h.table.ok h.table.len h.cw
  have hpos : 0 < H.ww / 2 ^ (H.K.getD B 0) := by
    have h2 : 2 ^ (H.K.getD B 0) ≤ 16 := Nat.pow_le_pow_right (by decide) hk4
    exact Nat.div_pos (by omega) (Nat.two_pow_pos _)
  have hle : H.ww / 2 ^ (H.K.getD B 0) ≤ 256 := Nat.le_trans (Nat.div_le_self _ _) hn.2.2.2.1
  have HS : Hid (∀ w1 R X cap, TabC w1 R X cap H.c H.K → Keep none_ w w1 → Calls Tryz.prog 84 #[.pointer (some ⟨R, 0, none⟩), .int .i64 (B : Int)] w1 fun e w' => ∃ g cp n, e = .returned (.slice (some ⟨g, 0, none⟩) n cp) ∧ n = (H.slots B).length ∧ 1 ≤ n ∧ n ≤ 256 ∧ w'.ownsRow w.heap.size 3 1 (.slice (some ⟨g, 0, none⟩) n cp) n (tabV (H.slots B)) ∧ Keep none_ w w') := fun w1 R X cap ht k1 => by
    have h1 := tSlots_c ht H.ww B (H.K.getD B 0 - 1) h.cw hBl (by omega) (by omega) (h.tabs.keep k1) (h.sizes.keep k1)
    rw [show H.K.getD B 0 - 1 + 1 = H.K.getD B 0 by omega] at h1
    refine h1.mono ?_
    rintro e w2 ⟨v, rfl, ho, k2⟩
    have e1 : H.slots B = slotsL (H.ww / 2 ^ (H.K.getD B 0)) (2 ^ (H.K.getD B 0)) (B * H.ww) := by unfold HS.slots; rw [if_neg hB]
    obtain ⟨g, cp, rfl, _⟩ := own_some ho hpos
    exact ⟨g, cp, _, rfl, by rw [e1, slotsL_len], hpos, hle, by rw [e1]; exact own_low ho k1.size, k1.trans k2⟩
  have hcc := hc
  clear h hB hBl hk4 hn hpos hle
  generalize H.slots B = sl at *
  go_enter Tryz.func229, Tryz.ntmps229
  go_wp2_with fail
  refine HT.out.mono ?_
  rintro e w1 ⟨R', X', cap, rfl, h1, k1⟩
  have HS1 := Lib.hid (HS.out _ _ _ _ h1 k1)
  clear h1 k1 HT
  go_wp2_with fail
  refine HS1.out.mono ?_
  rintro e w2 ⟨g, cp, n, rfl, hn, hn1, hn2, ho, k2⟩
  have HO := Lib.hid ho
  have K2 := Lib.hid k2
  have HN := Lib.hid hn
  have d0 : ((n : Int) == 0) = false := by simp; omega
  clear ho k2 HS1 HS hn hn1
  go_wp2_with (go_at_call 232; refine (swColor_any c hcc _).mono ?_; rintro e w3 ⟨rfl, rfl⟩)
  obtain ⟨W3, hW3⟩ : ∃ W', W' = w2.alloc (.cells #[ptrV (D 0), .slice (some ⟨g, 0, none⟩) n cp, .int .i64 (B : Int), .int .i64 (c : Int)] 244) := ⟨_, rfl⟩
  rw [← hW3]
  go_ret2
  have k3 : Keep none_ w2 W3 := by rw [hW3]; exact (Keep.refl _ _).alloc _
  have hb : Blk W3 w2.heap.size [ptrV (D 0), .slice (some ⟨g, 0, none⟩) n cp, .int .i64 (B : Int), .int .i64 (c : Int)] 244 := by rw [hW3]; exact Blk.new w2 _ _
  exact ⟨w2, g, n, cp, rfl, K2.out, HO.out, hn2, k3, hb⟩
end
end Go.Proofs.YtjdnkhljgnjkcaaGreatDoor

/- A cursor: what is left, its next step. -/
namespace Go.Proofs.YtjdnkhljgnjkcaaGreatDoor
open Go.RowKit
attribute [local go_sem] Oper.semAt_some

section
variable {o : Ow} {w w' : World} {G : Geo} {s : Sh} {q : Nat} {v : Value} {sl : List Nat} {c : Nat}
theorem CurAt.form (h : CurAt o w (G.D 0) q v sl c) : (v = .pointer none ∧ sl = []) ∨ ∃ C b a cp, v = ptrV C ∧ o C = q ∧ Blk w C [ptrV (G.D 0), .slice a sl.length cp, .int .i64 (b : Int), .int .i64 (c : Int)] 244 ∧ RowO o w 3 (.slice a sl.length cp) (tabV sl) ∧ sl.length ≤ cp ∧ sl.length ≤ 4000000000000 := by
  rcases h with h | ⟨C, b, sv, h1, h2, h3, h4⟩
  · exact .inl h
  · obtain ⟨a, cp, rfl, hl, hm, _⟩ := h4.form
    rw [show (tabV sl).length = sl.length by simp [tabV]] at *
    exact .inr ⟨C, b, a, cp, h1, h2, h3, h4, hl, hm⟩
theorem CurAt.keepO {I : List Nat} {D0 : Nat} (h : CurAt o w D0 q v sl c) (k : Keep (In o I) w w') (h0 : I.contains 0 = false) (hq : I.contains q = false) : CurAt o w' D0 q v sl c := by
  rcases h with h | ⟨C, b, sv, h1, h2, h3, h4⟩
  · exact .inl h
  · exact .inr ⟨C, b, sv, h1, h2, h3.keepO k h2 hq, h4.keepO k h0⟩
theorem CurAt.still {D0 : Nat} (h : CurAt o w D0 q v sl c) (k : Keep none_ w w') : CurAt o w' D0 q v sl c := by
  rcases h with h | ⟨C, b, sv, h1, h2, h3, h4⟩
  · exact .inl h
  · exact .inr ⟨C, b, sv, h1, h2, k.blk h3 (fun f => f), h4.still k⟩
theorem CurAt.ext {o' : Ow} {D0 : Nat} (h : CurAt o w D0 q v sl c) (e : OExt w o o') : CurAt o' w D0 q v sl c := by
  rcases h with h | ⟨C, b, sv, h1, h2, h3, h4⟩
  · exact .inl h
  · exact .inr ⟨C, b, sv, h1, (e C h3.lt).trans h2, h3, h4.ext e⟩
set_option maxRecDepth 4000 in
theorem curLeft_any (h : CurAt o w (G.D 0) q v sl c) : Calls Tryz.prog 237 #[v] w fun e w' => e = .returned (.int .i64 (sl.length : Int)) ∧ w = w' := by
  rcases h.form with ⟨rfl, rfl⟩ | ⟨C, b, a, cp, rfl, _, h3, _, _, hm⟩
  · clear h
    go_enter Tryz.func237, Tryz.ntmps237
    go_wp2_with fail
    go_ret
    exact ⟨rfl, rfl⟩
  · have y1 := h3.cell 1 rfl
    clear h h3
    generalize sl.length = n at *
    go_enter Tryz.func237, Tryz.ntmps237
    go_wp2_with fail
    go_ret
    exact ⟨rfl, rfl⟩
set_option maxRecDepth 4000 in
theorem curDone_any (h : CurAt o w (G.D 0) q v sl c) : Calls Tryz.prog 234 #[v] w fun e w' => e = .returned (.bool (decide (sl = []))) ∧ w = w' := by
  have HL := Lib.hid (curLeft_any h)
  have HD : Hid ((((sl.length : Int)) == 0) = decide (sl = [])) := by
    unfold Hid
    cases sl with
    | nil => rfl
    | cons a r => simp; omega
  have hf : (v = .pointer none) ∨ ∃ C, v = ptrV C := by
    rcases h.form with ⟨h, _⟩ | ⟨C, _, _, _, h, _⟩
    · exact .inl h
    · exact .inr ⟨C, h⟩
  clear h
  generalize decide (sl = []) = b at *
  generalize sl.length = n at *
  rcases hf with rfl | ⟨C, rfl⟩
  all_goals
    go_enter Tryz.func234, Tryz.ntmps234
    go_wp2_with fail
    refine HL.out.mono ?_
    rintro e w1 ⟨rfl, rfl⟩
    have HDD := HD.out
    clear HL
    go_wp2_with fail
    go_ret
    exact ⟨rfl, rfl⟩
/-- What a turn frees. -/
def Sh.frees (s : Sh) (c a : Nat) : Bool := !(!s.H.bn a || s.H.colorP a == c)
theorem qside (hq : 20 ≤ q ∨ q = 5) : ([1, q] : List Nat).contains 0 = false ∧ ([1, q] : List Nat).contains 2 = false ∧ ([1, q] : List Nat).contains 3 = false ∧ ([1, q] : List Nat).contains 4 = false ∧ ([q] : List Nat).contains 0 = false ∧ ([q] : List Nat).contains 1 = false ∧ ∀ i, i < 8 → ([1, q] : List Nat).contains (10 + i) = false := by
  refine ⟨?_, ?_, ?_, ?_, ?_, ?_, fun i hi => ?_⟩ <;> simp <;> omega
set_option maxRecDepth 4000 in
set_option maxHeartbeats 4000000 in
theorem curStep_any {a : Nat} {r : List Nat} (h : ShAt o w G s) (hc : CurAt o w (G.D 0) q v (a :: r) c) (hq : 20 ≤ q ∨ q = 5) (h8 : s.boxes.length ≤ 8) : Calls Tryz.prog 236 #[v] w fun e w' => e = .returned (.tuple #[.int .i64 ((if s.frees c a then a else 0 : Nat) : Int), .bool (s.frees c a)]) ∧ ShAt o w' G { s with H := if s.frees c a then s.H.freeP a else s.H } ∧ CurAt o w' (G.D 0) q v r c ∧ Keep (In o [1, q]) w w' := by
  have HDn : Hid (Calls Tryz.prog 234 #[v] w fun e w' => e = .returned (.bool false) ∧ w = w') := curDone_any hc
  obtain ⟨q1, q2, q3, q4, q5, q6, q7⟩ := qside hq
  rcases hc.form with ⟨_, h1⟩ | ⟨C, b, a0, cp, rfl, oC, hb, hr, hl, hm⟩
  · cases h1
  simp only [List.length_cons] at hb hr hl hm
  have hcut := hr.cut 1 (by omega)
  rw [show (tabV (a :: r)).drop 1 = tabV r from rfl] at hcut
  obtain ⟨a', c', ee, _, _, hcell⟩ := hr.form
  simp only [Value.slice.injEq] at ee
  obtain ⟨e1, e9, e2⟩ := ee
  subst e1; subst e2
  obtain ⟨b', off', rfl, hx⟩ := hcell 0 (.int .i64 (a : Int)) rfl
  rw [Nat.add_zero] at hx
  clear e9
  have hcutr := fun w => run_cut (P := Tryz.prog) (T := 40) (e := 3) (by kernel_rfl) (by kernel_rfl) (some ⟨b', off', none⟩) (r.length + 1) cp 1 (by omega) w
  simp only [show (((1 : Nat)) : Int) = 1 from rfl] at hcutr
  have hpos : (0 : Int) < ((r.length + 1 : Nat) : Int) := by omega
  have y0 := hb.cell 0 rfl
  have y1 := hb.cell 1 rfl
  have f1 := hb.free 1
  generalize hL : r.length + 1 = L at *
  generalize hca : cutA (some ⟨b', off', none⟩) cp 1 = ca at *
  obtain ⟨W1, hW1⟩ : ∃ W1, W1 = w.setCell ⟨C, 1, none⟩ (.slice ca (L - 1) (cp - 1)) := ⟨_, rfl⟩
  have kC : Keep (only C) w W1 := by rw [hW1]; exact (Keep.refl (only C) _).put _ _
  have k1 : Keep (In o [q]) w W1 := kC.onlyO oC (by simp)
  have kk1 : Keep (In o [1, q]) w W1 := k1.moreO (by simp)
  have hb1 : Blk W1 C [ptrV (G.D 0), .slice ca (L - 1) (cp - 1), .int .i64 (b : Int), .int .i64 (c : Int)] 244 := by rw [hW1]; exact hb.set 1 _
  have hH1 := h.heapK k1 q5 q6
  have hr1 : RowO o W1 3 (.slice ca (L - 1) (cp - 1)) (tabV r) := hcut.keepO k1 q5
  have hcur1 : CurAt o W1 (G.D 0) q (ptrV C) r c := .inr ⟨C, b, _, rfl, oC, hb1, hr1⟩
  have z0 := hb1.cell 0 rfl
  have z3 := hb1.cell 3 rfl
  have HW := Lib.hid hW1
  have hSh : ∀ w' H, HeapAt w' G.D H → Keep (In o [1, q]) w w' → ShAt o w' G { s with H := H } := fun w' H hH k =>
    h.upd (s' := { s with H := H }) k q1 hH (h.board.keep k (not_in' h.oB q2)) (h.queue.keepO k q1 h.oQ q3) (h.flag.keepO k h.oF q4) rfl (h.boxK k q1 (fun i hi => q7 i (by omega)))
  have HCo := Lib.hid (hColor_any hH1 a)
  by_cases hf : s.frees c a = true
  · have hbn : s.H.bn a = true := by unfold Sh.frees at hf; cases h9 : s.H.bn a <;> simp_all
    have hne : s.H.colorP a ≠ c := fun e => by unfold Sh.frees at hf; simp [e] at hf
    have d1 : ((s.H.colorP a : Int) == (c : Int)) = false := by simp; omega
    have d1' : decide (s.H.colorP a = c) = false := decide_eq_false hne
    rw [if_pos hbn, if_pos hbn] at HCo
    rw [hf, if_pos rfl, if_pos rfl]
    have HFr : Hid (Calls Tryz.prog 238 #[.pointer (some ⟨G.D 0, 0, none⟩), .int .i64 (a : Int)] W1 fun e w' => (∃ er : Int, e = .returned (.int .i64 er)) ∧ ShAt o w' G { s with H := s.H.freeP a } ∧ CurAt o w' (G.D 0) q (ptrV C) r c ∧ Keep (In o [1, q]) w w') := by
      refine (hFree_any hH1 a).mono ?_
      rintro e w' ⟨⟨er, rfl⟩, g1, g2⟩
      have k2 : Keep (In o [1]) W1 w' := g2.mono (fun x _ hx => by
        obtain ⟨i, hi, e⟩ := hx
        unfold In
        rw [e, h.oD i hi]
        simp)
      have k3 : Keep (In o [1, q]) w w' := kk1.trans (k2.moreO (by simp))
      exact ⟨⟨_, rfl⟩, hSh w' _ g1 k3, hcur1.keepO k2 rfl (by simp; omega), k3⟩
    generalize s.H.colorP a = kc at *
    generalize { s with H := s.H.freeP a } = s' at *
    clear h hc hb hr hcut hcell kC k1 kk1 hb1 hH1 hr1 hcur1 hSh hbn hne hf hca hL hl hm hW1
    go_enter Tryz.func236, Tryz.ntmps236
    go_wp2_with fail
    refine HDn.out.mono ?_
    rintro e w2 ⟨rfl, rfl⟩
    clear HDn
    go_wp2_with fail
    rw [← HW.out]
    refine HCo.out.mono ?_
    rintro e w2 ⟨rfl, rfl⟩
    clear HCo
    go_wp2_with fail
    refine HFr.out.mono ?_
    rintro e w2 ⟨⟨er, rfl⟩, g1, g2, g3⟩
    have HX := Lib.hid (And.intro g1 (And.intro g2 g3))
    clear g1 g2 g3 y0 y1 f1 hx z0 z3 HFr
    go_wp2_with fail
    go_ret2
    exact ⟨rfl, HX.out.1, HX.out.2.1, HX.out.2.2⟩
  · have hf' : s.frees c a = false := by simpa using hf
    rw [hf', if_neg (by decide), if_neg (by decide)]
    have HE : Hid (ShAt o W1 G { s with H := s.H } ∧ CurAt o W1 (G.D 0) q (ptrV C) r c ∧ Keep (In o [1, q]) w W1) := ⟨hSh W1 s.H hH1 kk1, hcur1, kk1⟩
    by_cases hbn : s.H.bn a = true
    · have hce : s.H.colorP a = c := by
        unfold Sh.frees at hf'
        rw [hbn] at hf'
        simpa using hf'
      have d1 : ((s.H.colorP a : Int) == (c : Int)) = true := by simp [hce]
      have d1' : decide (s.H.colorP a = c) = true := decide_eq_true hce
      rw [if_pos hbn, if_pos hbn] at HCo
      generalize s.H.colorP a = kc at *
      clear h hc hb hr hcut hcell kC k1 kk1 hb1 hH1 hr1 hcur1 hSh hbn hce hf hf' hca hL hl hm hW1
      go_enter Tryz.func236, Tryz.ntmps236
      go_wp2_with fail
      refine HDn.out.mono ?_
      rintro e w2 ⟨rfl, rfl⟩
      clear HDn
      go_wp2_with fail
      rw [← HW.out]
      refine HCo.out.mono ?_
      rintro e w2 ⟨rfl, rfl⟩
      clear HCo
      go_wp2_with fail
      go_ret2
      exact ⟨rfl, HE.out.1, HE.out.2.1, HE.out.2.2⟩
    · rw [if_neg hbn, if_neg hbn] at HCo
      clear h hc hb hr hcut hcell kC k1 kk1 hb1 hH1 hr1 hcur1 hSh hbn hf hf' hca hL hl hm hW1
      go_enter Tryz.func236, Tryz.ntmps236
      go_wp2_with fail
      refine HDn.out.mono ?_
      rintro e w2 ⟨rfl, rfl⟩
      clear HDn
      go_wp2_with fail
      rw [← HW.out]
      refine HCo.out.mono ?_
      rintro e w2 ⟨rfl, rfl⟩
      clear HCo
      go_wp2_with fail
      go_ret2
      exact ⟨rfl, HE.out.1, HE.out.2.1, HE.out.2.2⟩
end
end Go.Proofs.YtjdnkhljgnjkcaaGreatDoor

/- A mutator's steps: again, claim, sweep. -/
namespace Go.Proofs.YtjdnkhljgnjkcaaGreatDoor
open Go.RowKit
attribute [local go_sem] Oper.semAt_some

section
variable {o : Ow} {w w' : World} {G : Geo} {g : MG} {s : Sh} {m : MS} {nv : Value}
/-- A mutator in a later world, under owners that know more. -/
theorem MAt.moveE {ev : Option Ev} {o' : Ow} (h : MAt o w G g s m ev nv) (k : Keep none_ w w') (e : OExt w o o') (hf : Fut o' w') : MAt o' w' G g s m ev nv := by
  obtain ⟨pv, rv, h1, h2, h3⟩ := h.blk
  obtain ⟨_, v, hb, _⟩ := id h.buf
  have k0 : Keep (In o' []) w w' := k.noneO
  have e1 := (e _ h1.lt).trans h.oM
  have e2 := (e _ h.regs.lt).trans h.oX
  have e3 := (e _ hb.lt).trans h.oBf
  have e4 := (e _ h.nt.lt).trans h.oNt
  exact ⟨h.sh.move (I := []) k.noneO rfl h.box8 e hf, ⟨pv, rv, h1.keepO k0 e1 rfl, (h2.ext e).keepO k0 rfl, (h3.ext e).keepO k0 rfl⟩, e1, h.regs.keepO k0 e2 rfl, e2, (h.buf.ext e).keepO k0 rfl e3 rfl, e3, h.nt.keepO k0 e4 rfl, e4, h.idl, h.box8, h.conf, h.rlen, h.blen⟩
theorem MAt.setQueue {ev : Option Ev} {Q : Qu} (h : MAt o w G g s m ev nv) (k : Keep (only G.Q) w w') (hQ : QuAt o w' G.Q Q) : MAt o w' G g { s with Q := Q } m ev nv ∧ Keep (In o (stepI m.id)) w w' := by
  obtain ⟨h1, k1⟩ := h.sh.setQueue k hQ
  exact ⟨h.share k1 rfl (by simp; omega) h1 rfl rfl, k1.moreO (by simp [stepI])⟩
set_option maxRecDepth 4000 in
set_option maxHeartbeats 4000000 in
theorem stAgain_any (h : MAt o w G g s m none nv) (op : OpR) (k : Nat) (v : Value) (hv : MClo o w g.Nt g.M (.again op k) v) (hk4 : k < 4) (hres : m.res.length ≤ 1000000) : ∃ bs : List Nat, v = .func (.func 227) #[] (bs.map ptrV).toArray ∧ Calls Tryz.prog 227 (bs.map ptrV).toArray w (StepPost o w G g nv m.id (stepM s m (.again op k))) := by
  obtain ⟨bs, hbs, hcap⟩ := hv
  refine ⟨bs, hbs, ?_⟩
  obtain ⟨b0, b1, b2, rfl, ⟨o0, k0⟩, ⟨o1, k1⟩, ⟨o2, k2⟩⟩ := caps3 hcap
  obtain ⟨ok, oa, ob, oc⟩ := op
  have c0 : w.cell? ⟨b0, 0, none⟩ = some (.pointer (some ⟨g.M, 0, none⟩)) := k0.cell 0 rfl
  have c1 := k1.cell 0 rfl
  have m0 := h.m0
  have s0 := h.s0.1
  show Calls Tryz.prog 227 #[.pointer (some ⟨b0, 0, none⟩), .pointer (some ⟨b1, 0, none⟩), .pointer (some ⟨b2, 0, none⟩)] w _
  have hkd : Keep none_ w w.drew := (Keep.refl none_ w).drew
  have hd := h.still hkd
  have HF : Hid (Calls Tryz.prog 102 #[.pointer (some ⟨G.D 0, 0, none⟩), .int .i64 (k : Int)] w.drew fun e w' => e = .returned (.tuple #[.int .i64 ((s.H.takeP k).1 : Int), .int .i64 ((s.H.takeP k).2.1 : Int)]) ∧ MAt o w' G g { s with H := (s.H.takeP k).2.2 } m none nv ∧ Keep (In o (stepI m.id)) w w' ∧ Blk w' b0 [ptrV g.M] 30 ∧ Blk w' b2 [.int .i64 ok, .int .i64 oa, .int .i64 ob, .int .i64 oc] 61) := by
    refine (hTake_any hd.sh.heap k hk4).mono ?_
    rintro e w' ⟨rfl, g1, g2⟩
    obtain ⟨h1, kk⟩ := hd.setHeap g2 g1 (takeP_c _ _)
    have km : Keep (In o (stepI m.id)) w w' := hkd.noneO.trans kk
    exact ⟨rfl, h1, km, k0.keepO km o0 (stepI_0 _), k2.keepO km o2 (stepI_0 _)⟩
  rcases takeP_two s.H k with hz | ⟨hz, hsame⟩
  · have e1 : stepM s m (.again ⟨ok, oa, ob, oc⟩ k) = ⟨{ s with H := (s.H.takeP k).2.2 }, m, .fill ⟨ok, oa, ob, oc⟩ (s.H.takeP k).1, none⟩ := by simp only [stepM]; rw [if_pos hz]
    rw [hz] at HF
    have HZ : Hid (∀ W, MAt o W G g { s with H := (s.H.takeP k).2.2 } m none nv → Keep (In o (stepI m.id)) w W → Calls Tryz.prog 206 #[.pointer (some ⟨g.M, 0, none⟩), .agg #[.int .i64 ok, .int .i64 oa, .int .i64 ob, .int .i64 oc], .int .i64 ((s.H.takeP k).1 : Int)] W fun e w' => ∃ fn caps, e = .returned (.func (.func fn) #[] caps) ∧ StepPost o w G g nv m.id (stepM s m (.again ⟨ok, oa, ob, oc⟩ k)) (.returned (.func (.func fn) #[] caps)) w' ∨ e = .returned .nilFunc ∧ StepPost o w G g nv m.id (stepM s m (.again ⟨ok, oa, ob, oc⟩ k)) (.returned .nilFunc) w') := fun W hW hk => by
      rw [e1]
      exact StepPost.made (r := ⟨{ s with H := (s.H.takeP k).2.2 }, m, .fill ⟨ok, oa, ob, oc⟩ (s.H.takeP k).1, none⟩) hW hk (mFill_new hW.sh.fut g.Nt g.M ⟨ok, oa, ob, oc⟩ (s.H.takeP k).1) rfl
    clear e1
    generalize stepM s m (.again ⟨ok, oa, ob, oc⟩ k) = R at *
    generalize { s with H := (s.H.takeP k).2.2 } = s' at *
    generalize (s.H.takeP k).1 = x at *
    generalize m.id = mi at *
    clear h hcap hbs hkd hd k0 k1 k2 o0 o1 o2 hz hres
    go_enter Tryz.func227, Tryz.ntmps227
    go_wp2_with fail
    refine wp_region_still_mid 8 rfl (by kernel_rfl) (by kernel_rfl) (fun K hK => ?_)
    change wpStill _ _ (World.drew _) _ _ _
    simp only [List.take_succ_cons, List.take_zero, List.drop_succ_cons, List.drop_zero] at hK ⊢
    repeat still_step
    refine wpStill_nil ?_
    change ite _ (Oper.wp _ _ _ _ _ _) _
    go_simp
    refine HF.out.mono ?_
    rintro e w1 ⟨rfl, g1, g2, g3, g5⟩
    refine hK _ _ ?_
    clear hK K
    have H1 := Lib.hid g1
    have K1 := Lib.hid g2
    clear g1 g2 c0 c1 m0 s0
    repeat still_step
    refine wpStill_nil ?_
    have c0 : w1.cell? ⟨b0, 0, none⟩ = some (.pointer (some ⟨g.M, 0, none⟩)) := g3.cell 0 rfl
    have p0 := g5.cell 0 rfl; have p1 := g5.cell 1 rfl; have p2 := g5.cell 2 rfl; have p3 := g5.cell 3 rfl
    clear g3 g5
    go_wp2_with fail
    refine (HZ.out _ H1.out K1.out).mono ?_
    rintro e w2 ⟨fn, caps, ⟨rfl, hp⟩ | ⟨rfl, hp⟩⟩
    all_goals
      have HP := Lib.hid hp
      clear hp c0 p0 p1 p2 p3
      go_wp2_with fail
      go_ret
      exact HP.out
  · have e1 : stepM s m (.again ⟨ok, oa, ob, oc⟩ k) = didR s m 10 0 := by simp only [stepM]; rw [if_neg (by omega)]
    rw [hz, hsame] at HF
    have HD : Hid (∀ W, MAt o W G g s m none nv → Keep (In o (stepI m.id)) w W → Calls Tryz.prog 142 #[.pointer (some ⟨g.M, 0, none⟩), .int .i64 10, .int .i64 0] W (fun e w' => e = .returned .nilFunc ∧ StepPost o w G g nv m.id (stepM s m (.again ⟨ok, oa, ob, oc⟩ k)) e w')) := fun W hW hk => by
      refine (mDid_post hW 10 0 hres).mono ?_
      rintro e w' ⟨rfl, hp⟩
      rw [e1]
      exact ⟨rfl, hp.after hk⟩
    clear e1
    generalize stepM s m (.again ⟨ok, oa, ob, oc⟩ k) = R at *
    generalize (s.H.takeP k).1 = x at *
    generalize m.id = mi at *
    clear h hcap hbs hkd hd k0 k1 k2 o0 o1 o2 hz hsame hres
    go_enter Tryz.func227, Tryz.ntmps227
    go_wp2_with fail
    refine wp_region_still_mid 8 rfl (by kernel_rfl) (by kernel_rfl) (fun K hK => ?_)
    change wpStill _ _ (World.drew _) _ _ _
    simp only [List.take_succ_cons, List.take_zero, List.drop_succ_cons, List.drop_zero] at hK ⊢
    repeat still_step
    refine wpStill_nil ?_
    change ite _ (Oper.wp _ _ _ _ _ _) _
    go_simp
    refine HF.out.mono ?_
    rintro e w1 ⟨rfl, g1, g2, g3, g5⟩
    refine hK _ _ ?_
    clear hK K
    have H1 := Lib.hid g1
    have K1 := Lib.hid g2
    clear g1 g2 g5 c0 c1 m0 s0
    repeat still_step
    refine wpStill_nil ?_
    have c0 : w1.cell? ⟨b0, 0, none⟩ = some (.pointer (some ⟨g.M, 0, none⟩)) := g3.cell 0 rfl
    clear g3
    go_wp2_with fail
    refine (HD.out _ H1.out K1.out).mono ?_
    rintro e w2 ⟨rfl, hp⟩
    have HP := Lib.hid hp
    clear hp
    go_wp2_with fail
    go_ret
    exact HP.out
set_option maxRecDepth 4000 in
set_option maxHeartbeats 4000000 in
theorem mSweep_new {D0 q : Nat} {sl : List Nat} {c : Nat} {cv tv : Value} {t : MD} (hf : Fut o w) (Nt M : Nat) (hc : CurAt o w D0 q cv sl c) (ht : MClo o w Nt M t tv) : Calls Tryz.prog 230 #[.pointer (some ⟨M, 0, none⟩), cv, tv] w fun e w' => ∃ fn caps, e = .returned (.func (.func fn) #[] caps) ∧ NClo o w' D0 (Nt, M) q (.sweep sl c t) (.func (.func fn) #[] caps) ∧ Keep none_ w w' := by
  have hn := caps_new (o := o) [([ptrV M], 30), ([cv], 239), ([tv], 103)] w hf
  have HE : Hid (NClo o (allocL w [([ptrV M], 30), ([cv], 239), ([tv], 103)]) D0 (Nt, M) q (.sweep sl c t) (.func (.func 233) #[] #[ptrV (w.heap.size + 1), ptrV w.heap.size, ptrV (w.heap.size + 1 + 1)]) ∧ Keep none_ w (allocL w [([ptrV M], 30), ([cv], 239), ([tv], 103)])) := by
    obtain ⟨b0, b1, b2, e, ⟨o0, k0⟩, ⟨o1, k1⟩, ⟨o2, k2⟩⟩ := caps3 hn.1
    simp only [idxs, List.cons.injEq] at e
    obtain ⟨rfl, rfl, rfl, _⟩ := e
    exact ⟨⟨cv, tv, hc.still hn.2, ht.still hn.2, [w.heap.size + 1, w.heap.size, w.heap.size + 1 + 1], rfl, _, _, rfl, o1, k1, _, _, rfl, o0, k0, _, _, rfl, o2, k2, rfl⟩, hn.2⟩
  have hmf := hmkf
  have hform := ht.form
  have hcf : (cv = .pointer none) ∨ ∃ C, cv = ptrV C := by
    rcases hc with ⟨h, _⟩ | ⟨C, _, _, h, _⟩
    · exact .inl h
    · exact .inr ⟨C, h⟩
  clear hn hf hc ht
  rcases hform with rfl | ⟨fn, caps, rfl⟩ <;> rcases hcf with rfl | ⟨C, rfl⟩
  all_goals
    go_enter Tryz.func230, Tryz.ntmps230
    go_wp2_with fail
    go_ret
    exact ⟨_, _, rfl, HE.out.1, HE.out.2⟩
set_option maxRecDepth 4000 in
set_option maxHeartbeats 4000000 in
theorem mClaim_post (h : MAt o w G g s m none nv) (op : OpR) (k : Nat) (hk4 : k < 4) (hcol : m.color < 2) (hop : s.Q.opn ≤ 1000000000) (hq : ∀ x ∈ s.Q.rw k, 0 ≤ x ∧ s.H.K.getD x.toNat 0 ≠ 0) : Calls Tryz.prog 221 #[.pointer (some ⟨g.M, 0, none⟩), .agg op.cells.toArray, .int .i64 (k : Int)] w fun e w' => ∃ fn caps, e = .returned (.func (.func fn) #[] caps) ∧ StepPost o w G g nv m.id (stepM s m (.claim op k)) (.returned (.func (.func fn) #[] caps)) w' := by
  obtain ⟨ok, oa, ob, oc⟩ := op
  obtain ⟨W3, hW3⟩ : ∃ W3, W3 = allocL w [([ptrV g.M], 30), ([.int .i64 ok, .int .i64 oa, .int .i64 ob, .int .i64 oc], 61), ([.int .i64 (k : Int)], 3)] := ⟨_, rfl⟩
  have hc := caps_new (o := o) [([ptrV g.M], 30), ([.int .i64 ok, .int .i64 oa, .int .i64 ob, .int .i64 oc], 61), ([.int .i64 (k : Int)], 3)] w h.sh.fut
  rw [← hW3] at hc
  obtain ⟨b0, b1, b2, e, ⟨o0, k0⟩, ⟨o1, k1⟩, ⟨o2, k2⟩⟩ := caps3 hc.1
  simp only [idxs, List.cons.injEq] at e
  obtain ⟨rfl, rfl, rfl, _⟩ := e
  have HW : Hid ((((w.alloc (.cells #[ptrV g.M] 30)).alloc (.cells #[.int .i64 ok, .int .i64 oa, .int .i64 ob, .int .i64 oc] 61)).alloc (.cells #[.int .i64 (k : Int)] 3)) = W3) := by rw [hW3]; rfl
  have hmf := hmkf
  have hkd : Keep none_ w W3.drew := hc.2.drew
  have hd := h.still hkd
  have h3 := h.still hc.2
  have m0 := h3.m0
  have s2 := h3.s0.2.2
  have c0 : W3.cell? ⟨w.heap.size, 0, none⟩ = some (.pointer (some ⟨g.M, 0, none⟩)) := k0.cell 0 rfl
  have c2 : W3.cell? ⟨w.heap.size + 1 + 1, 0, none⟩ = some (.int .i64 (k : Int)) := k2.cell 0 rfl
  have hkd3 : Keep none_ W3 W3.drew := (Keep.refl none_ W3).drew
  have hag : ∀ (o' : Ow) W, OExt w o o' → o' w.heap.size = 0 → o' (w.heap.size + 1) = 0 → o' (w.heap.size + 1 + 1) = 0 → Blk W w.heap.size [ptrV g.M] 30 → Blk W (w.heap.size + 1) [.int .i64 ok, .int .i64 oa, .int .i64 ob, .int .i64 oc] 61 → Blk W (w.heap.size + 1 + 1) [.int .i64 (k : Int)] 3 → MClo o' W g.Nt g.M (.again ⟨ok, oa, ob, oc⟩ k) (.func (.func 227) #[] #[.pointer (some ⟨w.heap.size, 0, none⟩), .pointer (some ⟨w.heap.size + 1 + 1, 0, none⟩), .pointer (some ⟨w.heap.size + 1, 0, none⟩)]) := fun o' W _ p0 p1 p2 g0 g1 g2 =>
    ⟨[w.heap.size, w.heap.size + 1 + 1, w.heap.size + 1], rfl, _, _, rfl, p0, g0, _, _, rfl, p2, g2, _, _, rfl, p1, g1, rfl⟩
  cases hr : s.Q.rw k with
  | nil =>
    have e1 : stepM s m (.claim ⟨ok, oa, ob, oc⟩ k) = ⟨s, m, .again ⟨ok, oa, ob, oc⟩ k, none⟩ := by simp only [stepM]; rw [hr]
    have HF : Hid (Calls Tryz.prog 228 #[.pointer (some ⟨G.Q, 0, none⟩), .int .i64 (k : Int)] W3.drew fun e w' => e = .returned (.tuple #[.int .i64 0, .int .i64 12]) ∧ w' = W3.drew) := by
      refine (qTake_empty G.Q s.Q (k : Int) W3.drew hd.sh.queue (cls_of k hk4) (by rw [Qu.row_of, hr])).mono ?_
      rintro e w' ⟨rfl, rfl⟩
      exact ⟨rfl, rfl⟩
    have HE : Hid (StepPost o w G g nv m.id (stepM s m (.claim ⟨ok, oa, ob, oc⟩ k)) (.returned (.func (.func 227) #[] #[.pointer (some ⟨w.heap.size, 0, none⟩), .pointer (some ⟨w.heap.size + 1 + 1, 0, none⟩), .pointer (some ⟨w.heap.size + 1, 0, none⟩)])) W3.drew) := by
      rw [e1]
      exact StepPost.same hd (hag o W3.drew (OExt.refl _ _) o0 o1 o2 (hkd3.blk k0 (fun f => f)) (hkd3.blk k1 (fun f => f)) (hkd3.blk k2 (fun f => f))) hkd.noneO
    clear e1
    generalize stepM s m (.claim ⟨ok, oa, ob, oc⟩ k) = R at *
    generalize m.id = mi at *
    clear h h3 hc hkd hkd3 hd k0 k1 k2 o0 o1 o2 hag hW3 hq hop hcol
    simp only [OpR.cells]
    go_enter Tryz.func221, Tryz.ntmps221
    go_wp2_with fail
    rw [HW.out]
    refine wp_region_still_mid 8 rfl (by kernel_rfl) (by kernel_rfl) (fun K hK => ?_)
    change wpStill _ _ (World.drew _) _ _ _
    simp only [List.take_succ_cons, List.take_zero, List.drop_succ_cons, List.drop_zero] at hK ⊢
    repeat still_step
    refine wpStill_nil ?_
    change ite _ (Oper.wp _ _ _ _ _ _) _
    go_simp
    refine HF.out.mono ?_
    rintro e w1 ⟨rfl, rfl⟩
    refine hK _ _ ?_
    clear hK K
    clear c0 c2 m0 s2 HF HW
    obtain ⟨W1, hW1⟩ : ∃ W1, W1 = W3.drew := ⟨_, rfl⟩
    rw [← hW1] at HE ⊢
    clear hW1
    repeat still_step
    refine wpStill_nil ?_
    go_wp2_with fail
    go_ret
    exact ⟨_, _, rfl, HE.out⟩
  | cons x xs =>
    obtain ⟨hx0, hxK⟩ := hq x (by rw [hr]; exact List.mem_cons_self)
    obtain ⟨n, rfl⟩ : ∃ n : Nat, x = (n : Int) := ⟨x.toNat, by omega⟩
    rw [Int.toNat_natCast] at hxK
    have e1 : stepM s m (.claim ⟨ok, oa, ob, oc⟩ k) = ⟨{ s with Q := s.Q.take k }, m, .sweep (s.H.slots n) m.color (.again ⟨ok, oa, ob, oc⟩ k), none⟩ := by simp only [stepM]; rw [hr]; rfl
    have HF : Hid (Calls Tryz.prog 228 #[.pointer (some ⟨G.Q, 0, none⟩), .int .i64 (k : Int)] W3.drew fun e w' => e = .returned (.tuple #[.int .i64 (n : Int), .int .i64 0]) ∧ MAt o w' G g { s with Q := s.Q.take k } m none nv ∧ Keep (In o (stepI m.id)) w w' ∧ Blk w' w.heap.size [ptrV g.M] 30 ∧ Blk w' (w.heap.size + 1) [.int .i64 ok, .int .i64 oa, .int .i64 ob, .int .i64 oc] 61 ∧ Blk w' (w.heap.size + 1 + 1) [.int .i64 (k : Int)] 3) := by
      refine (qTake_yes G.Q s.Q (k : Int) (n : Int) xs W3.drew hd.sh.queue (cls_of k hk4) (by rw [Qu.row_of, hr]) hop).mono ?_
      rintro e w' ⟨rfl, g1, g2⟩
      obtain ⟨h1, kk⟩ := hd.setQueue g2 g1
      have km : Keep (In o (stepI m.id)) w w' := hkd.noneO.trans kk
      have km3 : Keep (In o (stepI m.id)) W3 w' := hkd3.noneO.trans kk
      exact ⟨rfl, h1, km, k0.keepO km3 o0 (stepI_0 _), k1.keepO km3 o1 (stepI_0 _), k2.keepO km3 o2 (stepI_0 _)⟩
    have hwsz : w.heap.size ≤ W3.heap.size := hc.2.size
    have HN : Hid (∀ W, MAt o W G g { s with Q := s.Q.take k } m none nv → Keep (In o (stepI m.id)) w W → Blk W w.heap.size [ptrV g.M] 30 → Blk W (w.heap.size + 1) [.int .i64 ok, .int .i64 oa, .int .i64 ob, .int .i64 oc] 61 → Blk W (w.heap.size + 1 + 1) [.int .i64 (k : Int)] 3 →
        Calls Tryz.prog 229 #[.pointer (some ⟨G.D 0, 0, none⟩), .int .i64 (n : Int), .int .i64 (m.color : Int)] W.drew fun e w' => ∃ C, e = .returned (.tuple #[.pointer (some ⟨C, 0, none⟩), .int .i64 0]) ∧ Blk w' w.heap.size [ptrV g.M] 30 ∧
          Hid (Calls Tryz.prog 230 #[.pointer (some ⟨g.M, 0, none⟩), .pointer (some ⟨C, 0, none⟩), .func (.func 227) #[] #[.pointer (some ⟨w.heap.size, 0, none⟩), .pointer (some ⟨w.heap.size + 1 + 1, 0, none⟩), .pointer (some ⟨w.heap.size + 1, 0, none⟩)]] w' fun e w2 => ∃ fn caps, e = .returned (.func (.func fn) #[] caps) ∧ StepPost o w G g nv m.id (stepM s m (.claim ⟨ok, oa, ob, oc⟩ k)) (.returned (.func (.func fn) #[] caps)) w2)) := fun W hW hk g0 g1 g2 => by
      have kd : Keep none_ W W.drew := (Keep.refl none_ W).drew
      refine (swNew_ok (H := s.H) (hW.still kd).sh.heap n m.color hxK hcol).mono ?_
      rintro e w2 ⟨V, gg, nn, cp, rfl, kV, ho, hn, kV2, hb⟩
      have kWV : Keep none_ W V := kd.trans kV
      have kW2 : Keep none_ W w2 := kWV.trans kV2
      refine ⟨V.heap.size, rfl, kW2.blk g0 (fun f => f), ?_⟩
      have hlt : V.heap.size < w2.heap.size := hb.lt
      have hW0 := hk.size
      have hV0 := kWV.size
      have eo : OExt w o (o.put V.heap.size (30 + m.id)) := Ow.put_ext (.inl (by omega))
      have eoW : OExt W o (o.put V.heap.size (30 + m.id)) := Ow.put_ext (.inl (by omega))
      have eoV : OExt V o (o.put V.heap.size (30 + m.id)) := Ow.put_ext (.inl (Nat.le_refl _))
      have hf2 : Fut (o.put V.heap.size (30 + m.id)) w2 := Ow.put_fut hW.sh.fut kW2.size hlt
      have hM2 := hW.moveE kW2 eoW hf2
      have hrow : RowO (o.put V.heap.size (30 + m.id)) w2 3 (.slice (some ⟨gg, 0, none⟩) nn cp) (tabV (s.H.slots n)) := ((RowO.ofOwn ho (by omega) (fun b hb => hW.sh.fut b (by have := kd.size; omega))).ext eoV).still kV2
      have hcur : CurAt (o.put V.heap.size (30 + m.id)) w2 (G.D 0) (30 + m.id) (ptrV V.heap.size) (s.H.slots n) m.color := .inr ⟨V.heap.size, n, _, rfl, Ow.put_same _ _ _, hb, hrow⟩
      have hlt0 := g0.lt
      have hlt1 := g1.lt
      have hlt2 := g2.lt
      have hagn := hag (o.put V.heap.size (30 + m.id)) w2 eo ((eoV _ (by omega)).trans o0) ((eoV _ (by omega)).trans o1) ((eoV _ (by omega)).trans o2) (kW2.blk g0 (fun f => f)) (kW2.blk g1 (fun f => f)) (kW2.blk g2 (fun f => f))
      refine (mSweep_new hf2 g.Nt g.M hcur hagn).mono ?_
      rintro e w4 ⟨fn, caps, rfl, hn4, k4⟩
      refine ⟨fn, caps, rfl, o.put V.heap.size (30 + m.id), _, rfl, eo, ?_, ?_, hk.trans (kW2.trans k4).noneO⟩
      · rw [e1]; exact hM2.still k4
      · rw [e1]; exact hn4
    clear e1
    have m13 : ∀ W, MAt o W G g { s with Q := s.Q.take k } m none nv → W.cell? ⟨g.M, 13, none⟩ = some (.int .i64 (m.color : Int)) := fun W hW => hW.cell 13 _ (fun _ _ => rfl)
    have HM : Hid (∀ W, MAt o W G g { s with Q := s.Q.take k } m none nv → W.cell? ⟨g.M, 0, none⟩ = some (.pointer (some ⟨G.S, 0, none⟩)) ∧ W.cell? ⟨G.S, 0, none⟩ = some (.pointer (some ⟨G.D 0, 0, none⟩)) ∧ W.cell? ⟨g.M, 13, none⟩ = some (.int .i64 (m.color : Int))) := fun W hW => ⟨hW.m0, hW.s0.1, m13 W hW⟩
    clear m13
    generalize stepM s m (.claim ⟨ok, oa, ob, oc⟩ k) = R at *
    generalize { s with Q := s.Q.take k } = s' at *
    generalize m.color = mc at *
    generalize m.id = mi at *
    clear h h3 hc hkd hkd3 hd k0 k1 k2 o0 o1 o2 hag hW3 hq hop hcol hxK hr hwsz hx0
    simp only [OpR.cells]
    go_enter Tryz.func221, Tryz.ntmps221
    go_wp2_with fail
    rw [HW.out]
    refine wp_region_still_mid 8 rfl (by kernel_rfl) (by kernel_rfl) (fun K hK => ?_)
    change wpStill _ _ (World.drew _) _ _ _
    simp only [List.take_succ_cons, List.take_zero, List.drop_succ_cons, List.drop_zero] at hK ⊢
    repeat still_step
    refine wpStill_nil ?_
    change ite _ (Oper.wp _ _ _ _ _ _) _
    go_simp
    refine HF.out.mono ?_
    rintro e w1 ⟨rfl, g1, g2, g3, g4, g5⟩
    refine hK _ _ ?_
    clear hK K
    have HN1 := Lib.hid (HN.out w1 g1 g2 g3 g4 g5)
    obtain ⟨m0', s0', m13'⟩ := HM.out w1 g1
    have c0' : w1.cell? ⟨w.heap.size, 0, none⟩ = some (.pointer (some ⟨g.M, 0, none⟩)) := g3.cell 0 rfl
    clear g1 g2 g3 g4 g5 c0 c2 m0 s2 HM HN HF HW
    repeat still_step
    refine wpStill_nil ?_
    go_wp2_with fail
    refine wp_region_still_mid 12 rfl (by kernel_rfl) (by kernel_rfl) (fun K hK => ?_)
    change wpStill _ _ (World.drew _) _ _ _
    simp only [List.take_succ_cons, List.take_zero, List.drop_succ_cons, List.drop_zero] at hK ⊢
    repeat still_step
    refine wpStill_nil ?_
    change ite _ (Oper.wp _ _ _ _ _ _) _
    go_simp
    refine HN1.out.mono ?_
    rintro e w2 ⟨C, rfl, g1, g2⟩
    refine hK _ _ ?_
    clear hK K
    have c0 : w2.cell? ⟨w.heap.size, 0, none⟩ = some (.pointer (some ⟨g.M, 0, none⟩)) := g1.cell 0 rfl
    clear g1 m0' s0' m13' c0' HN1
    repeat still_step
    refine wpStill_nil ?_
    go_wp2_with fail
    refine g2.out.mono ?_
    rintro e w3 ⟨fn, caps, rfl, hp⟩
    have HP := Lib.hid hp
    clear hp c0 g2
    go_wp2_with fail
    go_ret
    exact ⟨_, _, rfl, HP.out⟩
end
end Go.Proofs.YtjdnkhljgnjkcaaGreatDoor
