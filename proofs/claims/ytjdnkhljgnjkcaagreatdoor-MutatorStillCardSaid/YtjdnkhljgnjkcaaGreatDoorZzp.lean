/- Parts of a walk, put together by a small program of mine from texts of their own: MutN1 Log2 NoteC. -/
import Derived.Test.YtjdnkhljgnjkcaaGreatDoorZzn
import Derived.Test.YtjdnkhljgnjkcaaGreatDoorZzo
import Derived.BigRegion
import Derived.Deep.RegionHeld3
import Derived.Deep.RegionWith
import Derived.Laws.EntriesVeiled
/- What mutators and the collector share, as it is made: Share. -/
namespace Go.Proofs.YtjdnkhljgnjkcaaGreatDoor
open Go.RowKit
attribute [local go_sem] Oper.semAt_some
attribute [local go_sem ↓] app9_of

theorem Tryz.infoPBox : (Tryz.prog.info? 63).map (fun i => (i.zero, i.size, i.bytes)) = some (some (.pointer none), 1, 8) := by kernel_rfl
set_option maxRecDepth 4000 in
theorem qNew_w (w : World) : Calls Tryz.prog 46 #[] w fun e w' => e = .returned (.pointer (some ⟨w.heap.size, 0, none⟩)) ∧ w' = w.alloc (.cells #[.slice none 0 0, .slice none 0 0, .slice none 0 0, .slice none 0 0, .int .i64 0] 153) := by
  go_enter Tryz.func46, Tryz.ntmps46
  go_wp2_with fail
  go_ret
  exact ⟨rfl, rfl⟩
set_option maxRecDepth 4000 in
theorem bxNew_w (w : World) : Calls Tryz.prog 47 #[] w fun e w' => e = .returned (.pointer (some ⟨w.heap.size, 0, none⟩)) ∧ w' = w.alloc (.cells #[.slice none 0 0] 131) := by
  go_enter Tryz.func47, Tryz.ntmps47
  go_wp2_with fail
  go_ret
  exact ⟨rfl, rfl⟩
theorem QuAt.first {o : Ow} {w : World} {B : Nat} (hB : o B ≠ 0) (hb : Blk w B [.slice none 0 0, .slice none 0 0, .slice none 0 0, .slice none 0 0, .int .i64 0] 153) : QuAt o w B ⟨[[], [], [], []], 0⟩ := by
  refine ⟨hB, rfl, [.slice none 0 0, .slice none 0 0, .slice none 0 0, .slice none 0 0], rfl, hb, fun i v zs h1 h2 => ?_⟩
  match i with
  | 0 => simp at h1 h2; subst h1 h2; exact RowO.nil _ _ _
  | 1 => simp at h1 h2; subst h1 h2; exact RowO.nil _ _ _
  | 2 => simp at h1 h2; subst h1 h2; exact RowO.nil _ _ _
  | 3 => simp at h1 h2; subst h1 h2; exact RowO.nil _ _ _
  | n + 4 => simp at h1
theorem RowO.ofOwn2 {o : Ow} {w : World} {T : TypeId} {v : Value} {xs : List Value} {base n : Nat} (h : w.ownsRow base T 1 v n xs) (hm : n ≤ 4000000000000) (hf : ∀ b, v.ownBlock = some b → o b = 0) : RowO o w T v xs := by
  obtain ⟨hl, hf2⟩ := h
  rcases hf2 with ⟨rfl, rfl⟩ | ⟨g, cap, cur, rfl, hg0, hg, hn, _, hs, hc⟩
  · have : xs = [] := List.eq_nil_of_length_eq_zero (by simpa using hl)
    subst this
    exact RowO.nil _ _ _
  · have hnl : n = xs.length := by simpa using hl.symm
    subst hnl
    refine ⟨_, cap, rfl, hn, hm, fun _ => ⟨g, 0, cur.toList, rfl, hf g rfl, by unfold Blk; simpa using hg, fun j hj => ?_⟩⟩
    rw [← hc]
    simp [hj]
/-- What Share's loop finds. -/
structure ShI (W0 : World) (S N0 : Nat) (ps : List Value) (j : Nat) (W : World) : Prop where
  keep : Keep (only S) W0 W
  row : ∃ (sv : Value) (bx : Nat → Nat), Blk W S (ps ++ [sv]) 54 ∧ W.ownsRow N0 63 1 sv j ((List.range j).map fun i => ptrV (bx i)) ∧ (∀ i, i < j → N0 ≤ bx i ∧ bx i < W.heap.size ∧ Blk W (bx i) [.slice none 0 0] 131) ∧ ∀ i k, i < k → k < j → bx i < bx k
/-- What is shared, with owners of its blocks. -/
theorem shr_new {w : World} {D : Nat → Nat} {H : HS} {B Q Fl S N0 : Nat} {b : Bd} {W0 W1 W2 : World} {n : Nat} (hH : HeapAt W1 D H) (hD : ∀ i, i < 13 → w.heap.size ≤ D i) (hsz : w.heap.size ≤ W1.heap.size) (hB : BdAt W0 B b) (hQ : Blk W0 Q [.slice none 0 0, .slice none 0 0, .slice none 0 0, .slice none 0 0, .int .i64 0] 153)
    (hF : Blk W0 Fl [.bool false] 90) (h1 : W1.heap.size ≤ B) (h2 : B < Q) (h3 : Q < Fl) (h4 : Fl < S) (h5 : S < N0) (h6 : N0 = W0.heap.size) (k1 : Keep none_ W1 W0) (hgl : 2 < w.heap.size ∧ 3 < w.heap.size ∧ 1 < w.heap.size) (hn : n ≤ 8) (hI : ShI W0 S N0 [ptrV (D 0), ptrV B, ptrV Q, ptrV Fl] n W2) :
    ∃ (o : Ow) (G : Geo), G.S = S ∧ ShAt o W2 G ⟨H, b, ⟨[[], [], [], []], 0⟩, false, List.replicate n []⟩ ∧ (∀ x, x < w.heap.size → o x = 0) ∧ ∀ x, o x < 20 := by
  obtain ⟨hk, sv, bx, hS, hrow, hbx, hmono⟩ := hI
  have hDlt : ∀ i, i < 13 → D i < W1.heap.size := fun i hi => hH.ltD i hi
  classical
  obtain ⟨o, ho⟩ : ∃ o : Ow, ∀ x, o x = if x < w.heap.size then 0 else if x < W1.heap.size then (if ∃ i, i < 13 ∧ D i = x then 1 else 0) else if x = B then 2 else if x = Q then 3 else if x = Fl then 4 else if h : ∃ i, i < n ∧ bx i = x then 10 + h.choose else 0 := ⟨fun x => if x < w.heap.size then 0 else if x < W1.heap.size then (if ∃ i, i < 13 ∧ D i = x then 1 else 0) else if x = B then 2 else if x = Q then 3 else if x = Fl then 4 else if h : ∃ i, i < n ∧ bx i = x then 10 + h.choose else 0, fun _ => rfl⟩
  have hbxi : ∀ i, i < n → o (bx i) = 10 + i := fun i hi => by
    have hb := hbx i hi
    rw [ho, if_neg (by omega), if_neg (by omega), if_neg (by omega), if_neg (by omega), if_neg (by omega)]
    have hex : ∃ k, k < n ∧ bx k = bx i := ⟨i, hi, rfl⟩
    rw [dif_pos hex]
    have hc := hex.choose_spec
    rcases Nat.lt_trichotomy hex.choose i with h | h | h
    · have := hmono _ _ h hi; omega
    · omega
    · have := hmono _ _ h hc.1; omega
  have hO : o S = 0 := by
    rw [ho, if_neg (by omega), if_neg (by omega), if_neg (by omega), if_neg (by omega), if_neg (by omega), dif_neg]
    rintro ⟨i, hi, e⟩
    have := (hbx i hi).1; omega
  have hoB : o B = 2 := by rw [ho, if_neg (by omega), if_neg (by omega), if_pos rfl]
  have hoQ : o Q = 3 := by rw [ho, if_neg (by omega), if_neg (by omega), if_neg (by omega), if_pos rfl]
  have hoF : o Fl = 4 := by rw [ho, if_neg (by omega), if_neg (by omega), if_neg (by omega), if_neg (by omega), if_pos rfl]
  have hoD : ∀ i, i < 13 → o (D i) = 1 := fun i hi => by
    rw [ho, if_neg (by have := hD i hi; omega), if_pos (hDlt i hi), if_pos ⟨i, hi, rfl⟩]
  have hz : ∀ x, x < w.heap.size → o x = 0 := fun x hx => by rw [ho, if_pos hx]
  have hS0 : S < W0.heap.size := by omega
  refine ⟨o, ⟨S, D, B, Q, Fl, bx⟩, rfl, ⟨?_, ⟨sv, hS, ?_⟩, hO, ?_, hoD, ⟨hz _ hgl.1, hz _ hgl.2.1, hz _ hgl.2.2⟩, ?_, hoB, ?_, hoQ, ?_, hoF, ?_⟩, hz, fun x => ?_⟩
  · intro x hx
    have h9 := hk.size
    rw [ho, if_neg (by omega), if_neg (by omega), if_neg (by omega), if_neg (by omega), if_neg (by omega), dif_neg]
    rintro ⟨i, hi, e⟩
    have := (hbx i hi).2.1; omega
  · have e : (List.replicate n ([] : List Nat)).length = n := by simp
    show RowO o W2 63 sv ((List.range (List.replicate n ([] : List Nat)).length).map fun i => ptrV (bx i))
    rw [e]
    refine RowO.ofOwn2 hrow (by omega) (fun g hg => ?_)
    have hgl2 := (World.ownsRow.lt hrow g hg).1
    rw [ho, if_neg (by omega), if_neg (by omega), if_neg (by omega), if_neg (by omega), if_neg (by omega), dif_neg]
    rintro ⟨i, hi, e⟩
    exact own_ne (hbx i hi).2.2 hrow (by decide) (by rw [hg, e])
  · exact (hH.still k1).keep hk (fun i hi e => by have := hDlt i hi; unfold only at e; omega) (fun e => by unfold only at e; omega) (fun e => by unfold only at e; omega) (fun e => by unfold only at e; omega)
  · exact hB.keep hk (fun e => by unfold only at e; omega)
  · exact QuAt.first (by rw [hoQ]; decide) (hk.blk hQ (fun e => by have e' : Q = S := e; omega))
  · exact hk.blk hF (fun e => by have e' : Fl = S := e; omega)
  · intro i l hi
    have hin : i < n := by have := (List.getElem?_eq_some_iff.1 hi).1; simpa using this
    have el : l = [] := by simp [List.getElem?_replicate, hin] at hi; exact hi
    subst el
    exact ⟨⟨by rw [hbxi i hin]; omega, .slice none 0 0, (hbx i hin).2.2, RowO.nil _ _ _, fun _ _ e => by cases e; rfl⟩, hbxi i hin⟩
  · rw [ho]
    repeat' split
    all_goals first | omega | (rename_i hex; have := hex.choose_spec.1; omega)
set_option maxRecDepth 8000 in
set_option maxHeartbeats 2000000 in
theorem share_no (c : Conf) (hok : c.ok = false) (w : World) (hT : Tabs w) : Calls Tryz.prog 7 #[.agg c.cells.toArray] w fun e w' => e = .returned (.tuple #[.pointer none, .int .i64 1]) ∧ Keep none_ w w' := by
  obtain ⟨W0, hW0⟩ : ∃ W', W' = w.alloc (.cells c.cells.toArray 23) := ⟨_, rfl⟩
  have HK : Hid (Keep none_ w W0) := by rw [hW0]; exact (Keep.refl _ _).alloc _
  have HN := Lib.hid (hNew_no c hok W0 (hT.keep HK.out))
  have HB := Lib.hid (show Blk W0 w.heap.size c.cells 23 by rw [hW0]; exact Blk.new w _ _)
  obtain ⟨c0, c1, c2, c3, c4, c5, c6⟩ := c
  simp only [Conf.cells] at *
  clear hT hok
  have HW0 := Lib.hid hW0
  clear hW0
  go_enter Tryz.func7, Tryz.ntmps7
  go_wp2_with fail
  rw [← HW0.out]
  refine HN.out.mono ?_
  rintro e w1 ⟨rfl, k1⟩
  have HE := Lib.hid (HK.out.trans k1)
  clear k1
  go_wp2_with fail
  go_ret2
  exact ⟨rfl, HE.out⟩
set_option maxRecDepth 8000 in
set_option maxHeartbeats 8000000 in
theorem share_ok (c : Conf) (b ww nc n : Nat) (hok : c.ok = true) (hcb : c.b = b) (hcw : c.w = ww) (hcc : c.c = nc) (hcm : c.m = n) (w : World) (hT : Tabs w) (hS : Sizes w) (hgl : 2 < w.heap.size ∧ 3 < w.heap.size ∧ 1 < w.heap.size) : Calls Tryz.prog 7 #[.agg c.cells.toArray] w fun e w' => ∃ (o : Ow) (G : Geo), e = .returned (.tuple #[.pointer (some ⟨G.S, 0, none⟩), .int .i64 0]) ∧ ShAt o w' G (Sh.new c b ww nc n) ∧ (∀ x, x < w.heap.size → o x = 0) ∧ (∀ x, o x < 20) ∧ Keep none_ w w' := by
  obtain ⟨W0, hW0⟩ : ∃ W', W' = w.alloc (.cells c.cells.toArray 23) := ⟨_, rfl⟩
  have HK : Hid (Keep none_ w W0) := by rw [hW0]; exact (Keep.refl _ _).alloc _
  have HN := Lib.hid (hNew_ok c b ww nc hok hcb hcw hcc W0 (hT.keep HK.out) (hS.keep HK.out))
  have HB := Lib.hid (show Blk W0 w.heap.size c.cells 23 by rw [hW0]; exact Blk.new w _ _)
  have hbd := ok_bounds hok
  have hn1 : 1 ≤ n ∧ n ≤ 8 := by omega
  have HN1 := Lib.hid hn1
  have HBN : Hid (∀ W, Calls Tryz.prog 45 #[.int .i64 (n : Int)] W fun e w' => e = .returned (.tuple #[.pointer (some ⟨W.heap.size, 0, none⟩), .int .i64 0]) ∧ BdAt w' W.heap.size (Bd.new (n : Int)) ∧ Keep none_ W w') := fun W => bd_new_yes (n : Int) W (by omega) (by omega)
  have HSH : Hid (∀ (D : Nat → Nat) (B Q Fl S N0 : Nat) (W1 W2 W3 : World), HeapAt W1 D (HS.new c b ww nc) → (∀ i, i < 13 → w.heap.size ≤ D i) → w.heap.size ≤ W1.heap.size → BdAt W2 B (Bd.new (n : Int)) → Blk W2 Q [.slice none 0 0, .slice none 0 0, .slice none 0 0, .slice none 0 0, .int .i64 0] 153 → Blk W2 Fl [.bool false] 90 →
      W1.heap.size ≤ B → B < Q → Q < Fl → Fl < S → S < N0 → N0 = W2.heap.size → Keep none_ W1 W2 → ShI W2 S N0 [ptrV (D 0), ptrV B, ptrV Q, ptrV Fl] n W3 → ∃ (o : Ow) (G : Geo), G.S = S ∧ ShAt o W3 G (Sh.new c b ww nc n) ∧ (∀ x, x < w.heap.size → o x = 0) ∧ ∀ x, o x < 20) :=
    fun D B Q Fl S N0 W1 W2 W3 p1 p2 p3 p4 p5 p6 p7 p8 p9 p10 p11 p12 p13 p14 => shr_new p1 p2 p3 p4 p5 p6 p7 p8 p9 p10 p11 p12 p13 hgl hn1.2 p14
  obtain ⟨c0, c1, c2, c3, c4, c5, c6⟩ := c
  simp only at hcm
  subst hcm
  simp only [Conf.cells] at HN HB ⊢
  have HW0 := Lib.hid hW0
  clear hT hok hS hgl hbd hcb hcw hcc hW0
  go_enter Tryz.func7, Tryz.ntmps7
  go_wp2_with fail
  simp only [Conf.cells] at HW0
  rw [← HW0.out]
  refine HN.out.mono ?_
  rintro e w1 ⟨D, rfl, hH, hD, k1⟩
  have HH := Lib.hid hH
  have HD : Hid (∀ i, i < 13 → w.heap.size ≤ D i) := fun i hi => Nat.le_trans HK.out.size (hD i hi)
  have hb1 := k1.blk HB.out (fun f => f)
  have y2 : w1.cell? ⟨w.heap.size, 2, none⟩ = some (.int .i64 (n : Int)) := hb1.cell 2 rfl
  have HB1 := Lib.hid hb1
  have HK1 := Lib.hid (HK.out.trans k1)
  clear hH hD k1 HB HK HN hb1
  go_wp2_with fail
  refine (HBN.out _).mono ?_
  rintro e w2 ⟨rfl, hBd, k2⟩
  have HBD := Lib.hid hBd
  have HK2 := Lib.hid k2
  have hb2 := k2.blk HB1.out (fun f => f)
  have HB2 := Lib.hid hb2
  clear hBd k2 y2 HB1 hb2 HBN
  go_wp2_with fail
  refine (qNew_w _).mono ?_
  rintro e w3 ⟨rfl, hw3⟩
  obtain ⟨W5, hW5⟩ : ∃ W5, W5 = (w3.alloc (.cells #[.bool false] 90)).alloc (.cells #[ptrV (D 0), ptrV w1.heap.size, ptrV w2.heap.size, ptrV w3.heap.size, .slice none 0 0] 54) := ⟨_, rfl⟩
  have k3 : Keep none_ w2 w3 := by rw [hw3]; exact (Keep.refl _ _).alloc _
  have k5 : Keep none_ w3 W5 := by rw [hW5]; exact ((Keep.refl _ _).alloc _).alloc _
  have e3 : w3.heap.size = w2.heap.size + 1 := by rw [hw3]; simp
  have e5 : W5.heap.size = w3.heap.size + 2 := by rw [hW5]; simp
  have hq : Blk w3 w2.heap.size [.slice none 0 0, .slice none 0 0, .slice none 0 0, .slice none 0 0, .int .i64 0] 153 := by rw [hw3]; exact Blk.new w2 _ _
  have hfl : Blk W5 w3.heap.size [.bool false] 90 := by rw [hW5]; exact (Blk.new w3 _ _).alloc _
  have hsh : Blk W5 (w3.heap.size + 1) [ptrV (D 0), ptrV w1.heap.size, ptrV w2.heap.size, ptrV w3.heap.size, .slice none 0 0] 54 := by
    rw [hW5]
    have h9 := Blk.new (w3.alloc (.cells #[.bool false] 90)) [ptrV (D 0), ptrV w1.heap.size, ptrV w2.heap.size, ptrV w3.heap.size, .slice none 0 0] 54
    rw [World.size_alloc] at h9
    exact h9
  have HI0 : Hid (ShI W5 (w3.heap.size + 1) W5.heap.size [ptrV (D 0), ptrV w1.heap.size, ptrV w2.heap.size, ptrV w3.heap.size] 0 W5) := ⟨Keep.refl _ _, .slice none 0 0, fun _ => 0, hsh, World.ownsRow_nil _ _ _ _, fun i hi => absurd hi (Nat.not_lt_zero i), fun i k _ hk => absurd hk (Nat.not_lt_zero k)⟩
  have hb5 := (k3.trans k5).blk HB2.out (fun f => f)
  have y2 : ∀ x y, ((w3.alloc x).alloc y).cell? ⟨w.heap.size, 2, none⟩ = some (.int .i64 (n : Int)) := fun x y => (((k3.blk HB2.out (fun f => f)).alloc x).alloc y).cell 2 rfl
  have HEND : Hid (∀ W3, ShI W5 (w3.heap.size + 1) W5.heap.size [ptrV (D 0), ptrV w1.heap.size, ptrV w2.heap.size, ptrV w3.heap.size] n W3 → ∃ (o : Ow) (G : Geo), G.S = w3.heap.size + 1 ∧ ShAt o W3 G (Sh.new ⟨c0, c1, n, c3, c4, c5, c6⟩ b ww nc n) ∧ (∀ x, x < w.heap.size → o x = 0) ∧ (∀ x, o x < 20) ∧ Keep none_ w W3) := fun W3 hI => by
    have s2 := HBD.out.blk.lt
    have s1 := HK1.out.size
    obtain ⟨o, G, g1, g2, g3, g4⟩ := HSH.out D w1.heap.size w2.heap.size w3.heap.size (w3.heap.size + 1) W5.heap.size w1 W5 W3 HH.out HD.out HK1.out.size (HBD.out.keep (k3.trans k5) (fun f => f)) (k5.blk hq (fun f => f)) hfl (Nat.le_refl _) (by omega) (by omega) (by omega) (by omega) rfl ((HK2.out.trans k3).trans k5) hI
    exact ⟨o, G, g1, g2, g3, g4, (((HK1.out.trans HK2.out).trans k3).trans k5).onNew hI.keep (by omega)⟩
  have HW5 := Lib.hid hW5
  have HSZ : Hid (W5.heap.size = w3.heap.size + 2) := e5
  have HCB : Hid (w.heap.size < W5.heap.size ∧ w.heap.size ≠ w3.heap.size + 1) := by
    have := HB2.out.lt; exact ⟨by omega, by omega⟩
  have HB5 := Lib.hid hb5
  clear k3 k5 e3 e5 hq hfl hsh hb5 hw3 HBD HK2 HB2 HSH HH HD HK1 hW5
  go_wp2_with fail
  rw [← HW5.out]
  clear y2
  go_loopw [32] (fun i wr => ∃ k : Nat, k ≤ n ∧ i = .int .i64 k ∧ ShI W5 (w3.heap.size + 1) W5.heap.size [ptrV (D 0), ptrV w1.heap.size, ptrV w2.heap.size, ptrV w3.heap.size] k wr) (fun i _ => n - (intOf i).toNat)
  case atStart => exact ⟨0, Nat.zero_le _, rfl, HI0.out⟩
  case round =>
    obtain ⟨k, hk, rfl, hI⟩ := hrel
    by_cases hlt : k < n
    · obtain ⟨hkp, sv, bx, hS, hrow, hbx, hmono⟩ := hI
      obtain ⟨sa, sc, rfl⟩ : ∃ a c, sv = .slice a k c := by
        obtain ⟨a, cap, rfl, _⟩ := own_form (own_low hrow (Nat.zero_le _))
        exact ⟨a, cap, rfl⟩
      have hltI : (k : Int) < (n : Int) := by omega
      have hk8 : k < 8 := by have := HN1.out; omega
      have hkI : (k : Int) < 8 := by omega
      have hsS : w3.heap.size + 1 < wr.heap.size := hS.lt
      have HL : Hid (Calls Tryz.prog 47 #[] wr.drew fun e w9 => e = .returned (.pointer (some ⟨wr.heap.size, 0, none⟩)) ∧ w9.cell? ⟨w3.heap.size + 1, 4, none⟩ = some (.slice sa k sc) ∧ (∀ x, (w9.alloc x).cell? ⟨w3.heap.size + 1, 4, none⟩ = some (.slice sa k sc)) ∧
          ∃ q cap w5, (app9 #[52, 52] 52 #[.slice sa k sc, .slice (some ⟨w9.heap.size, 0, none⟩) 1 1]).run Tryz.prog (w9.alloc (.cells #[.pointer (some ⟨wr.heap.size, 0, none⟩)] 63)) = .ok (.slice (some ⟨q, 0, none⟩) (k + 1) cap) w5 ∧ w5.frozen? ⟨w3.heap.size + 1, 4, none⟩ = false ∧ w5.cell? ⟨w3.heap.size + 1, 4, none⟩ = some (.slice sa k sc) ∧
            Hid (ShI W5 (w3.heap.size + 1) W5.heap.size [ptrV (D 0), ptrV w1.heap.size, ptrV w2.heap.size, ptrV w3.heap.size] (k + 1) (w5.setCell ⟨w3.heap.size + 1, 4, none⟩ (.slice (some ⟨q, 0, none⟩) (k + 1) cap)))) := by
        refine (bxNew_w _).mono ?_
        rintro e w9 ⟨rfl, hw9⟩
        have k9 : Keep none_ wr w9 := by rw [hw9]; exact ((Keep.refl none_ wr).drew).alloc _
        have e9 : w9.heap.size = wr.heap.size + 1 := by rw [hw9]; simp
        have hb9 : Blk w9 wr.heap.size [.slice none 0 0] 131 := by rw [hw9]; exact Blk.new wr.drew _ _
        obtain ⟨W1, hW1⟩ : ∃ W1, W1 = w9.alloc (.cells #[.pointer (some ⟨wr.heap.size, 0, none⟩)] 63) := ⟨_, rfl⟩
        have k91 : Keep none_ w9 W1 := by rw [hW1]; exact (Keep.refl _ _).alloc _
        have k1 : Keep none_ wr W1 := k9.trans k91
        have hN1 : W1.cell? ⟨w9.heap.size, 0, none⟩ = some (.pointer (some ⟨wr.heap.size, 0, none⟩)) := by
          rw [hW1]; exact (Blk.new w9 [.pointer (some ⟨wr.heap.size, 0, none⟩)] 63).cell 0 rfl
        have hbn : Blk W1 wr.heap.size [.slice none 0 0] 131 := k91.blk hb9 (fun f => f)
        have e1 : W1.heap.size = wr.heap.size + 2 := by rw [hW1]; simp [e9]
        have hS9 := k9.blk hS (fun f => f)
        have hrow1 := own_still hrow k1
        obtain ⟨q, cap, w5, hrun, hown, hgr, hq⟩ := app_where (P := Tryz.prog) W1 52 52 63 (by kernel_rfl) Tryz.infoPBox rfl (own_low hrow1 (Nat.zero_le _)) (N := w9.heap.size) (u := .pointer (some ⟨wr.heap.size, 0, none⟩)) hN1 rfl (by decide) (by omega)
        have hneS : (Value.slice sa k sc).ownBlock ≠ some (w3.heap.size + 1) := own_ne (k1.blk hS (fun f => f)) hrow1 (by decide)
        have hneX : ∀ i, i < k → (Value.slice sa k sc).ownBlock ≠ some (bx i) := fun i hi => own_ne (k1.blk (hbx i hi).2.2 (fun f => f)) hrow1 (by decide)
        have hneN : (Value.slice sa k sc).ownBlock ≠ some wr.heap.size := own_ne hbn hrow1 (by decide)
        have hS5 : Blk w5 (w3.heap.size + 1) ([ptrV (D 0), ptrV w1.heap.size, ptrV w2.heap.size, ptrV w3.heap.size] ++ [.slice sa k sc]) 54 := (k1.blk hS (fun f => f)).grown hgr hneS
        have f5 := hS5.free 4
        have c5 : w5.cell? ⟨w3.heap.size + 1, 4, none⟩ = some (.slice sa k sc) := hS5.cell 4 rfl
        have hge : W5.heap.size ≤ q := by
          rcases hq with h | h
          · exact (World.ownsRow.lt hrow1 q h).1
          · have := hkp.size; omega
        have HEND2 : Hid (ShI W5 (w3.heap.size + 1) W5.heap.size [ptrV (D 0), ptrV w1.heap.size, ptrV w2.heap.size, ptrV w3.heap.size] (k + 1) (w5.setCell ⟨w3.heap.size + 1, 4, none⟩ (.slice (some ⟨q, 0, none⟩) (k + 1) cap))) := by
          have s5 := hgr.size
          have sk := hkp.size
          have hsz := HSZ.out
          refine ⟨?_, .slice (some ⟨q, 0, none⟩) (k + 1) cap, fun i => if i = k then wr.heap.size else bx i, ?_, ?_, ?_, ?_⟩
          · have h8 : Keep (fun x => (Value.slice sa k sc).ownBlock = some x) wr w5 := (k1.mono (fun _ _ f => f.elim)).trans ⟨hgr.os, hgr.tape, hgr.output, hgr.size, fun x hx hn => hgr.block x hx (fun e => by first | exact hn e | exact hn e.symm)⟩
            have h9 : Keep (only (w3.heap.size + 1)) W5 w5 := hkp.trans' h8 (fun i hi hin => absurd (World.ownsRow.lt hrow1 i hin).1 (by omega))
            exact h9.put 4 _
          · exact hS5.set 4 _
          · have e : (List.range (k + 1)).map (fun i => ptrV (if i = k then wr.heap.size else bx i)) = (List.range k).map (fun i => ptrV (bx i)) ++ [ptrV wr.heap.size] := by
              rw [List.range_succ, List.map_append]
              congr 1
              · refine List.map_congr_left (fun i hi => ?_)
                rw [if_neg (by have := List.mem_range.1 hi; omega)]
              · simp
            rw [e]
            exact own_up (own_other (a := ⟨w3.heap.size + 1, 4, none⟩) hown (fun x hx => by simp [Value.ownBlock] at hx; show x ≠ w3.heap.size + 1; omega) _) hge
          · intro i hi
            by_cases e : i = k
            · subst e
              dsimp only
              rw [if_pos rfl]
              exact ⟨sk, by simp; omega, (hbn.grown hgr hneN).other (by simp; omega) _⟩
            · dsimp only
              rw [if_neg e]
              obtain ⟨g1, g2, g3⟩ := hbx i (by omega)
              exact ⟨g1, by simp; omega, ((k1.blk g3 (fun f => f)).grown hgr (hneX i (by omega))).other (by simp; omega) _⟩
          · intro i j hij hj
            by_cases e : j = k
            · subst e
              dsimp only
              rw [if_pos rfl, if_neg (by omega)]
              exact (hbx i hij).2.1
            · dsimp only
              rw [if_neg e, if_neg (by omega)]
              exact hmono i j hij (by omega)
        exact ⟨rfl, hS9.cell 4 rfl, fun x => (hS9.alloc x).cell 4 rfl, q, cap, w5, by rw [← hW1]; exact hrun, f5, c5, HEND2⟩
      have c0 : wr.cell? ⟨w3.heap.size + 1, 4, none⟩ = some (.slice sa k sc) := hS.cell 4 rfl
      have c0d : wr.drew.cell? ⟨w3.heap.size + 1, 4, none⟩ = some (.slice sa k sc) := ((Keep.refl none_ wr).drew).still c0
      clear hkp hS hrow hbx hmono
      go_wp2_with fail
      go_region_with (go_at_call 47; refine HL.out.mono ?_; rintro e w9 ⟨rfl, h9a, h9b, q, cap, w5, hrun9, f5, c5, HEND2⟩)
      all_goals
        go_wp2_with fail
        go_roundw
        case rel => exact ⟨k + 1, by omega, by go_num, HEND2.out⟩
        case measure => simp [intOf] <;> omega
    · have e1 : k = n := by omega
      subst e1
      have HE := Lib.hid (HEND.out wr hI)
      have hnlt : ¬ (k : Int) < (k : Int) := by omega
      clear hI hlt
      go_wp2_with fail
      go_ret2
      obtain ⟨o, G, g1, g2, g3, g4, g5⟩ := HE.out
      exact ⟨o, G, by rw [g1]; rfl, g2, g3, g4, g5⟩
end Go.Proofs.YtjdnkhljgnjkcaaGreatDoor

/- Buffers, boxes, the flag: what their functions do. -/
namespace Go.Proofs.YtjdnkhljgnjkcaaGreatDoor
open Go.RowKit
attribute [local go_sem] Oper.semAt_some

section
variable {o : Ow} {w w' : World} {b : Nat} {room : Int} {xs : List Nat}
theorem RwAt.roomC (h : RwAt o w b 155 [.int .i64 room] xs) : w.cell? ⟨b, 1, none⟩ = some (.int .i64 room) := by
  obtain ⟨_, v, h1, _⟩ := h
  exact h1.cell 1 rfl
set_option maxRecDepth 4000 in
set_option maxHeartbeats 1000000 in
theorem bfFull_any (h : RwAt o w b 155 [.int .i64 room] xs) : Calls Tryz.prog 167 #[.pointer (some ⟨b, 0, none⟩)] w fun e w' => e = .returned (.bool ((xs.length : Int) == room)) ∧ Keep none_ w w' := by
  have HC : Hid (∀ W, Keep none_ w W → Calls Tryz.prog 70 #[.pointer (some ⟨b, 0, none⟩)] W fun e w' => e = .returned (.int .i64 (xs.length : Int)) ∧ W = w') := fun W hW => rwCount_any (h.still hW)
  have c1 := h.roomC
  have hlen : (xs.length : Int) ≤ 4000000000000 := by obtain ⟨a, c, _, _, _, _, hm, _⟩ := h.form; omega
  generalize xs.length = n at *
  clear h
  go_enter Tryz.func167, Tryz.ntmps167
  go_wp2_with fail
  go_quiet (first | (go_at_call 70; exact Calls.quiet_of_same (calls_flip (HC.out _ ((Keep.refl none_ w).drewN _)))))
  go_wp2_with fail
  go_ret
  exact ⟨rfl, (Keep.refl _ _).drewN _⟩
set_option maxRecDepth 4000 in
set_option maxHeartbeats 400000 in
theorem bfLen_any (h : RwAt o w b 155 [.int .i64 room] xs) : Calls Tryz.prog 168 #[.pointer (some ⟨b, 0, none⟩)] w fun e w' => e = .returned (.int .i64 (xs.length : Int)) ∧ w = w' := by
  have HC := Lib.hid (rwCount_any h)
  clear h
  go_enter Tryz.func168, Tryz.ntmps168
  go_wp2_with (go_at_call 70; refine HC.out.mono ?_; rintro e w1 ⟨rfl, rfl⟩)
  go_ret
  exact ⟨rfl, rfl⟩
set_option maxRecDepth 4000 in
set_option maxHeartbeats 400000 in
theorem bfAdd_full (h : RwAt o w b 155 [.int .i64 room] xs) (x : Nat) (hf : ((xs.length : Int) == room) = true) : Calls Tryz.prog 164 #[.pointer (some ⟨b, 0, none⟩), .int .i64 (x : Int)] w fun e w' => e = .returned (.bool false) ∧ Keep none_ w w' := by
  have HF := Lib.hid (bfFull_any h)
  rw [hf] at HF
  clear h hf
  go_enter Tryz.func164, Tryz.ntmps164
  go_wp2_with (go_at_call 167; refine HF.out.mono ?_; rintro e w1 ⟨rfl, k1⟩; have HK := Lib.hid k1; clear k1)
  go_ret
  exact ⟨rfl, HK.out⟩
set_option maxRecDepth 4000 in
set_option maxHeartbeats 400000 in
theorem bfAdd_room (h : RwAt o w b 155 [.int .i64 room] xs) (x : Nat) (hf : ((xs.length : Int) == room) = false) (hf0 : Fut o w) (hm : xs.length ≤ 100000) : Calls Tryz.prog 164 #[.pointer (some ⟨b, 0, none⟩), .int .i64 (x : Int)] w fun e w' => e = .returned (.bool true) ∧ RwAt o w' b 155 [.int .i64 room] (xs ++ [x]) ∧ Keep (only b) w w' := by
  have HF := Lib.hid (bfFull_any h)
  rw [hf] at HF
  have HA : Hid (∀ W, Keep none_ w W → Calls Tryz.prog 198 #[.pointer (some ⟨b, 0, none⟩), .int .i64 (x : Int)] W fun e w' => e = .returned (.tuple #[]) ∧ RwAt o w' b 155 [.int .i64 room] (xs ++ [x]) ∧ Keep (only b) W w') := fun W hW => rwAdd_any (h.still hW) x (hf0.keep hW) hm
  clear h hf hf0 hm
  go_enter Tryz.func164, Tryz.ntmps164
  go_wp2_with (go_at_call 167; refine HF.out.mono ?_; rintro e w1 ⟨rfl, k1⟩; have HK := Lib.hid k1; have HA1 := Lib.hid (HA.out _ k1); clear k1)
  go_wp2_with (go_at_call 198; refine HA1.out.mono ?_; rintro e w2 ⟨rfl, h2, k2⟩; have HH := Lib.hid h2; have HK2 := Lib.hid k2; clear h2 k2)
  go_ret
  exact ⟨rfl, HH.out, (HK.out.mono (fun _ _ f => f.elim)).trans HK2.out⟩
set_option maxRecDepth 4000 in
set_option maxHeartbeats 400000 in
theorem bfNext_any (h : RwAt o w b 155 [.int .i64 room] xs) : Calls Tryz.prog 200 #[.pointer (some ⟨b, 0, none⟩)] w fun e w' => e = .returned (.tuple #[.int .i64 (headN xs : Int), .bool (!xs.isEmpty)]) ∧ RwAt o w' b 155 [.int .i64 room] xs.tail ∧ Keep (only b) w w' := by
  have HT : Hid (Calls Tryz.prog 71 #[.pointer (some ⟨b, 0, none⟩)] w fun e w' => e = .returned (.tuple #[.int .i64 (headN xs : Int), .bool (!xs.isEmpty)]) ∧ RwAt o w' b 155 [.int .i64 room] xs.tail ∧ Keep (only b) w w') := by
    cases xs with
    | nil =>
      refine (rwTake_nil h).mono ?_
      rintro e w' ⟨rfl, rfl⟩
      exact ⟨rfl, h, Keep.refl _ _⟩
    | cons x xs => exact rwTake_cons x h
  generalize headN xs = hd at *
  generalize (!xs.isEmpty) = ok at *
  clear h
  go_enter Tryz.func200, Tryz.ntmps200
  go_wp2_with (go_at_call 71; refine HT.out.mono ?_; rintro e w1 ⟨rfl, h1, k1⟩; have HH := Lib.hid h1; have HK := Lib.hid k1; clear h1 k1)
  go_ret2
  exact ⟨rfl, HH.out, HK.out⟩
set_option maxRecDepth 4000 in
set_option maxHeartbeats 400000 in
theorem bfClear_any (h : RwAt o w b 155 [.int .i64 room] xs) : Calls Tryz.prog 134 #[.pointer (some ⟨b, 0, none⟩)] w fun e w' => e = .returned (.tuple #[]) ∧ RwAt o w' b 155 [.int .i64 room] [] ∧ Keep (only b) w w' := by
  obtain ⟨a, c, hc, _, _, _, _, hf, _⟩ := h.form
  have HS := Lib.hid (h.set (RowO.nil o w 3) (ys := []) (fun _ _ e => by cases e; rfl))
  clear h
  go_enter Tryz.func134, Tryz.ntmps134
  go_wp2_with fail
  go_end0
  exact ⟨rfl, HS.out, (Keep.refl (only b) _).put _ _⟩
set_option maxRecDepth 4000 in
set_option maxHeartbeats 400000 in
theorem flRaise_any (F : Nat) (f : Bool) (h : Blk w F [.bool f] 90) : Calls Tryz.prog 203 #[.pointer (some ⟨F, 0, none⟩)] w fun e w' => e = .returned (.tuple #[]) ∧ Blk w' F [.bool true] 90 ∧ Keep (only F) w w' := by
  have c0 := h.cell 0 rfl
  have f0 := h.free 0
  have HS := Lib.hid (h.set 0 (.bool true))
  clear h
  go_enter Tryz.func203, Tryz.ntmps203
  go_wp2_with fail
  go_end0
  exact ⟨rfl, HS.out, (Keep.refl (only F) _).put _ _⟩
set_option maxRecDepth 4000 in
set_option maxHeartbeats 1000000 in
theorem bxHand_no {B : Nat} {ys : List Nat} (h : RwAt o w b 155 [.int .i64 room] xs) (hb : RwAt o w B 131 [] ys) (hy : ys ≠ []) : Calls Tryz.prog 170 #[.pointer (some ⟨B, 0, none⟩), .pointer (some ⟨b, 0, none⟩)] w fun e w' => e = .returned (.bool false) ∧ w = w' := by
  have HC := Lib.hid (rwCount_any hb)
  have hpos : 0 < ys.length := List.length_pos_iff.2 hy
  have d0 : decide ((0 : Int) < (ys.length : Int)) = true := decide_eq_true (by omega)
  have d1 : decide (0 < ys.length) = true := decide_eq_true hpos
  generalize ys.length = n at *
  clear h hb hy
  go_enter Tryz.func170, Tryz.ntmps170
  go_wp2_with (go_at_call 70; refine HC.out.mono ?_; rintro e w1 ⟨rfl, rfl⟩)
  go_ret
  exact ⟨rfl, rfl⟩
set_option maxRecDepth 4000 in
set_option maxHeartbeats 1000000 in
theorem bxHand_yes {B : Nat} (h : RwAt o w b 155 [.int .i64 room] xs) (hb : RwAt o w B 131 [] []) (hne : B ≠ b) (hf0 : Fut o w) : Calls Tryz.prog 170 #[.pointer (some ⟨B, 0, none⟩), .pointer (some ⟨b, 0, none⟩)] w fun e w' => e = .returned (.bool true) ∧ RwAt o w' b 155 [.int .i64 room] [] ∧ RwAt o w' B 131 [] xs ∧ Keep (fun i => i = B ∨ i = b) w w' := by
  have HC := Lib.hid (rwCount_any hb)
  have hlen : xs.length ≤ 4000000000000 := by obtain ⟨a, c, _, _, _, _, hm, _⟩ := h.form; exact hm
  have HA := Lib.hid (rwAll_any h)
  have HH := Lib.hid h
  have HB := Lib.hid hb
  have HN := Lib.hid hne
  have HF := Lib.hid hf0
  have HL := Lib.hid hlen
  clear h hb hne hf0 hlen
  go_enter Tryz.func170, Tryz.ntmps170
  go_wp2_with (go_at_call 70; refine HC.out.mono ?_; rintro e w1 ⟨rfl, rfl⟩)
  refine HA.out.mono ?_
  rintro e w1 ⟨v, rfl, ho, k1⟩
  obtain ⟨a', cap', rfl, _, _, hnl, _⟩ := own_form (own_low ho (Nat.zero_le _))
  have HNL := Lib.hid hnl
  have HO := Lib.hid ho
  have HK1 := Lib.hid k1
  obtain ⟨_, _, cB, _, _, _, _, fB, _⟩ := (HB.out.still k1).form
  clear ho k1 hnl
  go_wp2_with fail
  have hrow : RowO o w1 3 (.slice a' xs.length cap') (tabV xs) := RowO.ofOwn HO.out HL.out (fun x hx => HF.out x hx)
  have hnil : NilOk (.slice a' xs.length cap') := fun n c e => by injection e with e1 e2 e3; rw [← e3]; exact HNL.out e1
  have hS2 := (HB.out.still HK1.out).set hrow hnil
  have k2 : Keep (only B) w1 (w1.setCell ⟨B, 0, none⟩ (.slice a' xs.length cap')) := (Keep.refl _ _).put 0 _
  have hb2 : RwAt o (w1.setCell ⟨B, 0, none⟩ (.slice a' xs.length cap')) b 155 [.int .i64 room] xs := (HH.out.still HK1.out).keep k2 (fun e => HN.out e.symm) (fun x hx e => by unfold only at e; subst e; exact HB.out.1 hx)
  have HS2 := Lib.hid hS2
  have HK2 := Lib.hid k2
  have HCL := Lib.hid (bfClear_any hb2)
  clear hS2 k2 hb2 hrow hnil
  refine HCL.out.mono ?_
  rintro e w3 ⟨rfl, h3, k3⟩
  have HH3 := Lib.hid h3
  have HK3 := Lib.hid k3
  clear h3 k3
  go_wp2_with fail
  go_ret
  refine ⟨rfl, HH3.out, HS2.out.keep HK3.out (fun e => HN.out e) (fun x hx e => by unfold only at e; subst e; exact HH.out.1 hx), ?_⟩
  exact (HK1.out.mono (fun _ _ f => f.elim)).trans ((HK2.out.mono (fun _ _ e => Or.inl e)).trans (HK3.out.mono (fun _ _ e => Or.inr e)))
end
end Go.Proofs.YtjdnkhljgnjkcaaGreatDoor

/- Steps of logging: Note, Pour, paint. -/
namespace Go.Proofs.YtjdnkhljgnjkcaaGreatDoor
open Go.RowKit
attribute [local go_sem] Oper.semAt_some

/-- Boxes, one behind another. -/
def allocL (w : World) : List (List Value × TypeId) → World
  | [] => w
  | (cs, T) :: l => allocL (w.alloc (.cells cs.toArray T)) l
def idxs (n : Nat) : List (List Value × TypeId) → List Nat
  | [] => []
  | _ :: l => n :: idxs (n + 1) l
theorem caps_new {o : Ow} : ∀ (l : List (List Value × TypeId)) (w : World), Fut o w → Caps o (allocL w l) l (idxs w.heap.size l) ∧ Keep none_ w (allocL w l)
  | [], w, _ => ⟨rfl, Keep.refl _ _⟩
  | (cs, T) :: l, w, hf => by
    have k : Keep none_ w (w.alloc (.cells cs.toArray T)) := (Keep.refl _ _).alloc _
    obtain ⟨h1, h2⟩ := caps_new l (w.alloc (.cells cs.toArray T)) (hf.keep k)
    rw [World.size_alloc] at h1
    exact ⟨⟨w.heap.size, _, rfl, hf _ (Nat.le_refl _), h2.blk (Blk.new w cs T) (fun f => f), h1⟩, k.trans h2⟩
theorem RdClo.keep {o : Ow} {w w' : World} {M : Nat} {S : Nat → Prop} {rd : RD} {v : Value} (h : RdClo o w M rd v) (k : Keep S w w') (h0 : ∀ b, o b = 0 → ¬ S b) : RdClo o w' M rd v := by
  cases rd with
  | field base f x => obtain ⟨op, e, h1⟩ := h; exact ⟨op, e, h1.keep k h0⟩
  | cell i x => obtain ⟨op, e, h1⟩ := h; exact ⟨op, e, h1.keep k h0⟩
theorem WrClo.keep {o : Ow} {w w' : World} {M : Nat} {S : Nat → Prop} {rd : RD} {v : Value} (h : WrClo o w M rd v) (k : Keep S w w') (h0 : ∀ b, o b = 0 → ¬ S b) : WrClo o w' M rd v := by
  cases rd with
  | field base f x => obtain ⟨op, e, h1⟩ := h; exact ⟨op, e, h1.keep k h0⟩
  | cell i x => obtain ⟨op, e, h1⟩ := h; exact ⟨op, e, h1.keep k h0⟩
theorem LastClo.keep {o : Ow} {w w' : World} {M : Nat} {S : Nat → Prop} {rd : RD} {v : Value} (h : LastClo o w M rd v) (k : Keep S w w') (h0 : ∀ b, o b = 0 → ¬ S b) : LastClo o w' M rd v := by
  obtain ⟨wv, h1, h2⟩ := h
  exact ⟨wv, h1.keep k h0, h2.keep k h0⟩
theorem RdClo.ext {o o' : Ow} {w : World} {M : Nat} {rd : RD} {v : Value} (h : RdClo o w M rd v) (e : OExt w o o') : RdClo o' w M rd v := by
  cases rd with
  | field base f x => obtain ⟨op, e1, h1⟩ := h; exact ⟨op, e1, h1.ext e⟩
  | cell i x => obtain ⟨op, e1, h1⟩ := h; exact ⟨op, e1, h1.ext e⟩
theorem WrClo.ext {o o' : Ow} {w : World} {M : Nat} {rd : RD} {v : Value} (h : WrClo o w M rd v) (e : OExt w o o') : WrClo o' w M rd v := by
  cases rd with
  | field base f x => obtain ⟨op, e1, h1⟩ := h; exact ⟨op, e1, h1.ext e⟩
  | cell i x => obtain ⟨op, e1, h1⟩ := h; exact ⟨op, e1, h1.ext e⟩
theorem LastClo.ext {o o' : Ow} {w : World} {M : Nat} {rd : RD} {v : Value} (h : LastClo o w M rd v) (e : OExt w o o') : LastClo o' w M rd v := by
  obtain ⟨wv, h1, h2⟩ := h
  exact ⟨wv, h1.ext e, h2.ext e⟩
theorem MClo.keep {o : Ow} {w w' : World} {Nt M : Nat} {S : Nat → Prop} (k : Keep S w w') (h0 : ∀ b, o b = 0 → ¬ S b) : ∀ {d : MD} {v : Value}, MClo o w Nt M d v → MClo o w' Nt M d v := by
  intro d
  induction d with
  | nil => intro v h; exact h
  | start op => intro v h; exact Clo.keep h k h0
  | once q =>
    intro v h
    obtain ⟨dv, h1, h2⟩ := h
    refine ⟨dv, h1.keep k h0, ?_⟩
    revert h2
    split
    · rintro ⟨lv, h2, h3⟩; exact ⟨lv, h2.keep k h0, h3.keep k h0⟩
    split
    · rintro ⟨lv, h2, h3⟩; exact ⟨lv, h2.keep k h0, h3.keep k h0⟩
    split
    · rintro ⟨lv, h2, h3⟩; exact ⟨lv, h2.keep k h0, h3.keep k h0⟩
    split
    · rintro ⟨lv, h2, h3⟩; exact ⟨lv, h2.keep k h0, h3.keep k h0⟩
    · rintro ⟨lv, h2, h3⟩; exact ⟨lv, h2.keep k h0, h3.keep k h0⟩
  | note x c t ih =>
    intro v h
    obtain ⟨tv, av, h1, h2, h3⟩ := h
    exact ⟨tv, av, ih h1, h2.keep k h0, h3.keep k h0⟩
  | add x t ih => intro v h; obtain ⟨tv, h1, h2⟩ := h; exact ⟨tv, ih h1, h2.keep k h0⟩
  | pour c t ih => intro v h; obtain ⟨tv, h1, h2⟩ := h; exact ⟨tv, ih h1, h2.keep k h0⟩
  | paint c f t ih => intro v h; obtain ⟨tv, h1, h2⟩ := h; exact ⟨tv, ih h1, h2.keep k h0⟩
  | raise t ih => intro v h; obtain ⟨tv, h1, h2⟩ := h; exact ⟨tv, ih h1, h2.keep k h0⟩
  | field base f t ih => intro v h; obtain ⟨tv, h1, h2⟩ := h; exact ⟨tv, ih h1, h2.keep k h0⟩
  | load op base => intro v h; exact Clo.keep h k h0
  | get op => intro v h; exact Clo.keep h k h0
  | lay x rd =>
    intro v h
    obtain ⟨rv, lv, h1, h2, h3⟩ := h
    exact ⟨rv, lv, h1.keep k h0, h2.keep k h0, h3.keep k h0⟩
  | last rd => intro v h; exact LastClo.keep h k h0
  | alloc op q => intro v h; exact Clo.keep h k h0
  | assign op q => intro v h; exact Clo.keep h k h0
  | carve op all =>
    intro v h
    obtain ⟨h1, av, h2, h3⟩ := h
    exact ⟨h1, av, h2.keep k h0, h3.keep k h0⟩
  | claim op q => intro v h; exact Clo.keep h k h0
  | again op q => intro v h; exact Clo.keep h k h0
  | sweep sl c t => intro v h; exact h.elim
  | fill op a => intro v h; exact Clo.keep h k h0
  | zero op a i => intro v h; exact Clo.keep h k h0
theorem MClo.ext {o o' : Ow} {w : World} {Nt M : Nat} (e : OExt w o o') : ∀ {d : MD} {v : Value}, MClo o w Nt M d v → MClo o' w Nt M d v := by
  intro d
  induction d with
  | nil => intro v h; exact h
  | start op => intro v h; exact Clo.ext h e
  | once q =>
    intro v h
    obtain ⟨dv, h1, h2⟩ := h
    refine ⟨dv, h1.ext e, ?_⟩
    revert h2
    split
    · rintro ⟨lv, h2, h3⟩; exact ⟨lv, h2.ext e, h3.ext e⟩
    split
    · rintro ⟨lv, h2, h3⟩; exact ⟨lv, h2.ext e, h3.ext e⟩
    split
    · rintro ⟨lv, h2, h3⟩; exact ⟨lv, h2.ext e, h3.ext e⟩
    split
    · rintro ⟨lv, h2, h3⟩; exact ⟨lv, h2.ext e, h3.ext e⟩
    · rintro ⟨lv, h2, h3⟩; exact ⟨lv, h2.ext e, h3.ext e⟩
  | note x c t ih =>
    intro v h
    obtain ⟨tv, av, h1, h2, h3⟩ := h
    exact ⟨tv, av, ih h1, h2.ext e, h3.ext e⟩
  | add x t ih => intro v h; obtain ⟨tv, h1, h2⟩ := h; exact ⟨tv, ih h1, h2.ext e⟩
  | pour c t ih => intro v h; obtain ⟨tv, h1, h2⟩ := h; exact ⟨tv, ih h1, h2.ext e⟩
  | paint c f t ih => intro v h; obtain ⟨tv, h1, h2⟩ := h; exact ⟨tv, ih h1, h2.ext e⟩
  | raise t ih => intro v h; obtain ⟨tv, h1, h2⟩ := h; exact ⟨tv, ih h1, h2.ext e⟩
  | field base f t ih => intro v h; obtain ⟨tv, h1, h2⟩ := h; exact ⟨tv, ih h1, h2.ext e⟩
  | load op base => intro v h; exact Clo.ext h e
  | get op => intro v h; exact Clo.ext h e
  | lay x rd =>
    intro v h
    obtain ⟨rv, lv, h1, h2, h3⟩ := h
    exact ⟨rv, lv, h1.ext e, h2.ext e, h3.ext e⟩
  | last rd => intro v h; exact LastClo.ext h e
  | alloc op q => intro v h; exact Clo.ext h e
  | assign op q => intro v h; exact Clo.ext h e
  | carve op all =>
    intro v h
    obtain ⟨h1, av, h2, h3⟩ := h
    exact ⟨h1, av, h2.ext e, h3.ext e⟩
  | claim op q => intro v h; exact Clo.ext h e
  | again op q => intro v h; exact Clo.ext h e
  | sweep sl c t => intro v h; exact h.elim
  | fill op a => intro v h; exact Clo.ext h e
  | zero op a i => intro v h; exact Clo.ext h e
theorem Clo.form {o : Ow} {w : World} {fn : Nat} {l : List (List Value × TypeId)} {v : Value} (h : Clo o w fn l v) : v = .nilFunc ∨ ∃ (fn : Nat) (caps : Array Value), v = .func (.func fn) #[] caps := by
  obtain ⟨bs, e, _⟩ := h
  exact .inr ⟨_, _, e⟩
theorem MClo.form {o : Ow} {w : World} {Nt M : Nat} {d : MD} {v : Value} (h : MClo o w Nt M d v) : v = .nilFunc ∨ ∃ (fn : Nat) (caps : Array Value), v = .func (.func fn) #[] caps := by
  cases d with
  | nil => exact .inl h
  | start op => exact Clo.form h
  | once q => obtain ⟨dv, h1, _⟩ := h; exact h1.form
  | note x c t => obtain ⟨tv, av, _, _, h3⟩ := h; exact h3.form
  | add x t => obtain ⟨tv, _, h3⟩ := h; exact h3.form
  | pour c t => obtain ⟨tv, _, h3⟩ := h; exact h3.form
  | paint c f t => obtain ⟨tv, _, h3⟩ := h; exact h3.form
  | raise t => obtain ⟨tv, _, h3⟩ := h; exact h3.form
  | field base f t => obtain ⟨tv, _, h3⟩ := h; exact h3.form
  | load op base => exact Clo.form h
  | get op => exact Clo.form h
  | lay x rd => obtain ⟨_, _, _, _, h3⟩ := h; exact h3.form
  | last rd => obtain ⟨_, _, h3⟩ := h; exact h3.form
  | alloc op q => exact Clo.form h
  | assign op q => exact Clo.form h
  | carve op all => obtain ⟨_, _, _, h3⟩ := h; exact h3.form
  | claim op q => exact Clo.form h
  | again op q => exact Clo.form h
  | sweep sl c t => exact h.elim
  | fill op a => exact Clo.form h
  | zero op a i => exact Clo.form h
theorem NClo.form {o : Ow} {w : World} {D0 : Nat} {g : Nat × Nat} {q : Nat} {d : MD} {v : Value} (h : NClo o w D0 g q d v) : v = .nilFunc ∨ ∃ (fn : Nat) (caps : Array Value), v = .func (.func fn) #[] caps := by
  cases d with
  | sweep sl c t => obtain ⟨_, _, _, _, h3⟩ := h; exact h3.form
  | _ => exact MClo.form h
section
variable {o : Ow} {w w' : World} {Nt M : Nat}
theorem MClo.keepO {I : List Nat} {d : MD} {v : Value} (h : MClo o w Nt M d v) (k : Keep (In o I) w w') (h0 : I.contains 0 = false) : MClo o w' Nt M d v := h.keep k (fun b hb => not_in' hb h0)
theorem MClo.still {d : MD} {v : Value} (h : MClo o w Nt M d v) (k : Keep none_ w w') : MClo o w' Nt M d v := h.keep k (fun _ _ f => f)
set_option maxRecDepth 4000 in
set_option maxHeartbeats 1000000 in
theorem ntNote_any (hf : Fut o w) (v c : Nat) (t : MD) (tv : Value) (ht : MClo o w Nt M t tv) : Calls Tryz.prog 137 #[.pointer (some ⟨Nt, 0, none⟩), .int .i64 (v : Int), .int .i64 (c : Int), tv] w fun e w' => ∃ nv, e = .returned nv ∧ MClo o w' Nt M (noteD v c t) nv ∧ Keep none_ w w' := by
  by_cases h0 : v = 0
  · subst h0
    have hc := caps_new (o := o) [([ptrV Nt], 98), ([.int .i64 0], 3), ([.int .i64 (c : Int)], 3), ([tv], 103)] w hf
    have HE : Hid (MClo o (allocL w [([ptrV Nt], 98), ([.int .i64 0], 3), ([.int .i64 (c : Int)], 3), ([tv], 103)]) Nt M (noteD 0 c t) tv ∧ Keep none_ w (allocL w [([ptrV Nt], 98), ([.int .i64 0], 3), ([.int .i64 (c : Int)], 3), ([tv], 103)])) := ⟨ht.still hc.2, hc.2⟩
    have hform := ht.form
    clear hc ht hf
    rcases hform with rfl | ⟨fn, caps, rfl⟩
    all_goals
      go_enter Tryz.func137, Tryz.ntmps137
      go_wp2_with fail
      go_ret
      exact ⟨_, rfl, HE.out.1, HE.out.2⟩
  · have d0 : ((v : Int) == 0) = false := by simp; omega
    obtain ⟨n, hn⟩ : ∃ n, n = w.heap.size := ⟨_, rfl⟩
    obtain ⟨av, hav⟩ : ∃ av : Value, av = .func (.func 163) #[] #[ptrV n, ptrV (n + 1), ptrV (n + 1 + 1 + 1)] := ⟨_, rfl⟩
    have hc := caps_new (o := o) [([ptrV Nt], 98), ([.int .i64 (v : Int)], 3), ([.int .i64 (c : Int)], 3), ([tv], 103), ([av], 102)] w hf
    obtain ⟨W, hW⟩ : ∃ W, W = allocL w [([ptrV Nt], 98), ([.int .i64 (v : Int)], 3), ([.int .i64 (c : Int)], 3), ([tv], 103), ([av], 102)] := ⟨_, rfl⟩
    rw [← hW, ← hn] at hc
    have HE : Hid (MClo o W Nt M (noteD v c t) (.func (.func 165) #[] #[ptrV n, ptrV (n + 1), ptrV (n + 1 + 1), ptrV (n + 1 + 1 + 1), ptrV (n + 1 + 1 + 1 + 1)]) ∧ Keep none_ w W) := by
      refine ⟨?_, hc.2⟩
      unfold noteD
      rw [if_neg h0]
      refine ⟨tv, av, ht.still hc.2, ⟨[n, n + 1, n + 1 + 1 + 1], hav, ?_⟩, ⟨_, rfl, hc.1⟩⟩
      obtain ⟨b0, r0, e0, o0, k0, hc1⟩ := hc.1
      obtain ⟨b1, r1, e1, o1, k1, hc2⟩ := hc1
      obtain ⟨b2, r2, e2, o2, k2, hc3⟩ := hc2
      obtain ⟨b3, r3, e3, o3, k3, hc4⟩ := hc3
      simp only [idxs, List.cons.injEq] at e0
      obtain ⟨rfl, rfl⟩ := e0
      simp only [List.cons.injEq] at e1
      obtain ⟨rfl, rfl⟩ := e1
      simp only [List.cons.injEq] at e2
      obtain ⟨rfl, rfl⟩ := e2
      simp only [List.cons.injEq] at e3
      obtain ⟨rfl, rfl⟩ := e3
      exact ⟨_, _, rfl, o0, k0, _, _, rfl, o1, k1, _, _, rfl, o3, k3, rfl⟩
    have hWE : W = ((((w.alloc (.cells #[.pointer (some ⟨Nt, 0, none⟩)] 98)).alloc (.cells #[.int .i64 (v : Int)] 3)).alloc (.cells #[.int .i64 (c : Int)] 3)).alloc (.cells #[tv] 103)).alloc (.cells #[.func (.func 163) #[] #[.pointer (some ⟨w.heap.size, 0, none⟩), .pointer (some ⟨w.heap.size + 1, 0, none⟩), .pointer (some ⟨w.heap.size + 1 + 1 + 1, 0, none⟩)]] 102) := by rw [hW, hav, hn]; rfl
    have HWE := Lib.hid hWE
    have HN := Lib.hid hn
    have hmf : ∀ (fn : Fn) (first cap : Array Value) (w : World), (Instr.makeFunc fn first cap).run Tryz.prog w = .ok (.func fn first cap) w := fun _ _ _ _ => rfl
    have hform := ht.form
    clear hc ht hf h0 hW hWE hav hn
    rcases hform with rfl | ⟨fn, caps, rfl⟩
    all_goals
      go_enter Tryz.func137, Tryz.ntmps137
      go_wp2_with fail
      go_ret
      rw [HWE.out, HN.out] at HE
      exact ⟨_, rfl, HE.out.1, HE.out.2⟩
set_option maxRecDepth 4000 in
set_option maxHeartbeats 1000000 in
theorem ntPaint_any (hf : Fut o w) (c : Nat) (f : Bool) (t : MD) (tv : Value) (ht : MClo o w Nt M t tv) : Calls Tryz.prog 171 #[.pointer (some ⟨Nt, 0, none⟩), .int .i64 (c : Int), .bool f, tv] w fun e w' => ∃ nv, e = .returned nv ∧ MClo o w' Nt M (.paint c f t) nv ∧ Keep none_ w w' := by
  have hc := caps_new (o := o) [([ptrV Nt], 98), ([.int .i64 (c : Int)], 3), ([.bool f], 4), ([tv], 103)] w hf
  have HE : Hid (MClo o (allocL w [([ptrV Nt], 98), ([.int .i64 (c : Int)], 3), ([.bool f], 4), ([tv], 103)]) Nt M (.paint c f t) (.func (.func 199) #[] #[ptrV w.heap.size, ptrV (w.heap.size + 1), ptrV (w.heap.size + 1 + 1), ptrV (w.heap.size + 1 + 1 + 1)]) ∧ Keep none_ w (allocL w [([ptrV Nt], 98), ([.int .i64 (c : Int)], 3), ([.bool f], 4), ([tv], 103)])) := ⟨⟨tv, ht.still hc.2, ⟨_, rfl, hc.1⟩⟩, hc.2⟩
  have hmf : ∀ (fn : Fn) (first cap : Array Value) (w : World), (Instr.makeFunc fn first cap).run Tryz.prog w = .ok (.func fn first cap) w := fun _ _ _ _ => rfl
  have hform := ht.form
  clear hc ht hf
  rcases hform with rfl | ⟨fn, caps, rfl⟩
  all_goals
    go_enter Tryz.func171, Tryz.ntmps171
    go_wp2_with fail
    go_ret
    exact ⟨_, rfl, HE.out.1, HE.out.2⟩
end
end Go.Proofs.YtjdnkhljgnjkcaaGreatDoor
