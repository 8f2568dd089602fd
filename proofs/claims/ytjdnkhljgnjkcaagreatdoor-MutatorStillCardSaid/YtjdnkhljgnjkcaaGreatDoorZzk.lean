/- Parts of a walk, put together by a small program of mine from texts of their own: Heap3 Heap4 Heap5. -/
import Derived.Test.YtjdnkhljgnjkcaaGreatDoorZzj
/- The heap in memory: Take, Put, Assign, Free. -/
namespace Go.Proofs.YtjdnkhljgnjkcaaGreatDoor
open Go.RowKit
attribute [local go_sem] Oper.semAt_some

/-- A function of one pointer that hands its pointer's field, and a number, to another one. -/
theorem hin_of {In : List Nat} {sz : Nat} {H : HS} (hi : ∀ n : Nat, hasP sz In (n : Int) = H.inn n) {a : Nat} (ha : a < sz) : putP sz In (a : Int) true = !H.inn a := by
  unfold putP
  rw [hi, decide_eq_true (by omega), Bool.true_and]
  cases H.inn a <;> rfl
section
variable {w w' : World} {D : Nat → Nat} {H : HS}
theorem F_set {H : HS} {k : Nat} (l : List Nat) (H' : HS) (hf : H'.fr = H.fr.set k l) : H'.F = H.F.set k (l.headD 0) := by
  unfold HS.F
  rw [hf, List.map_set]
/-- Take, of the lists of a heap. -/
theorem lTake_heap (h : HeapAt w D H) (k : Nat) (hk : k < 4) : Calls Tryz.prog 146 #[.pointer (some ⟨D 5, 0, none⟩), .int .i64 (k : Int)] w fun e w' => e = .returned (.tuple #[.int .i64 ((H.takeP k).1 : Int), .int .i64 ((H.takeP k).2.1 : Int)]) ∧ HeapAt w' D (H.takeP k).2.2 ∧ Keep (HF D) w w' := by
  obtain ⟨In, hl, hi⟩ := h.lists
  have hf := H.F_at h.inv.flen hk
  unfold HS.takeP
  cases hr : H.row k with
  | nil =>
    rw [hr] at hf
    refine (lTake_none hl k hk hf).mono ?_
    rintro e w' ⟨rfl, rfl⟩
    exact ⟨rfl, h, Keep.refl _ _⟩
  | cons a l =>
    rw [hr] at hf
    obtain ⟨hw, ⟨B, ho⟩, hb, hin, hn⟩ := h.inv.taken hk hr
    obtain ⟨o1, o2, _⟩ := owner_some ho
    have hal := h.inv.alen
    have ha : a = (a - 1) + 1 := by omega
    have hne : D 7 ≠ D 2 := fun e => absurd (h.inj 7 2 (by decide) (by decide) e) (by decide)
    have hwd : H.A.getD (a - 1) 0 = linkW (l.headD 0) := by
      unfold HS.word wordF at hw
      rw [if_pos o1] at hw; exact hw
    refine (lTake_ok hl h.arena hne (a - 1) k (l.headD 0) hk (hf.trans ha) (by omega) hwd hn).mono ?_
    rintro e w' ⟨rfl, h1, h2, h3⟩
    rw [show ((a - 1 : Nat) : Int) + 1 = (a : Int) by omega] at h1 ⊢
    refine ⟨rfl, ?_, ?_⟩
    · refine h.setLists (A := H.A) (fr := H.fr.set k (H.row k).tail) (In := putL H.sz In (a : Int) false) (h3.mono (fun x _ hx => ?_)) h2 ?_ ?_ (h.inv.take hk)
      · rcases hx with e | e | e
        · exact ⟨5, by simp, e⟩
        · exact ⟨7, by simp, e⟩
        · exact ⟨1, by simp, e⟩
      · rw [F_set (H.row k).tail _ rfl, hr]
        exact h1
      · intro n
        rw [has_put hl.set.len (by unfold HS.sz; omega), hi]
        exact (h.inv.inn_take hk hr n).symm
    · refine h3.mono (fun x _ hx => ?_)
      rcases hx with e | e | e
      · exact ⟨5, by decide, e⟩
      · exact ⟨7, by decide, e⟩
      · exact ⟨1, by decide, e⟩
set_option maxRecDepth 4000 in
set_option maxHeartbeats 400000 in
theorem hTake_any (h : HeapAt w D H) (k : Nat) (hk : k < 4) : Calls Tryz.prog 102 #[.pointer (some ⟨D 0, 0, none⟩), .int .i64 (k : Int)] w fun e w' => e = .returned (.tuple #[.int .i64 ((H.takeP k).1 : Int), .int .i64 ((H.takeP k).2.1 : Int)]) ∧ HeapAt w' D (H.takeP k).2.2 ∧ Keep (HF D) w w' := by
  have HT := Lib.hid (lTake_heap h k hk)
  have y2 := h.blk.cell 2 rfl
  generalize (H.takeP k).1 = r1 at *
  generalize (H.takeP k).2.1 = r2 at *
  generalize (H.takeP k).2.2 = H' at *
  clear h
  go_enter Tryz.func102, Tryz.ntmps102
  go_wp2_with (go_at_call 146; refine HT.out.mono ?_; rintro e w1 ⟨rfl, h1, k1⟩; have HH := Lib.hid h1; have HK := Lib.hid k1; clear h1 k1)
  go_ret2
  exact ⟨rfl, HH.out, HK.out⟩
/-- Put, of the lists of a heap, where the slot is not born. -/
theorem lPut_heap (h : HeapAt w D H) (a : Nat) (hb : H.bn a = false) : Calls Tryz.prog 149 #[.pointer (some ⟨D 5, 0, none⟩), .int .i64 (a : Int)] w fun e w' => (∃ er : Int, e = .returned (.int .i64 er)) ∧ HeapAt w' D (H.putP a) ∧ Keep (HF D) w w' := by
  obtain ⟨In, hl, hi⟩ := h.lists
  have eo := h.owner_eq a
  unfold HS.putP
  cases ho : H.owner a with
  | none =>
    rw [ho] at eo
    refine (lPut_no hl (a : Int) (fun W hW => tOwner_no (h.still hW).table H.ww a h.cw eo (h.still hW).tabs (h.still hW).sizes)).mono ?_
    rintro e w' ⟨rfl, h1⟩
    exact ⟨⟨_, rfl⟩, h.still h1, h1.none_hf⟩
  | some x =>
    obtain ⟨B, k⟩ := x
    rw [ho] at eo
    have hk := h.inv.cls ho
    obtain ⟨o1, o2, _⟩ := owner_some ho
    have hal := h.inv.alen
    have hsz : a < H.sz := by unfold HS.sz; omega
    have hO : ∀ W, Keep none_ w W → Calls Tryz.prog 150 #[.pointer (some ⟨D 3, 0, none⟩), .int .i64 (a : Int)] W fun e w' => e = .returned (.tuple #[.int .i64 (B : Int), .int .i64 (k : Int), .bool true]) ∧ Keep none_ W w' :=
      fun W hW => tOwner_yes (h.still hW).table H.ww a B k h.cw eo (h.still hW).tabs (h.still hW).sizes
    cases hin : H.inn a with
    | true =>
      simp only [hb, Bool.or_true, if_true]
      refine (lPut_in hl (a : Int) k B (by rw [hin_of hi hsz, hin]; rfl) hO).mono ?_
      rintro e w' ⟨rfl, h1, h2⟩
      have hk2 : Keep (sel D [1, 2, 5, 7]) w w' := h2.sel1 (i := 7) rfl
      have n1 : ¬ only (D 7) (D 1) := fun e => absurd (h.inj 1 7 (by decide) (by decide) e) (by decide)
      have n2 : ¬ only (D 7) (D 2) := fun e => absurd (h.inj 2 7 (by decide) (by decide) e) (by decide)
      exact ⟨⟨_, rfl⟩, h.setLists (A := H.A) (fr := H.fr) hk2 (h.arena.keep h2 n1 n2) h1 hi h.inv, hk2.hf rfl⟩
    | false =>
      simp only [hb, Bool.or_self, Bool.false_eq_true, if_false]
      have hne : D 7 ≠ D 2 := fun e => absurd (h.inj 7 2 (by decide) (by decide) e) (by decide)
      have ha : ((a - 1 : Nat) : Int) + 1 = (a : Int) := by omega
      have hin' : hasP H.sz In (((a - 1 : Nat) : Int) + 1) = false := by rw [ha, hi]; exact hin
      refine (show Calls _ _ _ _ _ by rw [← ha]; exact lPut_any hl h.arena hne (a - 1) k B (by omega) (by unfold HS.sz; omega) hin' hk (by rw [ha]; exact hO)).mono ?_
      rintro e w' ⟨rfl, h1, h2, h3⟩
      rw [ha, show a - 1 + 1 = a by omega] at h1
      rw [H.F_at h.inv.flen hk] at h2
      refine ⟨⟨_, rfl⟩, ?_, ?_⟩
      · refine h.setLists (A := H.A.set (a - 1) (linkW ((H.row k).headD 0))) (fr := H.fr.set k (a :: H.row k)) (In := putL H.sz In (a : Int) true) (h3.mono (fun x _ hx => ?_)) h2 ?_ ?_ (h.inv.put ho hb hin)
        · rcases hx with e | e | e | e
          · exact ⟨5, by simp, e⟩
          · exact ⟨7, by simp, e⟩
          · exact ⟨1, by simp, e⟩
          · exact ⟨2, by simp, e⟩
        · rw [F_set (a :: H.row k) _ rfl]
          exact h1
        · intro n
          rw [has_put hl.set.len hsz, hi]
          exact (h.inv.inn_put ho hb hin n).symm
      · refine h3.mono (fun x _ hx => ?_)
        rcases hx with e | e | e | e
        · exact ⟨5, by decide, e⟩
        · exact ⟨7, by decide, e⟩
        · exact ⟨1, by decide, e⟩
        · exact ⟨2, by decide, e⟩
set_option maxRecDepth 4000 in
set_option maxHeartbeats 400000 in
theorem hPut_any (h : HeapAt w D H) (a : Nat) : Calls Tryz.prog 105 #[.pointer (some ⟨D 0, 0, none⟩), .int .i64 (a : Int)] w fun e w' => (∃ er : Int, e = .returned (.int .i64 er)) ∧ HeapAt w' D (H.putP a) ∧ Keep (HF D) w w' := by
  have y3 := h.blk.cell 3 rfl
  have y2 := h.blk.cell 2 rfl
  have HB := Lib.hid (h.born.has a)
  cases hb : H.bn a with
  | true =>
    have HE : Hid (H.putP a = H) := by
      unfold Hid HS.putP
      split
      · rfl
      · rw [hb]; rfl
    rw [HE.out]
    rw [hb] at HB
    have HH := Lib.hid h
    clear h hb HE
    go_enter Tryz.func105, Tryz.ntmps105
    go_wp2_with (go_at_call 79; refine HB.out.mono ?_; rintro e w1 ⟨rfl, rfl⟩)
    go_ret
    exact ⟨⟨_, rfl⟩, HH.out, Keep.refl _ _⟩
  | false =>
    have HP := Lib.hid (lPut_heap h a hb)
    rw [hb] at HB
    generalize H.putP a = H' at *
    clear h hb
    go_enter Tryz.func105, Tryz.ntmps105
    go_wp2_with (first | (go_at_call 79; refine HB.out.mono ?_; rintro e w1 ⟨rfl, rfl⟩) | (go_at_call 149; refine HP.out.mono ?_; rintro e w1 ⟨⟨er, rfl⟩, h1, k1⟩; have HH := Lib.hid h1; have HK := Lib.hid k1; clear h1 k1))
    go_ret
    exact ⟨⟨_, rfl⟩, HH.out, HK.out⟩
set_option maxRecDepth 4000 in
set_option maxHeartbeats 400000 in
theorem hFree_any (h : HeapAt w D H) (a : Nat) : Calls Tryz.prog 238 #[.pointer (some ⟨D 0, 0, none⟩), .int .i64 (a : Int)] w fun e w' => (∃ er : Int, e = .returned (.int .i64 er)) ∧ HeapAt w' D (H.freeP a) ∧ Keep (HF D) w w' := by
  have y3 := h.blk.cell 3 rfl
  cases hb : H.bn a with
  | false =>
    have HE : Hid (H.freeP a = H) := by unfold Hid HS.freeP; rw [hb]; rfl
    rw [HE.out]
    have hBP := h.born.out_no a hb
    have HBP := Lib.hid hBP
    have HR : Hid (∀ w', SetF w' (D 8) (D 9) H.sz H.bn → Keep (only (D 9)) w w' → HeapAt w' D H) := fun w' hs k => h.setBorn (s := H.bn) (k.sel1 rfl) hs h.inv
    clear h hb HE hBP
    go_enter Tryz.func238, Tryz.ntmps238
    go_wp2_with (go_at_call 111; refine HBP.out.mono ?_; rintro e w1 ⟨rfl, hs, k1⟩; have HS := Lib.hid hs; have HK := Lib.hid k1; clear hs k1)
    go_ret
    exact ⟨⟨_, rfl⟩, HR.out _ HS.out HK.out, (HK.out.sel1 (I := [9]) rfl).hf rfl⟩
  | true =>
    have HE : Hid (H.freeP a = (H.kill a).putP a) := by unfold Hid HS.freeP; rw [hb]; rfl
    rw [HE.out]
    have ha := h.born.low hb
    have hBP := h.born.put a ha false
    rw [hb] at hBP
    have HBP := Lib.hid hBP
    have HR : Hid (∀ w', SetF w' (D 8) (D 9) H.sz (upd H.bn a false) → Keep (only (D 9)) w w' → HeapAt w' D (H.kill a)) := fun w' hs k => h.setBorn (s := upd H.bn a false) (k.sel1 rfl) hs (h.inv.kill a)
    have HL : Hid (∀ w', HeapAt w' D (H.kill a) → Calls Tryz.prog 149 #[.pointer (some ⟨D 5, 0, none⟩), .int .i64 (a : Int)] w' fun e w2 => (∃ er : Int, e = .returned (.int .i64 er)) ∧ HeapAt w2 D ((H.kill a).putP a) ∧ Keep (HF D) w' w2) := fun w' h' =>
      lPut_heap h' a (by show upd H.bn a false a = false; unfold upd; rw [if_pos rfl])
    generalize (H.kill a).putP a = H2 at *
    clear h hb HE hBP ha
    go_enter Tryz.func238, Tryz.ntmps238
    go_wp2_with (go_at_call 111; refine HBP.out.mono ?_; rintro e w1 ⟨rfl, hs, k1⟩; have HH1 := Lib.hid (HR.out _ hs k1); have HK := Lib.hid ((k1.sel1 (D := D) (i := 9) (I := [9]) rfl).hf rfl); have z2 := (HR.out _ hs k1).blk.cell 2 rfl; clear hs k1)
    have HL1 := Lib.hid (HL.out _ HH1.out)
    go_wp2_with (go_at_call 149; refine HL1.out.mono ?_; rintro e w2 ⟨⟨er, rfl⟩, h2, k2⟩; have HH2 := Lib.hid h2; have HK2 := Lib.hid k2; clear h2 k2)
    go_ret
    exact ⟨⟨_, rfl⟩, HH2.out, HK.out.trans HK2.out⟩
/-- The slots of a block, of any number. -/
theorem tSlots_heap (h : HeapAt w D H) (B : Nat) (hB : H.K.getD B 0 ≠ 0) : Calls Tryz.prog 84 #[.pointer (some ⟨D 3, 0, none⟩), .int .i64 (B : Int)] w fun e w' => ∃ v, e = .returned v ∧ w'.ownsRow w.heap.size 3 1 v (H.slots B).length ((H.slots B).map fun x : Nat => .int .i64 (x : Int)) ∧ Keep none_ w w' := by
  have hBl : B < H.K.length := by
    rcases Nat.lt_or_ge B H.K.length with g | g
    · exact g
    · rw [List.getD_eq_getElem?_getD, List.getElem?_eq_none g] at hB
      simp at hB
  have hk4 : H.K.getD B 0 ≤ 4 := by
    rw [List.getD_eq_getElem?_getD, List.getElem?_eq_getElem hBl]
    exact h.table.le _ (List.getElem_mem hBl)
  have h1 := tSlots_in h.table H.ww B (H.K.getD B 0 - 1) h.cw hBl (by omega) (by omega) h.tabs h.sizes
  rw [show H.K.getD B 0 - 1 + 1 = H.K.getD B 0 by omega] at h1
  unfold HS.slots
  rw [if_neg hB, slotsL_len]
  exact h1
set_option maxRecDepth 4000 in
set_option maxHeartbeats 1000000 in
theorem hAssign_any (h : HeapAt w D H) (k : Nat) (hk : k < 4) : Calls Tryz.prog 103 #[.pointer (some ⟨D 0, 0, none⟩), .int .i64 (k : Int)] w fun e w' => ∃ v, e = .returned (.tuple #[v, .int .i64 ((H.assignP k).2.1 : Int)]) ∧ w'.ownsRow w.heap.size 3 1 v (H.assignP k).1.length ((H.assignP k).1.map fun x : Nat => .int .i64 (x : Int)) ∧ HeapAt w' D (H.assignP k).2.2 ∧ Keep (HF D) w w' := by
  have y1 := h.blk.cell 1 rfl
  unfold HS.assignP
  cases hf : H.K.findIdx? (fun x => x == 0) with
  | none =>
    have hl : ∀ j, j < H.K.length → H.K.getD j 0 ≠ 0 := fun j hj e => by
      rw [List.findIdx?_eq_none_iff] at hf
      have := hf _ (List.getElem_mem hj)
      rw [List.getD_eq_getElem?_getD, List.getElem?_eq_getElem hj] at e
      simp at e this
      exact this e
    have HA := Lib.hid (tAssign_full h.table k hl hk)
    have HH := Lib.hid h
    have HN : Hid (w.ownsRow w.heap.size 3 1 (.slice none 0 0) 0 []) := ⟨rfl, .inl ⟨rfl, rfl⟩⟩
    clear h hf hl
    go_enter Tryz.func103, Tryz.ntmps103
    go_wp2_with (go_at_call 147; refine HA.out.mono ?_; rintro e w1 ⟨rfl, rfl⟩)
    go_ret2
    exact ⟨_, rfl, HN.out, HH.out, Keep.refl _ _⟩
  | some B =>
    obtain ⟨hB, h0, hl⟩ := List.findIdx?_eq_some_iff_getElem.1 hf
    have h0' : H.K.getD B 0 = 0 := by
      rw [List.getD_eq_getElem?_getD, List.getElem?_eq_getElem hB]; simpa using h0
    have hl' : ∀ j, j < B → H.K.getD j 0 ≠ 0 := fun j hj e => by
      have := hl j hj
      rw [List.getD_eq_getElem?_getD, List.getElem?_eq_getElem (by omega)] at e
      simp at e this
      exact this e
    dsimp only
    have HA := Lib.hid (tAssign_ok h.table B k hB h0' hl' hk)
    have HR : Hid (∀ w', TableAt w' (D 3) (D 4) H.c (H.K.set B (k + 1)) → Keep (only (D 4)) w w' → HeapAt w' D (H.assign B k)) := fun w' ht kk => h.setTable (K := H.K.set B (k + 1)) (kk.sel1 rfl) ht (h.inv.assign h0' hk)
    have HL : Hid (∀ w', HeapAt w' D (H.assign B k) → Calls Tryz.prog 84 #[.pointer (some ⟨D 3, 0, none⟩), .int .i64 (B : Int)] w' fun e w2 => ∃ v, e = .returned v ∧ w2.ownsRow w'.heap.size 3 1 v ((H.assign B k).slots B).length (((H.assign B k).slots B).map fun x : Nat => .int .i64 (x : Int)) ∧ Keep none_ w' w2) := fun w' h' =>
      tSlots_heap h' B (by show (H.K.set B (k + 1)).getD B 0 ≠ 0; rw [lset_same hB]; omega)
    generalize (H.assign B k).slots B = sl at *
    generalize H.assign B k = H2 at *
    clear h hf hB h0 hl h0' hl'
    go_enter Tryz.func103, Tryz.ntmps103
    go_wp2_with (go_at_call 147; refine HA.out.mono ?_; rintro e w1 ⟨rfl, ht, k1⟩; have HH1 := Lib.hid (HR.out _ ht k1); have HK := Lib.hid k1; have z1 := (HR.out _ ht k1).blk.cell 1 rfl; clear ht k1)
    have HL1 := Lib.hid (HL.out _ HH1.out)
    go_wp2_with (go_at_call 84; refine HL1.out.mono ?_; rintro e w2 ⟨v, rfl, ho, k2⟩; have HO := Lib.hid ho; have HK2 := Lib.hid k2; clear ho k2)
    go_ret2
    exact ⟨v, rfl, own_low HO.out HK.out.size, HH1.out.still HK2.out, ((HK.out.sel1 (D := D) (i := 4) (I := [4]) rfl).hf rfl).trans HK2.out.none_hf⟩
end
end Go.Proofs.YtjdnkhljgnjkcaaGreatDoor

/- The heap in memory: Begin, Bear; object, Fields, Load, Store; Table. -/
namespace Go.Proofs.YtjdnkhljgnjkcaaGreatDoor
open Go.RowKit
attribute [local go_sem] Oper.semAt_some

section
variable {w w' : World} {D : Nat → Nat} {H : HS}
theorem hand_facts {a : Nat} (hh : H.hand a = true) : ∃ B k, H.owner a = some (B, k) ∧ H.bn a = false ∧ H.inn a = false ∧ H.cls a = k := by
  unfold HS.hand at hh
  simp only [Bool.and_eq_true, Bool.not_eq_true'] at hh
  obtain ⟨⟨h1, h2⟩, h3⟩ := hh
  obtain ⟨⟨B, k⟩, ho⟩ := Option.isSome_iff_exists.1 h1
  exact ⟨B, k, ho, h2, h3, by unfold HS.cls; rw [ho]⟩
/-- A store of a word. -/
theorem aStore_heap (h : HeapAt w D H) (x v : Nat) (h1 : 1 ≤ x) (h2 : x ≤ H.b * H.ww) (hv : v < wordTop) (hi : HInv (H.lay x v)) : Calls Tryz.prog 108 #[.pointer (some ⟨D 1, 0, none⟩), .int .i64 (x : Int), .int .u64 (v : Int)] w fun e w' => e = .returned (.int .i64 0) ∧ HeapAt w' D (H.lay x v) ∧ Keep (HF D) w w' := by
  have hal := h.inv.alen
  have hx : ((x - 1 : Nat) : Int) + 1 = (x : Int) := by omega
  have h9 := aStore_in h.arena (x - 1) (by omega) v (by unfold wordTop at hv; omega)
  rw [hx] at h9
  refine h9.mono ?_
  rintro e w' ⟨rfl, g1, g2⟩
  have hk : Keep (sel D [1, 2]) w w' := g2.mono (fun y _ hy => by
    rcases hy with e | e
    · exact ⟨1, by simp, e⟩
    · exact ⟨2, by simp, e⟩)
  exact ⟨rfl, h.setArena (A := H.A.set (x - 1) v) hk g1 hi, hk.hf rfl⟩
set_option maxRecDepth 4000 in
set_option maxHeartbeats 2000000 in
/-- Begin, of a size that may be. -/
theorem hBegin_any (h : HeapAt w D H) (a f : Nat) (hf : f ≤ 15) : Calls Tryz.prog 63 #[.pointer (some ⟨D 0, 0, none⟩), .int .i64 (a : Int), .int .i64 (f : Int)] w fun e w' => (∃ er : Int, e = .returned (.int .i64 er)) ∧ HeapAt w' D (H.beginP a (f : Int)) ∧ Keep (HF D) w w' := by
  have HA := Lib.hid (hHand_any h a)
  have HH := Lib.hid h
  have hY : ∀ W, Keep none_ w W → W.cell? ⟨D 0, 0, none⟩ = some (.pointer (some ⟨D 1, 0, none⟩)) := fun W hW => (h.still hW).blk.cell 0 rfl
  have HY := Lib.hid hY
  cases hh : H.hand a with
  | false =>
    have HE : Hid (H.beginP a (f : Int) = H) := by
      unfold Hid HS.beginP
      split
      · rfl
      · rw [hh]; rfl
    rw [HE.out]
    rw [hh] at HA
    generalize H.cls a = k at *
    clear h hh HE hY
    go_enter Tryz.func63, Tryz.ntmps63
    go_wp2_with (go_at_call 106; refine HA.out.mono ?_; rintro e w1 ⟨rfl, k1⟩; have HK := Lib.hid k1; clear k1)
    go_ret
    exact ⟨⟨_, rfl⟩, HH.out.still HK.out, HK.out.none_hf⟩
  | true =>
    obtain ⟨B, k, ho, hb, hi, hc⟩ := hand_facts hh
    have hk := h.inv.cls ho
    rw [hh, hc] at HA
    have HO : Hid (∀ W, Keep none_ w W → Calls Tryz.prog 107 #[.int .i64 (k : Int), .int .i64 (f : Int)] W fun e w' => e = .returned (.tuple #[.int .u64 ((if objOk k f then objW k f else 0 : Nat) : Int), .bool (decide (objOk k f))]) ∧ W = w') := fun W hW => hdObject_any k f (by omega) (by omega) W (h.sizes.keep hW)
    by_cases hok : objOk k f
    · have HE : Hid (H.beginP a (f : Int) = H.begin a k f) := by
        unfold Hid HS.beginP
        rw [ho]
        simp only [Int.toNat_natCast]
        rw [hh, decide_eq_true hok, decide_eq_true (Int.natCast_nonneg f)]
        rfl
      rw [HE.out]
      rw [if_pos hok, decide_eq_true hok] at HO
      obtain ⟨o1, o2, _⟩ := owner_some ho
      have hox := (objW_facts hok).2.2.1
      have HST : Hid (∀ W, Keep none_ w W → Calls Tryz.prog 108 #[.pointer (some ⟨D 1, 0, none⟩), .int .i64 (a : Int), .int .u64 (objW k f : Int)] W fun e w' => e = .returned (.int .i64 0) ∧ HeapAt w' D (H.begin a k f) ∧ Keep (HF D) W w') := fun W hW =>
        aStore_heap (h.still hW) a (objW k f) o1 o2 (by unfold wordTop; omega) (h.inv.begin ho hb hi hok)
      generalize H.begin a k f = H2 at *
      generalize objW k f = ow at *
      clear h hh HE hY ho hok hb hi hc hox o1 o2
      go_enter Tryz.func63, Tryz.ntmps63
      go_wp2_with (go_at_call 106; refine HA.out.mono ?_; rintro e w1 ⟨rfl, k1⟩; have HK := Lib.hid k1; have z0 := HY.out _ k1; clear k1)
      have HO1 := Lib.hid (HO.out _ HK.out)
      have HST1 := Lib.hid (HST.out _ HK.out)
      go_wp2_with (first | (go_at_call 107; refine HO1.out.mono ?_; rintro e w2 ⟨rfl, rfl⟩) | (go_at_call 108; refine HST1.out.mono ?_; rintro e w2 ⟨rfl, h2, k2⟩; have HH2 := Lib.hid h2; have HK2 := Lib.hid k2; clear h2 k2))
      go_ret
      exact ⟨⟨_, rfl⟩, HH2.out, HK.out.none_hf.trans HK2.out⟩
    · have HE : Hid (H.beginP a (f : Int) = H) := by
        unfold Hid HS.beginP
        rw [ho]
        simp only [Int.toNat_natCast]
        rw [decide_eq_false hok]
        simp
      rw [HE.out]
      rw [if_neg hok, decide_eq_false hok] at HO
      clear h hh HE ho hok hb hi hc
      go_enter Tryz.func63, Tryz.ntmps63
      go_wp2_with (go_at_call 106; refine HA.out.mono ?_; rintro e w1 ⟨rfl, k1⟩; have HK := Lib.hid k1; clear k1)
      have HO1 := Lib.hid (HO.out _ HK.out)
      go_wp2_with (go_at_call 107; refine HO1.out.mono ?_; rintro e w2 ⟨rfl, rfl⟩)
      go_ret
      exact ⟨⟨_, rfl⟩, HH.out.still HK.out, HK.out.none_hf⟩
def HS.bearE (H : HS) (a c : Nat) : Nat := if H.hand a && decide (c < 2) then (if (H.hdr a).isSome then 0 else 11) else 1
set_option maxRecDepth 4000 in
set_option maxHeartbeats 4000000 in
theorem hBear_any (h : HeapAt w D H) (a c : Nat) : Calls Tryz.prog 65 #[.pointer (some ⟨D 0, 0, none⟩), .int .i64 (a : Int), .int .i64 (c : Int)] w fun e w' => e = .returned (.int .i64 (H.bearE a c : Int)) ∧ HeapAt w' D (H.bearP a c) ∧ Keep (HF D) w w' := by
  have HA := Lib.hid (hHand_any h a)
  have HCO : Hid (∀ W, Calls Tryz.prog 61 #[.int .i64 (c : Int)] W fun e w' => e = .returned (.bool (decide (c < 2))) ∧ W = w') := fun W => hcolor_any c W
  have HHD : Hid (∀ W, Keep none_ w W → Calls Tryz.prog 110 #[.pointer (some ⟨D 0, 0, none⟩), .int .i64 (a : Int)] W fun e w' => e = .returned (.tuple #[.int .i64 (H.nf a : Int), .bool (H.hdr a).isSome]) ∧ HeapAt w' D H ∧ Keep (only (D 1)) W w') := fun W hW => hHeader_any (h.still hW) a
  have HH := Lib.hid h
  generalize hn : H.nf a = n at HHD
  cases hh : H.hand a with
  | false =>
    have HE : Hid (H.bearP a c = H ∧ H.bearE a c = 1) := by
      refine ⟨?_, ?_⟩
      · unfold HS.bearP; rw [hh]; rfl
      · unfold HS.bearE; rw [hh]; rfl
    rw [HE.out.1, HE.out.2]
    rw [hh] at HA
    generalize H.cls a = k at *
    generalize decide (c < 2) = cc at *
    clear h hh HE hn
    go_enter Tryz.func65, Tryz.ntmps65
    go_wp2_with (go_at_call 106; refine HA.out.mono ?_; rintro e w1 ⟨rfl, k1⟩; have HK := Lib.hid k1; clear k1)
    go_ret
    exact ⟨rfl, HH.out.still HK.out, HK.out.none_hf⟩
  | true =>
    obtain ⟨B, k, ho, hb, hi, hc⟩ := hand_facts hh
    rw [hh, hc] at HA
    by_cases hc2 : c < 2
    · rw [decide_eq_true hc2] at HCO
      cases hm : H.hdr a with
      | none =>
        have HE : Hid (H.bearP a c = H ∧ H.bearE a c = 11) := by
          refine ⟨?_, ?_⟩
          · unfold HS.bearP; rw [hm]; simp
          · unfold HS.bearE; rw [hh, hm, decide_eq_true hc2]; rfl
        rw [HE.out.1, HE.out.2]
        rw [hm] at HHD
        clear h hh HE hn ho hb hi hc hc2 hm
        go_enter Tryz.func65, Tryz.ntmps65
        go_wp2_with (first | (go_at_call 106; refine HA.out.mono ?_; rintro e w1 ⟨rfl, k1⟩; have HK := Lib.hid k1; have HHD1 := Lib.hid (HHD.out _ k1); clear k1) | (go_at_call 61; refine (HCO.out _).mono ?_; rintro e w1 ⟨rfl, rfl⟩) | (go_at_call 110; refine HHD1.out.mono ?_; rintro e w2 ⟨rfl, h2, k2⟩; have HH2 := Lib.hid h2; have HK2 := Lib.hid k2; clear h2 k2))
        go_ret
        exact ⟨rfl, HH2.out, HK.out.none_hf.trans ((HK2.out.sel1 (D := D) (i := 1) (I := [1]) rfl).hf rfl)⟩
      | some m =>
        have HE : Hid (H.bearP a c = H.bear a (c == 1) ∧ H.bearE a c = 0) := by
          refine ⟨?_, ?_⟩
          · unfold HS.bearP; rw [hh, hm, decide_eq_true hc2]; rfl
          · unfold HS.bearE; rw [hh, hm, decide_eq_true hc2]; rfl
        rw [HE.out.1, HE.out.2]
        rw [hm] at HHD
        obtain ⟨o1, o2, _⟩ := owner_some ho
        have ha : a < H.sz := by unfold HS.sz; omega
        have HP1 : Hid (∀ W, HeapAt W D H → Calls Tryz.prog 111 #[.pointer (some ⟨D 8, 0, none⟩), .int .i64 (a : Int), .bool true] W fun e w' => (∃ r, e = .returned (.bool r)) ∧ HeapAt w' D { H with bn := upd H.bn a true } ∧ Keep (HF D) W w') := fun W hW => by
          refine (hW.born.put a ha true).mono ?_
          rintro e w' ⟨rfl, g1, g2⟩
          have hi2 : HInv { H with bn := upd H.bn a true } := by
            have := h.inv.bear (H.co a) ho hi hm
            have e2 : H.bear a (H.co a) = { H with bn := upd H.bn a true } := by
              unfold HS.bear
              congr 1
              funext x
              unfold upd
              split
              · rename_i e; rw [e]
              · rfl
            rw [e2] at this; exact this
          exact ⟨⟨_, rfl⟩, hW.setBorn (g2.sel1 rfl) g1 hi2, (g2.sel1 (I := [9]) rfl).hf rfl⟩
        have HP2 : Hid (∀ W, HeapAt W D { H with bn := upd H.bn a true } → Calls Tryz.prog 111 #[.pointer (some ⟨D 10, 0, none⟩), .int .i64 (a : Int), .bool (c == 1)] W fun e w' => (∃ r, e = .returned (.bool r)) ∧ HeapAt w' D (H.bear a (c == 1)) ∧ Keep (HF D) W w') := fun W hW => by
          refine (hW.cols.put a ha (c == 1)).mono ?_
          rintro e w' ⟨rfl, g1, g2⟩
          exact ⟨⟨_, rfl⟩, hW.setCols (s := upd H.co a (c == 1)) (g2.sel1 rfl) g1 (h.inv.bear (c == 1) ho hi hm), (g2.sel1 (I := [11]) rfl).hf rfl⟩
        have HEQ : Hid (((c : Int) == 1) = (c == 1)) := by unfold Hid; rw [Bool.eq_iff_iff]; simp; omega
        have HEQ2 := HEQ.out
        generalize { H with bn := upd H.bn a true } = H1 at *
        generalize H.bear a (c == 1) = H2 at *
        generalize (c == 1) = cc at *
        clear h hh HE hn ho hb hi hc hc2 hm o1 o2 ha HEQ
        go_enter Tryz.func65, Tryz.ntmps65
        go_wp2_with (first | (go_at_call 106; refine HA.out.mono ?_; rintro e w1 ⟨rfl, k1⟩; have HK := Lib.hid k1; have HHD1 := Lib.hid (HHD.out _ k1); clear k1) | (go_at_call 61; refine (HCO.out _).mono ?_; rintro e w1 ⟨rfl, rfl⟩) | (go_at_call 110; refine HHD1.out.mono ?_; rintro e w2 ⟨rfl, h2, k2⟩; have HH2 := Lib.hid h2; have HK2 := Lib.hid k2; have z3 := h2.blk.cell 3 rfl; clear h2 k2) | fail)
        refine (HP1.out _ HH2.out).mono ?_
        rintro e w3 ⟨⟨r, rfl⟩, h3, k3⟩
        have HH3 := Lib.hid h3
        have HK3 := Lib.hid k3
        have z4 := h3.blk.cell 4 rfl
        clear h3 k3 z3
        go_wp2_with fail
        refine (HP2.out _ HH3.out).mono ?_
        rintro e w4 ⟨⟨r4, rfl⟩, h4, k4⟩
        have HH4 := Lib.hid h4
        have HK4 := Lib.hid k4
        clear h4 k4 z4
        go_wp2_with fail
        go_ret
        exact ⟨rfl, HH4.out, HK.out.none_hf.trans (((HK2.out.sel1 (D := D) (i := 1) (I := [1]) rfl).hf rfl).trans (HK3.out.trans HK4.out))⟩
    · have HE : Hid (H.bearP a c = H ∧ H.bearE a c = 1) := by
        refine ⟨?_, ?_⟩
        · unfold HS.bearP; rw [decide_eq_false hc2]; simp
        · unfold HS.bearE; rw [decide_eq_false hc2]; simp
      rw [HE.out.1, HE.out.2]
      rw [decide_eq_false hc2] at HCO
      clear h hh HE hn ho hb hi hc hc2
      go_enter Tryz.func65, Tryz.ntmps65
      go_wp2_with (first | (go_at_call 106; refine HA.out.mono ?_; rintro e w1 ⟨rfl, k1⟩; have HK := Lib.hid k1; clear k1) | (go_at_call 61; refine (HCO.out _).mono ?_; rintro e w1 ⟨rfl, rfl⟩))
      go_ret
      exact ⟨rfl, HH.out.still HK.out, HK.out.none_hf⟩
end
end Go.Proofs.YtjdnkhljgnjkcaaGreatDoor

/- The heap in memory: object, Fields, Load, Store. -/
namespace Go.Proofs.YtjdnkhljgnjkcaaGreatDoor
open Go.RowKit
attribute [local go_sem] Oper.semAt_some

section
variable {w w' : World} {D : Nat → Nat} {H : HS}
theorem objE_of {a : Nat} (h : H.objE a = 0) : a ≠ 0 ∧ H.isO a = true := by
  unfold HS.objE at h
  split at h
  · cases h
  · split at h
    · rename_i h1 h2; exact ⟨h1, h2⟩
    · cases h
set_option maxRecDepth 4000 in
set_option maxHeartbeats 4000000 in
theorem hObject_no (h : HeapAt w D H) (a : Nat) (f : Value) (he : H.objE a ≠ 0) : Calls Tryz.prog 80 #[.pointer (some ⟨D 0, 0, none⟩), .int .i64 (a : Int), f] w fun e w' => e = .returned (.int .i64 (H.objE a : Int)) ∧ HeapAt w' D H ∧ Keep (HF D) w w' := by
  have HH := Lib.hid h
  by_cases h0 : a = 0
  · subst h0
    have HE : Hid (H.objE 0 = 6) := rfl
    rw [HE.out]
    clear h he HE
    go_enter Tryz.func80, Tryz.ntmps80
    go_wp2_with fail
    go_ret
    exact ⟨rfl, HH.out, Keep.refl _ _⟩
  · have ho : H.isO a = false := by
      unfold HS.objE at he
      rw [if_neg h0] at he
      cases hx : H.isO a
      · rfl
      · rw [hx] at he; exact absurd rfl he
    have HE : Hid (H.objE a = 1) := by unfold Hid HS.objE; rw [if_neg h0, ho]; rfl
    rw [HE.out]
    have HA := Lib.hid (hHand_any h a)
    have HHD : Hid (∀ W, Keep none_ w W → Calls Tryz.prog 110 #[.pointer (some ⟨D 0, 0, none⟩), .int .i64 (a : Int)] W fun e w' => e = .returned (.tuple #[.int .i64 (H.nf a : Int), .bool (H.hdr a).isSome]) ∧ HeapAt w' D H ∧ Keep (only (D 1)) W w') := fun W hW => hHeader_any (h.still hW) a
    have HB : Hid (∀ W, HeapAt W D H → Calls Tryz.prog 79 #[.pointer (some ⟨D 8, 0, none⟩), .int .i64 (a : Int)] W fun e w' => e = .returned (.bool (H.bn a)) ∧ W = w') := fun W hW => hW.born.has a
    have d0 : ((a : Int) == 0) = false := by simp; omega
    unfold HS.isO at ho
    generalize hn : H.nf a = n at HHD
    generalize H.cls a = k at *
    generalize H.bn a = x at *
    generalize H.hand a = y at *
    generalize (H.hdr a).isSome = z at *
    clear h he HE h0 hn
    cases x
    · cases y
      · clear ho
        cases z
        all_goals
          go_enter Tryz.func80, Tryz.ntmps80
          go_wp2_with (first | (go_at_call 106; refine HA.out.mono ?_; rintro e w1 ⟨rfl, k1⟩; have HK := Lib.hid k1; have HHD1 := Lib.hid (HHD.out _ k1); clear k1) | (go_at_call 110; refine HHD1.out.mono ?_; rintro e w2 ⟨rfl, h2, k2⟩; have HH2 := Lib.hid h2; have HK2 := Lib.hid k2; have z3 := h2.blk.cell 3 rfl; have HB2 := Lib.hid (HB.out _ h2); clear h2 k2) | (go_at_call 79; refine HB2.out.mono ?_; rintro e w3 ⟨rfl, rfl⟩))
          go_ret
          exact ⟨rfl, HH2.out, HK.out.none_hf.trans ((HK2.out.sel1 (D := D) (i := 1) (I := [1]) rfl).hf rfl)⟩
      · cases z
        · clear ho
          go_enter Tryz.func80, Tryz.ntmps80
          go_wp2_with (first | (go_at_call 106; refine HA.out.mono ?_; rintro e w1 ⟨rfl, k1⟩; have HK := Lib.hid k1; have HHD1 := Lib.hid (HHD.out _ k1); clear k1) | (go_at_call 110; refine HHD1.out.mono ?_; rintro e w2 ⟨rfl, h2, k2⟩; have HH2 := Lib.hid h2; have HK2 := Lib.hid k2; have z3 := h2.blk.cell 3 rfl; have HB2 := Lib.hid (HB.out _ h2); clear h2 k2) | (go_at_call 79; refine HB2.out.mono ?_; rintro e w3 ⟨rfl, rfl⟩))
          go_ret
          exact ⟨rfl, HH2.out, HK.out.none_hf.trans ((HK2.out.sel1 (D := D) (i := 1) (I := [1]) rfl).hf rfl)⟩
        · cases ho
    · cases ho
set_option maxRecDepth 4000 in
set_option maxHeartbeats 4000000 in
theorem hObject_yes (h : HeapAt w D H) (a : Nat) (fn : Nat) (hf : ∀ args w, (callFunc fn args).run Tryz.prog w = .ok (.enter fn args) w) (caps : Array Value) (er : Int) (P : World → Prop) (he : H.objE a = 0)
    (hc : ∀ W, HeapAt W D H → Keep (HF D) w W → Calls Tryz.prog fn (#[.int .i64 (H.nf a : Int)] ++ caps) W fun e w' => e = .returned (.int .i64 er) ∧ P w') :
    Calls Tryz.prog 80 #[.pointer (some ⟨D 0, 0, none⟩), .int .i64 (a : Int), .func (.func fn) #[] caps] w fun e w' => e = .returned (.int .i64 er) ∧ P w' := by
  obtain ⟨h0, ho⟩ := objE_of he
  have HA := Lib.hid (hHand_any h a)
  have HHD : Hid (∀ W, Keep none_ w W → Calls Tryz.prog 110 #[.pointer (some ⟨D 0, 0, none⟩), .int .i64 (a : Int)] W fun e w' => e = .returned (.tuple #[.int .i64 (H.nf a : Int), .bool (H.hdr a).isSome]) ∧ HeapAt w' D H ∧ Keep (only (D 1)) W w') := fun W hW => hHeader_any (h.still hW) a
  have HB : Hid (∀ W, HeapAt W D H → Calls Tryz.prog 79 #[.pointer (some ⟨D 8, 0, none⟩), .int .i64 (a : Int)] W fun e w' => e = .returned (.bool (H.bn a)) ∧ W = w') := fun W hW => hW.born.has a
  have d0 : ((a : Int) == 0) = false := by simp; omega
  have HC := Lib.hid hc
  unfold HS.isO at ho
  generalize H.nf a = n at *
  generalize H.cls a = k at *
  generalize H.bn a = x at *
  generalize H.hand a = y at *
  generalize (H.hdr a).isSome = z at *
  clear h he h0 hc
  cases x
  · cases y
    · cases ho
    · cases z
      · cases ho
      · clear ho
        go_enter Tryz.func80, Tryz.ntmps80
        go_wp2_with (first | (go_at_call 106; refine HA.out.mono ?_; rintro e w1 ⟨rfl, k1⟩; have HK := Lib.hid k1; have HHD1 := Lib.hid (HHD.out _ k1); clear k1) | (go_at_call 110; refine HHD1.out.mono ?_; rintro e w2 ⟨rfl, h2, k2⟩; have HH2 := Lib.hid h2; have HK2 := Lib.hid k2; have z3 := h2.blk.cell 3 rfl; have HB2 := Lib.hid (HB.out _ h2); clear h2 k2) | (go_at_call 79; refine HB2.out.mono ?_; rintro e w3 ⟨rfl, rfl⟩))
        refine (HC.out _ HH2.out (HK.out.none_hf.trans ((HK2.out.sel1 (D := D) (i := 1) (I := [1]) rfl).hf rfl))).mono ?_
        rintro e w4 ⟨rfl, hp⟩
        have HP := Lib.hid hp
        clear hp
        go_wp2_with fail
        go_ret
        exact ⟨rfl, HP.out⟩
  · clear ho
    cases y <;> cases z
    all_goals
      go_enter Tryz.func80, Tryz.ntmps80
      go_wp2_with (first | (go_at_call 106; refine HA.out.mono ?_; rintro e w1 ⟨rfl, k1⟩; have HK := Lib.hid k1; have HHD1 := Lib.hid (HHD.out _ k1); clear k1) | (go_at_call 110; refine HHD1.out.mono ?_; rintro e w2 ⟨rfl, h2, k2⟩; have HH2 := Lib.hid h2; have HK2 := Lib.hid k2; have z3 := h2.blk.cell 3 rfl; have HB2 := Lib.hid (HB.out _ h2); clear h2 k2) | (go_at_call 79; refine HB2.out.mono ?_; rintro e w3 ⟨rfl, rfl⟩))
      refine (HC.out _ HH2.out (HK.out.none_hf.trans ((HK2.out.sel1 (D := D) (i := 1) (I := [1]) rfl).hf rfl))).mono ?_
      rintro e w4 ⟨rfl, hp⟩
      have HP := Lib.hid hp
      clear hp
      go_wp2_with fail
      go_ret
      exact ⟨rfl, HP.out⟩
set_option maxRecDepth 4000 in
set_option maxHeartbeats 1000000 in
theorem hFields_any (h : HeapAt w D H) (a : Nat) : Calls Tryz.prog 41 #[.pointer (some ⟨D 0, 0, none⟩), .int .i64 (a : Int)] w fun e w' => e = .returned (.tuple #[.int .i64 ((H.fieldsP a).1 : Int), .int .i64 ((H.fieldsP a).2 : Int)]) ∧ HeapAt w' D H ∧ Keep (HF D) w w' := by
  obtain ⟨W0, hW0⟩ : ∃ W', W' = w.alloc (.cells #[.int .i64 0] 3) := ⟨_, rfl⟩
  have hk0 : Keep none_ w W0 := by rw [hW0]; exact (Keep.refl _ _).alloc _
  have hb0 : Blk W0 w.heap.size [.int .i64 0] 3 := by rw [hW0]; exact Blk.new w _ _
  have h0 := h.still hk0
  have hD : ∀ i, i < 13 → D i < w.heap.size := fun i hi => by
    have hl := h.lists
    obtain ⟨In, hl, _⟩ := hl
    obtain ⟨cap, hs1⟩ := hl.set.blk
    obtain ⟨cur, hs2, _⟩ := hl.set.wds
    obtain ⟨W1, hbn, _⟩ := h.born
    obtain ⟨W2, hco, _⟩ := h.cols
    obtain ⟨cap1, hb1⟩ := hbn.blk
    obtain ⟨cur1, hb2, _⟩ := hbn.wds
    obtain ⟨cap2, hc1⟩ := hco.blk
    obtain ⟨cur2, hc2, _⟩ := hco.wds
    obtain ⟨ld, st, ha⟩ := h.arena.blk
    match i, hi with
    | 0, _ => exact h.blk.lt
    | 1, _ => exact ha.lt
    | 2, _ => exact h.arena.wds.lt
    | 3, _ => exact h.table.blk.lt
    | 4, _ => exact h.table.cls.lt
    | 5, _ => exact hl.lt
    | 6, _ => exact hs1.lt
    | 7, _ => exact hs2.lt
    | 8, _ => exact hb1.lt
    | 9, _ => exact hb2.lt
    | 10, _ => exact hc1.lt
    | 11, _ => exact hc2.lt
    | 12, _ => exact h.cel.lt
  have hnew : ¬ HF D w.heap.size := by
    rintro ⟨i, hi, e⟩
    have := hD i hi
    omega
  have hmf : ∀ (fn : Fn) (first cap : Array Value) (w : World), (Instr.makeFunc fn first cap).run Tryz.prog w = .ok (.func fn first cap) w := fun _ _ _ _ => rfl
  unfold HS.fieldsP
  by_cases he : H.objE a = 0
  · have HC1 : ∀ W, HeapAt W D H → Keep (HF D) W0 W → Calls Tryz.prog 81 (#[.int .i64 (H.nf a : Int)] ++ #[.pointer (some ⟨w.heap.size, 0, none⟩)]) W fun e w' => e = .returned (.int .i64 0) ∧ (HeapAt w' D H ∧ Keep (HF D) w w' ∧ w'.cell? ⟨w.heap.size, 0, none⟩ = some (.int .i64 (H.nf a : Int))) := fun W hW hk => by
      have hbW := hk.blk hb0 hnew
      have hlt := hbW.lt
      have c0 := hbW.cell 0 rfl
      have f0 := hbW.free 0
      have hR : HeapAt (W.setCell ⟨w.heap.size, 0, none⟩ (.int .i64 (H.nf a : Int))) D H := hW.keep ((Keep.refl (only w.heap.size) W).put 0 _) (fun i hi e => hnew ⟨i, hi, e.symm⟩) (fun e => by
          have h9 := World.block_lt_of_cell? _ _ (h.tabs.lim 0 1 rfl); unfold only at e; rw [e] at h9; exact Nat.lt_irrefl _ h9) (fun e => by
          have h9 := World.block_lt_of_cell? _ _ (h.tabs.kind 0 [] rfl); unfold only at e; rw [e] at h9; exact Nat.lt_irrefl _ h9) (fun e => by
          have h9 := World.block_lt_of_cell? _ _ (h.sizes 0 2 rfl); unfold only at e; rw [e] at h9; exact Nat.lt_irrefl _ h9)
      have hK : Keep (HF D) w (W.setCell ⟨w.heap.size, 0, none⟩ (.int .i64 (H.nf a : Int))) := (hk0.none_hf.trans hk).putNew (Nat.le_refl _) 0 _
      have hb2 := (hbW.set 0 (.int .i64 (H.nf a : Int))).cell 0 (v := .int .i64 (H.nf a : Int)) rfl
      have HR : Hid (HeapAt (W.setCell ⟨w.heap.size, 0, none⟩ (.int .i64 (H.nf a : Int))) D H ∧ Keep (HF D) w (W.setCell ⟨w.heap.size, 0, none⟩ (.int .i64 (H.nf a : Int))) ∧ (W.setCell ⟨w.heap.size, 0, none⟩ (.int .i64 (H.nf a : Int))).cell? ⟨w.heap.size, 0, none⟩ = some (.int .i64 (H.nf a : Int))) := ⟨hR, hK, hb2⟩
      generalize H.nf a = n at *
      generalize w.heap.size = O at *
      clear h h0 hk0 hb0 hD hnew hmf he hW hk hbW hlt hR hK hb2 hW0
      show Calls Tryz.prog 81 #[.int .i64 (n : Int), .pointer (some ⟨O, 0, none⟩)] W _
      go_enter Tryz.func81, Tryz.ntmps81
      go_wp2_with fail
      go_ret
      exact ⟨rfl, HR.out⟩
    have HO := Lib.hid (hObject_yes h0 a 81 (fun args w => by simp [callFunc, Tryz.func81, go_sem]; rfl) #[.pointer (some ⟨w.heap.size, 0, none⟩)] 0 _ he HC1)
    rw [if_pos he]
    generalize H.nf a = n at *
    clear h h0 hk0 hb0 hD hnew he HC1
    go_enter Tryz.func41, Tryz.ntmps41
    go_wp2_with fail
    rw [← hW0]
    clear hW0
    refine HO.out.mono ?_
    rintro e w1 ⟨rfl, h1, k1, c1⟩
    have HH1 := Lib.hid h1
    have HK1 := Lib.hid k1
    clear h1 k1
    go_wp2_with fail
    go_ret2
    exact ⟨rfl, HH1.out, HK1.out⟩
  · have HO := Lib.hid (hObject_no h0 a (.func (.func 81) #[] #[.pointer (some ⟨w.heap.size, 0, none⟩)]) he)
    rw [if_neg he]
    have HB0 := Lib.hid hb0
    have HNW := Lib.hid hnew
    have HK0 := Lib.hid hk0
    generalize H.objE a = n at *
    clear h h0 hk0 hb0 hD hnew he
    go_enter Tryz.func41, Tryz.ntmps41
    go_wp2_with fail
    rw [← hW0]
    clear hW0
    refine HO.out.mono ?_
    rintro e w1 ⟨rfl, h1, k1⟩
    have HH1 := Lib.hid h1
    have HK1 := Lib.hid k1
    have c1 := (k1.blk HB0.out HNW.out).cell 0 rfl
    clear h1 k1
    go_wp2_with fail
    go_ret2
    exact ⟨rfl, HH1.out, HK0.out.none_hf.trans HK1.out⟩
end
end Go.Proofs.YtjdnkhljgnjkcaaGreatDoor
