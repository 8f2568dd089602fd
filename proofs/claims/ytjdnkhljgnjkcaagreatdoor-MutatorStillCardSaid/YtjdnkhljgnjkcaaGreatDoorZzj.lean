/- Parts of a walk, put together by a small program of mine from texts of their own: Heap1 Heap2 Lists4. -/
import Derived.Test.YtjdnkhljgnjkcaaGreatDoorZzg
import Derived.Test.YtjdnkhljgnjkcaaGreatDoorZzh
import Derived.Test.YtjdnkhljgnjkcaaGreatDoorZzi
/- The heap in memory: what there is; Config, value, color, Is, Color, Paint, Cell, SetCell. -/
namespace Go.Proofs.YtjdnkhljgnjkcaaGreatDoor
open Go.RowKit
attribute [local go_sem] Oper.semAt_some

/-- The blocks of some numbers. -/
def sel (D : Nat → Nat) (I : List Nat) : Nat → Prop := fun x => ∃ i ∈ I, x = D i
/-- A heap's blocks. -/
def HF (D : Nat → Nat) : Nat → Prop := fun x => ∃ i, i < 13 ∧ x = D i
/-- A heap in memory: its struct 0, the arena 1 and its words 2, the table 3 and its classes 4, the lists 5 and their set 6, 7, the set of what is born 8, 9, the colors 10, 11, the cells 12. -/
structure HeapAt (w : World) (D : Nat → Nat) (H : HS) : Prop where
  inj : ∀ i j, i < 13 → j < 13 → D i = D j → i = j
  blk : Blk w (D 0) [.pointer (some ⟨D 1, 0, none⟩), .pointer (some ⟨D 3, 0, none⟩), .pointer (some ⟨D 5, 0, none⟩), .pointer (some ⟨D 8, 0, none⟩), .pointer (some ⟨D 10, 0, none⟩), .slice (some ⟨D 12, 0, none⟩) H.cells.length H.cells.length] 118
  arena : ArenaAt w (D 1) (D 2) H.A
  table : TableAt w (D 3) (D 4) H.c H.K
  lists : ∃ In, ListsAt w (D 5) (D 6) (D 7) (D 1) (D 3) H.sz In H.F ∧ ∀ n : Nat, hasP H.sz In (n : Int) = H.inn n
  born : SetF w (D 8) (D 9) H.sz H.bn
  cols : SetF w (D 10) (D 11) H.sz H.co
  cel : Blk w (D 12) (tabV H.cells) 3
  cb : H.c.b = H.b
  cw : H.c.w = H.ww
  cc : H.c.c = (H.cells.length : Int)
  inv : HInv H
  tabs : Tabs w
  sizes : Sizes w
  glo : ∀ i, i < 13 → D i ≠ 2 ∧ D i ≠ 3 ∧ D i ≠ 1
theorem Tabs.keepS {S : Nat → Prop} {w w' : World} (h : Tabs w) (k : Keep S w w') (h1 : ¬ S 2) (h2 : ¬ S 3) : Tabs w' := ⟨fun i r hr => k.cellv (h.lim i r hr) h1, fun i s hs => k.cellv (h.kind i s hs) h2⟩
theorem Sizes.keepS {S : Nat → Prop} {w w' : World} (h : Sizes w) (k : Keep S w w') (h1 : ¬ S 1) : Sizes w' := fun i r hr => k.cellv (h i r hr) h1
section
variable {w w' : World} {D : Nat → Nat} {H : HS}
theorem nsel (inj : ∀ i j, i < 13 → j < 13 → D i = D j → i = j) (j : Nat) (I : List Nat) (h : (decide (j < 13) && I.all (fun i => decide (i < 13) && decide (i ≠ j))) = true) : ¬ sel D I (D j) := by
  rintro ⟨i, hi, e⟩
  simp only [Bool.and_eq_true, decide_eq_true_eq, List.all_eq_true] at h
  have h2 := h.2 i hi
  exact h2.2 (inj i j h2.1 h.1 e.symm)
theorem HeapAt.klen (h : HeapAt w D H) : H.K.length = H.b := by
  have h1 := h.table.len
  have h2 := h.cb
  omega
theorem HeapAt.nat (h : HeapAt w D H) : 1 ≤ H.b ∧ H.b ≤ 4096 ∧ 16 ≤ H.ww ∧ H.ww ≤ 256 ∧ H.b * H.ww ≤ 1048576 := ok_nat h.table.ok h.cb h.cw
theorem HeapAt.owner_eq (h : HeapAt w D H) (a : Nat) : ownerF H.K.length H.ww H.K a = H.owner a := by rw [h.klen]; rfl
/-- What is kept of a heap where some blocks change that aren't its own. -/
theorem HeapAt.keep {S : Nat → Prop} (h : HeapAt w D H) (k : Keep S w w') (hS : ∀ i, i < 13 → ¬ S (D i)) (h1 : ¬ S 2) (h2 : ¬ S 3) (h3 : ¬ S 1) : HeapAt w' D H := by
  obtain ⟨In, hl, hi⟩ := h.lists
  exact ⟨h.inj, k.blk h.blk (hS 0 (by decide)), h.arena.keep k (hS 1 (by decide)) (hS 2 (by decide)), h.table.keep k (hS 3 (by decide)) (hS 4 (by decide)), ⟨In, hl.keep k (hS 5 (by decide)) (hS 6 (by decide)) (hS 7 (by decide)), hi⟩,
    h.born.keep k (hS 8 (by decide)) (hS 9 (by decide)), h.cols.keep k (hS 10 (by decide)) (hS 11 (by decide)), k.blk h.cel (hS 12 (by decide)), h.cb, h.cw, h.cc, h.inv, h.tabs.keepS k h1 h2, h.sizes.keepS k h3, h.glo⟩
theorem HeapAt.still (h : HeapAt w D H) (k : Keep none_ w w') : HeapAt w' D H := h.keep k (fun _ _ f => f) (fun f => f) (fun f => f) (fun f => f)
theorem HeapAt.noGlo (h : HeapAt w D H) {S : Nat → Prop} (hS : ∀ x, S x → HF D x) : ¬ S 2 ∧ ¬ S 3 ∧ ¬ S 1 := by
  refine ⟨fun e => ?_, fun e => ?_, fun e => ?_⟩
  all_goals
    obtain ⟨i, hi, e⟩ := hS _ e
  · exact (h.glo i hi).1 e.symm
  · exact (h.glo i hi).2.1 e.symm
  · exact (h.glo i hi).2.2 e.symm
theorem sel_hf {I : List Nat} (h : I.all (fun i => decide (i < 13)) = true) (x : Nat) (hx : sel D I x) : HF D x := by
  obtain ⟨i, hi, e⟩ := hx
  exact ⟨i, by simpa using List.all_eq_true.1 h i hi, e⟩
theorem Keep.hf {I : List Nat} (k : Keep (sel D I) w w') (h : I.all (fun i => decide (i < 13)) = true) : Keep (HF D) w w' := k.mono (fun x _ hx => sel_hf h x hx)
theorem Keep.none_hf (k : Keep none_ w w') : Keep (HF D) w w' := k.mono (fun _ _ f => f.elim)
theorem Keep.sel1 {i : Nat} (k : Keep (only (D i)) w w') {I : List Nat} (h : I.contains i = true) : Keep (sel D I) w w' := k.mono (fun x _ e => ⟨i, by simpa using h, e⟩)
/-- The heap, some of its parts being new. -/
theorem HeapAt.setArena (h : HeapAt w D H) {A : List Nat} (k : Keep (sel D [1, 2]) w w') (hA : ArenaAt w' (D 1) (D 2) A) (hi : HInv { H with A := A }) : HeapAt w' D { H with A := A } := by
  obtain ⟨In, hl, hin⟩ := h.lists
  have g := h.noGlo (sel_hf (D := D) (I := [1, 2]) rfl)
  exact ⟨h.inj, k.blk h.blk (nsel h.inj 0 _ rfl), hA, h.table.keep k (nsel h.inj 3 _ rfl) (nsel h.inj 4 _ rfl), ⟨In, hl.keep k (nsel h.inj 5 _ rfl) (nsel h.inj 6 _ rfl) (nsel h.inj 7 _ rfl), hin⟩,
    h.born.keep k (nsel h.inj 8 _ rfl) (nsel h.inj 9 _ rfl), h.cols.keep k (nsel h.inj 10 _ rfl) (nsel h.inj 11 _ rfl), k.blk h.cel (nsel h.inj 12 _ rfl), h.cb, h.cw, h.cc, hi, h.tabs.keepS k g.1 g.2.1, h.sizes.keepS k g.2.2, h.glo⟩
theorem HeapAt.loaded (h : HeapAt w D H) (k : Keep (only (D 1)) w w') (hA : ArenaAt w' (D 1) (D 2) H.A) : HeapAt w' D H := h.setArena (k.sel1 rfl) hA h.inv
theorem HeapAt.setTable (h : HeapAt w D H) {K : List Nat} (k : Keep (sel D [4]) w w') (hT : TableAt w' (D 3) (D 4) H.c K) (hi : HInv { H with K := K }) : HeapAt w' D { H with K := K } := by
  obtain ⟨In, hl, hin⟩ := h.lists
  have g := h.noGlo (sel_hf (D := D) (I := [4]) rfl)
  exact ⟨h.inj, k.blk h.blk (nsel h.inj 0 _ rfl), h.arena.keep k (nsel h.inj 1 _ rfl) (nsel h.inj 2 _ rfl), hT, ⟨In, hl.keep k (nsel h.inj 5 _ rfl) (nsel h.inj 6 _ rfl) (nsel h.inj 7 _ rfl), hin⟩,
    h.born.keep k (nsel h.inj 8 _ rfl) (nsel h.inj 9 _ rfl), h.cols.keep k (nsel h.inj 10 _ rfl) (nsel h.inj 11 _ rfl), k.blk h.cel (nsel h.inj 12 _ rfl), h.cb, h.cw, h.cc, hi, h.tabs.keepS k g.1 g.2.1, h.sizes.keepS k g.2.2, h.glo⟩
theorem HeapAt.setLists (h : HeapAt w D H) {A : List Nat} {fr : List (List Nat)} {In : List Nat} (k : Keep (sel D [1, 2, 5, 7]) w w') (hA : ArenaAt w' (D 1) (D 2) A) (hL : ListsAt w' (D 5) (D 6) (D 7) (D 1) (D 3) H.sz In (HS.F { H with A := A, fr := fr })) (hin : ∀ n : Nat, hasP H.sz In (n : Int) = HS.inn { H with A := A, fr := fr } n)
    (hi : HInv { H with A := A, fr := fr }) : HeapAt w' D { H with A := A, fr := fr } := by
  have g := h.noGlo (sel_hf (D := D) (I := [1, 2, 5, 7]) rfl)
  exact ⟨h.inj, k.blk h.blk (nsel h.inj 0 _ rfl), hA, h.table.keep k (nsel h.inj 3 _ rfl) (nsel h.inj 4 _ rfl), ⟨In, hL, hin⟩,
    h.born.keep k (nsel h.inj 8 _ rfl) (nsel h.inj 9 _ rfl), h.cols.keep k (nsel h.inj 10 _ rfl) (nsel h.inj 11 _ rfl), k.blk h.cel (nsel h.inj 12 _ rfl), h.cb, h.cw, h.cc, hi, h.tabs.keepS k g.1 g.2.1, h.sizes.keepS k g.2.2, h.glo⟩
theorem HeapAt.setBorn (h : HeapAt w D H) {s : Nat → Bool} (k : Keep (sel D [9]) w w') (hB : SetF w' (D 8) (D 9) H.sz s) (hi : HInv { H with bn := s }) : HeapAt w' D { H with bn := s } := by
  obtain ⟨In, hl, hin⟩ := h.lists
  have g := h.noGlo (sel_hf (D := D) (I := [9]) rfl)
  exact ⟨h.inj, k.blk h.blk (nsel h.inj 0 _ rfl), h.arena.keep k (nsel h.inj 1 _ rfl) (nsel h.inj 2 _ rfl), h.table.keep k (nsel h.inj 3 _ rfl) (nsel h.inj 4 _ rfl), ⟨In, hl.keep k (nsel h.inj 5 _ rfl) (nsel h.inj 6 _ rfl) (nsel h.inj 7 _ rfl), hin⟩,
    hB, h.cols.keep k (nsel h.inj 10 _ rfl) (nsel h.inj 11 _ rfl), k.blk h.cel (nsel h.inj 12 _ rfl), h.cb, h.cw, h.cc, hi, h.tabs.keepS k g.1 g.2.1, h.sizes.keepS k g.2.2, h.glo⟩
theorem HeapAt.setCols (h : HeapAt w D H) {s : Nat → Bool} (k : Keep (sel D [11]) w w') (hB : SetF w' (D 10) (D 11) H.sz s) (hi : HInv { H with co := s }) : HeapAt w' D { H with co := s } := by
  obtain ⟨In, hl, hin⟩ := h.lists
  have g := h.noGlo (sel_hf (D := D) (I := [11]) rfl)
  exact ⟨h.inj, k.blk h.blk (nsel h.inj 0 _ rfl), h.arena.keep k (nsel h.inj 1 _ rfl) (nsel h.inj 2 _ rfl), h.table.keep k (nsel h.inj 3 _ rfl) (nsel h.inj 4 _ rfl), ⟨In, hl.keep k (nsel h.inj 5 _ rfl) (nsel h.inj 6 _ rfl) (nsel h.inj 7 _ rfl), hin⟩,
    h.born.keep k (nsel h.inj 8 _ rfl) (nsel h.inj 9 _ rfl), hB, k.blk h.cel (nsel h.inj 12 _ rfl), h.cb, h.cw, h.cc, hi, h.tabs.keepS k g.1 g.2.1, h.sizes.keepS k g.2.2, h.glo⟩
theorem HeapAt.setCel (h : HeapAt w D H) {cl : List Nat} (k : Keep (sel D [12]) w w') (hB : Blk w' (D 12) (tabV cl) 3) (hl : cl.length = H.cells.length) (hi : HInv { H with cells := cl }) : HeapAt w' D { H with cells := cl } := by
  obtain ⟨In, hl2, hin⟩ := h.lists
  have g := h.noGlo (sel_hf (D := D) (I := [12]) rfl)
  refine ⟨h.inj, ?_, h.arena.keep k (nsel h.inj 1 _ rfl) (nsel h.inj 2 _ rfl), h.table.keep k (nsel h.inj 3 _ rfl) (nsel h.inj 4 _ rfl), ⟨In, hl2.keep k (nsel h.inj 5 _ rfl) (nsel h.inj 6 _ rfl) (nsel h.inj 7 _ rfl), hin⟩,
    h.born.keep k (nsel h.inj 8 _ rfl) (nsel h.inj 9 _ rfl), h.cols.keep k (nsel h.inj 10 _ rfl) (nsel h.inj 11 _ rfl), hB, h.cb, h.cw, ?_, hi, h.tabs.keepS k g.1 g.2.1, h.sizes.keepS k g.2.2, h.glo⟩
  · have := k.blk h.blk (nsel h.inj 0 _ rfl)
    rw [← hl] at this; exact this
  · show H.c.c = (cl.length : Int)
    rw [hl]; exact h.cc

set_option maxRecDepth 4000 in
set_option maxHeartbeats 1000000 in
theorem hConfig_any (h : HeapAt w D H) : Calls Tryz.prog 50 #[.pointer (some ⟨D 0, 0, none⟩)] w fun e w' => e = .returned (.agg H.c.cells.toArray) ∧ Keep none_ w w' := by
  obtain ⟨W0, hW0⟩ : ∃ W', W' = w.alloc (.cells #[.int .i64 0, .int .i64 0, .int .i64 0, .int .i64 0, .int .i64 0, .int .i64 0, .int .i64 0] 23) := ⟨_, rfl⟩
  have hk0 : Keep none_ w W0 := by rw [hW0]; exact (Keep.refl _ _).alloc _
  have HC := Lib.hid (tConfig_any (h.table.still hk0))
  have y1 : ∀ o, (w.alloc o).cell? ⟨D 0, 1, none⟩ = some (.pointer (some ⟨D 3, 0, none⟩)) := fun o => ((Keep.refl none_ w).alloc o).still (h.blk.cell 1 rfl)
  have HO : Hid (Blk W0 w.heap.size [.int .i64 0, .int .i64 0, .int .i64 0, .int .i64 0, .int .i64 0, .int .i64 0, .int .i64 0] 23) := by rw [hW0]; exact Blk.new w _ _
  have HK := Lib.hid hk0
  generalize H.c = c at *
  obtain ⟨c0, c1, c2, c3, c4, c5, c6⟩ := c
  simp only [Conf.cells] at *
  have hOg : w.heap.size ≤ w.heap.size := Nat.le_refl _
  clear h hk0
  go_enter Tryz.func50, Tryz.ntmps50
  go_wp2_with fail
  rw [← hW0]
  clear hW0
  refine HC.out.mono ?_
  rintro e w1 ⟨rfl, hk1⟩
  have HK1 := Lib.hid (HK.out.trans hk1)
  have ho1 := hk1.blk HO.out (fun f => f)
  clear hk1 HK HC HO y1
  generalize hO : w.heap.size = O at *
  have o0 := ho1.cell 0 rfl; have o1 := ho1.cell 1 rfl; have o2 := ho1.cell 2 rfl; have o3 := ho1.cell 3 rfl; have o4 := ho1.cell 4 rfl; have o5 := ho1.cell 5 rfl; have o6 := ho1.cell 6 rfl
  have f0 := ho1.free 0; have f1 := ho1.free 1; have f2 := ho1.free 2; have f3 := ho1.free 3; have f4 := ho1.free 4; have f5 := ho1.free 5; have f6 := ho1.free 6
  have HO1 := Lib.hid ho1
  have HOE := Lib.hid hO
  clear ho1 hO
  go_wp2_with fail
  obtain ⟨W4, hW4⟩ : ∃ W', W' = (((((((w1.setCell ⟨O, 0, none⟩ (.int .i64 c0)).setCell ⟨O, 1, none⟩ (.int .i64 c1)).setCell ⟨O, 2, none⟩ (.int .i64 c2)).setCell ⟨O, 3, none⟩ (.int .i64 c3)).setCell ⟨O, 4, none⟩ (.int .i64 c4)).setCell ⟨O, 5, none⟩ (.int .i64 c5)).setCell ⟨O, 6, none⟩ (.int .i64 c6)) := ⟨_, rfl⟩
  rw [← hW4]
  have hF : Blk W4 O [.int .i64 c0, .int .i64 c1, .int .i64 c2, .int .i64 c3, .int .i64 c4, .int .i64 c5, .int .i64 c6] 23 := by rw [hW4]; exact ((((((HO1.out.set 0 _).set 1 _).set 2 _).set 3 _).set 4 _).set 5 _).set 6 _
  have k0 := hF.cell 0 rfl; have k1 := hF.cell 1 rfl; have k2 := hF.cell 2 rfl; have k3 := hF.cell 3 rfl; have k4 := hF.cell 4 rfl; have k5 := hF.cell 5 rfl; have k6 := hF.cell 6 rfl
  have hk4 : Keep none_ w W4 := by
    rw [hW4]
    exact HK1.out.trans' (((((((((Keep.refl (only O) w1).put 0 _).put 1 _).put 2 _).put 3 _).put 4 _).put 5 _).put 6 _)) (fun i hi e => by unfold only at e; have := HOE.out; omega)
  refine bodyPost_ret (v := .agg #[.int .i64 c0, .int .i64 c1, .int .i64 c2, .int .i64 c3, .int .i64 c4, .int .i64 c5, .int .i64 c6]) (by simp [results, Tryz.f50, go_sem, k0, k1, k2, k3, k4, k5, k6]) rfl ⟨rfl, hk4⟩
set_option maxRecDepth 4000 in
set_option maxHeartbeats 400000 in
theorem hcolor_any (c : Nat) (w : World) : Calls Tryz.prog 61 #[.int .i64 (c : Int)] w fun e w' => e = .returned (.bool (decide (c < 2))) ∧ w = w' := by
  by_cases h0 : c = 0
  · subst h0
    go_enter Tryz.func61, Tryz.ntmps61
    go_wp2_with fail
    go_ret
    exact ⟨rfl, rfl⟩
  · have d0 : ((c : Int) == 0) = false := by simp; omega
    by_cases h1 : c = 1
    · subst h1
      go_enter Tryz.func61, Tryz.ntmps61
      go_wp2_with fail
      go_ret
      exact ⟨rfl, rfl⟩
    · have d1 : ((c : Int) == 1) = false := by simp; omega
      have HE : Hid (decide (c < 2) = false) := decide_eq_false (by omega)
      clear h0 h1
      go_enter Tryz.func61, Tryz.ntmps61
      go_wp2_with fail
      go_ret
      rw [HE.out]
      exact ⟨rfl, rfl⟩
set_option maxRecDepth 4000 in
set_option maxHeartbeats 400000 in
theorem hIs_any (h : HeapAt w D H) (a : Nat) : Calls Tryz.prog 38 #[.pointer (some ⟨D 0, 0, none⟩), .int .i64 (a : Int)] w fun e w' => e = .returned (.bool (H.bn a)) ∧ w = w' := by
  have y3 := h.blk.cell 3 rfl
  have HB := Lib.hid (h.born.has a)
  generalize H.bn a = x at *
  clear h
  go_enter Tryz.func38, Tryz.ntmps38
  go_wp2_with (go_at_call 79; refine HB.out.mono ?_; rintro e w1 ⟨rfl, rfl⟩)
  go_ret
  exact ⟨rfl, rfl⟩
set_option maxRecDepth 4000 in
set_option maxHeartbeats 400000 in
theorem hvalue_any (h : HeapAt w D H) (v : Nat) : Calls Tryz.prog 67 #[.pointer (some ⟨D 0, 0, none⟩), .int .i64 (v : Int)] w fun e w' => e = .returned (.bool (decide (v ≤ H.n))) ∧ w = w' := by
  have y0 := h.blk.cell 0 rfl
  have HB := Lib.hid (aLen_any h.arena)
  rw [h.inv.alen] at HB
  have HE : Hid (decide ((v : Int) ≤ ((H.b * H.ww : Nat) : Int)) = decide (v ≤ H.n)) := by unfold Hid HS.n; simp only [Int.ofNat_le]
  generalize H.n = n at *
  generalize H.b * H.ww = m at *
  have h0 : decide ((0 : Int) ≤ (v : Int)) = true := decide_eq_true (by omega)
  clear h
  go_enter Tryz.func67, Tryz.ntmps67
  go_wp2_with (go_at_call 112; refine HB.out.mono ?_; rintro e w1 ⟨rfl, rfl⟩)
  all_goals
    go_ret
    refine ⟨?_, rfl⟩
    rw [← HE.out]
    simp
set_option maxRecDepth 4000 in
set_option maxHeartbeats 1000000 in
theorem hColor_any (h : HeapAt w D H) (a : Nat) : Calls Tryz.prog 166 #[.pointer (some ⟨D 0, 0, none⟩), .int .i64 (a : Int)] w fun e w' => e = .returned (.tuple #[.int .i64 ((if H.bn a then H.colorP a else 0 : Nat) : Int), .int .i64 (if H.bn a then 0 else 1)]) ∧ w = w' := by
  have y4 := h.blk.cell 4 rfl
  have HI := Lib.hid (hIs_any h a)
  have HB := Lib.hid (h.cols.has a)
  unfold HS.colorP
  generalize H.bn a = x at *
  generalize H.co a = y at *
  clear h
  cases x
  · go_enter Tryz.func166, Tryz.ntmps166
    go_wp2_with (first | (go_at_call 38; refine HI.out.mono ?_; rintro e w1 ⟨rfl, rfl⟩) | (go_at_call 79; refine HB.out.mono ?_; rintro e w1 ⟨rfl, rfl⟩))
    go_ret2
    exact ⟨rfl, rfl⟩
  · cases y
    all_goals
      go_enter Tryz.func166, Tryz.ntmps166
      go_wp2_with (first | (go_at_call 38; refine HI.out.mono ?_; rintro e w1 ⟨rfl, rfl⟩) | (go_at_call 79; refine HB.out.mono ?_; rintro e w1 ⟨rfl, rfl⟩))
      go_ret2
      exact ⟨rfl, rfl⟩
set_option maxRecDepth 4000 in
set_option maxHeartbeats 1000000 in
theorem hPaint_any (h : HeapAt w D H) (a c : Nat) : Calls Tryz.prog 201 #[.pointer (some ⟨D 0, 0, none⟩), .int .i64 (a : Int), .int .i64 (c : Int)] w fun e w' => e = .returned (.tuple #[.bool (H.paints a c), .int .i64 (if H.bn a && decide (c < 2) then 0 else 1)]) ∧ HeapAt w' D (H.paintP a c) ∧ Keep (HF D) w w' := by
  have y4 := h.blk.cell 4 rfl
  have HI := Lib.hid (hIs_any h a)
  have HC := Lib.hid (hcolor_any c w)
  by_cases hx : H.bn a = true
  · by_cases hc : c < 2
    · have ha : a < H.sz := h.born.low hx
      have HP := Lib.hid (h.cols.put a ha (c == 1))
      rw [hx] at HI
      rw [decide_eq_true hc] at HC
      have HEQ : Hid (((c : Int) == 1) = (c == 1)) := by unfold Hid; rw [Bool.eq_iff_iff]; simp; omega
      have HE : Hid (H.paints a c = (H.co a != (c == 1)) ∧ (H.bn a && decide (c < 2)) = true) := ⟨by unfold HS.paints; rw [hx, decide_eq_true hc]; simp, by rw [hx, decide_eq_true hc]; rfl⟩
      have HR : Hid (∀ w', Keep (only (D 11)) w w' → SetF w' (D 10) (D 11) H.sz (upd H.co a (c == 1)) → HeapAt w' D (H.paintP a c)) := fun w' k hs => by
        by_cases hp : H.paints a c = true
        · unfold HS.paintP
          rw [if_pos hp]
          exact h.setCols (k.sel1 rfl) hs (h.inv.paint a (c == 1))
        · unfold HS.paintP
          rw [if_neg hp]
          have hq : H.co a = (c == 1) := by rw [HE.out.1] at hp; simpa using hp
          have hu : upd H.co a (c == 1) = H.co := by
            funext x
            unfold upd
            split
            · rename_i e; subst e; exact hq.symm
            · rfl
          rw [hu] at hs
          exact h.setCols (s := H.co) (k.sel1 rfl) hs h.inv
      rw [HE.out.1, HE.out.2]
      generalize H.paintP a c = H' at *
      generalize (H.co a != (c == 1)) = z at *
      have HEQ2 := HEQ.out
      generalize (c == 1) = cc at *
      clear h hx hc ha HE HEQ
      go_enter Tryz.func201, Tryz.ntmps201
      go_wp2_with (first | (go_at_call 38; refine HI.out.mono ?_; rintro e w1 ⟨rfl, rfl⟩) | (go_at_call 61; refine HC.out.mono ?_; rintro e w1 ⟨rfl, rfl⟩) | (go_at_call 111; refine HP.out.mono ?_; rintro e w1 ⟨rfl, hs, hk⟩; have HS := Lib.hid hs; have HK := Lib.hid hk; clear hs hk))
      go_ret2
      exact ⟨rfl, HR.out _ HK.out HS.out, (HK.out.sel1 (I := [11]) rfl).hf rfl⟩
    · have HE : Hid (H.paints a c = false ∧ (H.bn a && decide (c < 2)) = false ∧ H.paintP a c = H) := by
        have h1 : H.paints a c = false := by unfold HS.paints; rw [decide_eq_false hc]; simp
        exact ⟨h1, by rw [decide_eq_false hc]; simp, by unfold HS.paintP; rw [h1]; rfl⟩
      rw [HE.out.1, HE.out.2.1, HE.out.2.2]
      rw [decide_eq_false hc] at HC
      rw [hx] at HI
      have HH := Lib.hid h
      clear h hx hc HE
      go_enter Tryz.func201, Tryz.ntmps201
      go_wp2_with (first | (go_at_call 38; refine HI.out.mono ?_; rintro e w1 ⟨rfl, rfl⟩) | (go_at_call 61; refine HC.out.mono ?_; rintro e w1 ⟨rfl, rfl⟩))
      go_ret2
      exact ⟨rfl, HH.out, Keep.refl _ _⟩
  · have hx0 : H.bn a = false := by simpa using hx
    have HE : Hid (H.paints a c = false ∧ (H.bn a && decide (c < 2)) = false ∧ H.paintP a c = H) := by
      have h1 : H.paints a c = false := by unfold HS.paints; rw [hx0]; simp
      exact ⟨h1, by rw [hx0]; simp, by unfold HS.paintP; rw [h1]; rfl⟩
    rw [HE.out.1, HE.out.2.1, HE.out.2.2]
    rw [hx0] at HI
    have HH := Lib.hid h
    clear h hx hx0 HE
    go_enter Tryz.func201, Tryz.ntmps201
    go_wp2_with (first | (go_at_call 38; refine HI.out.mono ?_; rintro e w1 ⟨rfl, rfl⟩) | (go_at_call 61; refine HC.out.mono ?_; rintro e w1 ⟨rfl, rfl⟩))
    go_ret2
    exact ⟨rfl, HH.out, Keep.refl _ _⟩
end
end Go.Proofs.YtjdnkhljgnjkcaaGreatDoor

/- The heap in memory: Cell, SetCell, hand, header. -/
namespace Go.Proofs.YtjdnkhljgnjkcaaGreatDoor
open Go.RowKit
attribute [local go_sem] Oper.semAt_some

section
variable {w w' : World} {D : Nat → Nat} {H : HS}
set_option maxRecDepth 4000 in
set_option maxHeartbeats 1000000 in
theorem hCell_any (h : HeapAt w D H) (i : Int) : Calls Tryz.prog 66 #[.pointer (some ⟨D 0, 0, none⟩), .int .i64 i] w fun e w' => e = .returned (.tuple #[.int .i64 (H.cellP i : Int), .int .i64 (H.cellE i : Int)]) ∧ w = w' := by
  have y5 := h.blk.cell 5 rfl
  have hlen : H.cells.length ≤ 64 := by
    have h1 := (ok_bounds h.table.ok).2.2.2.2.1
    have h2 := h.cc
    omega
  by_cases h0 : i < 0
  · have HE : Hid (H.cellE i = 9 ∧ H.cellP i = 0) := by
      have h1 : H.cellE i = 9 := by unfold HS.cellE; rw [if_pos (.inl h0)]
      exact ⟨h1, by unfold HS.cellP; rw [h1]; rfl⟩
    rw [HE.out.1, HE.out.2]
    have d0 : decide (i < 0) = true := decide_eq_true h0
    generalize H.cells.length = n at *
    clear h h0 HE
    go_enter Tryz.func66, Tryz.ntmps66
    go_wp2_with fail
    go_ret2
    exact ⟨rfl, rfl⟩
  · have d0 : decide (i < 0) = false := decide_eq_false h0
    by_cases h1 : (H.cells.length : Int) ≤ i
    · have HE : Hid (H.cellE i = 9 ∧ H.cellP i = 0) := by
        have h2 : H.cellE i = 9 := by unfold HS.cellE; rw [if_pos (.inr h1)]
        exact ⟨h2, by unfold HS.cellP; rw [h2]; rfl⟩
      rw [HE.out.1, HE.out.2]
      have d1 : decide ((H.cells.length : Int) ≤ i) = true := decide_eq_true h1
      have h2 : (0 : Int) ≤ i := by omega
      generalize H.cells.length = n at *
      clear h h0 HE
      go_enter Tryz.func66, Tryz.ntmps66
      go_wp2_with fail
      go_ret2
      exact ⟨rfl, rfl⟩
    · obtain ⟨j, rfl⟩ : ∃ j : Nat, i = (j : Int) := ⟨i.toNat, by omega⟩
      have hj : j < H.cells.length := by omega
      have HE : Hid (H.cellE (j : Int) = 0 ∧ H.cellP (j : Int) = H.cells.getD j 0) := by
        have h2 : H.cellE (j : Int) = 0 := by unfold HS.cellE; rw [if_neg (by omega)]
        exact ⟨h2, by unfold HS.cellP; rw [h2]; rfl⟩
      rw [HE.out.1, HE.out.2]
      have d1 : decide ((H.cells.length : Int) ≤ (j : Int)) = false := decide_eq_false h1
      have z := h.cel.cell j (tabV_at hj)
      have hjI : (j : Int) < (H.cells.length : Int) := by omega
      have h0I : (0 : Int) ≤ (j : Int) := by omega
      generalize H.cells.getD j 0 = x at *
      generalize H.cells.length = n at *
      clear h h0 h1 HE hj
      go_enter Tryz.func66, Tryz.ntmps66
      go_wp2_with fail
      go_ret2
      exact ⟨rfl, rfl⟩
set_option maxRecDepth 4000 in
set_option maxHeartbeats 1000000 in
theorem hSetCell_any (h : HeapAt w D H) (i : Int) (v : Nat) : Calls Tryz.prog 26 #[.pointer (some ⟨D 0, 0, none⟩), .int .i64 i, .int .i64 (v : Int)] w fun e w' => e = .returned (.int .i64 (H.setE i v : Int)) ∧ HeapAt w' D (H.setP i v) ∧ Keep (HF D) w w' := by
  have y5 := h.blk.cell 5 rfl
  have hlen : H.cells.length ≤ 64 := by
    have h1 := (ok_bounds h.table.ok).2.2.2.2.1
    have h2 := h.cc
    omega
  have HC := Lib.hid (hCell_any h i)
  have HV := Lib.hid (hvalue_any h v)
  by_cases h0 : H.cellE i = 0
  · obtain ⟨j, rfl⟩ : ∃ j : Nat, i = (j : Int) := ⟨i.toNat, by unfold HS.cellE at h0; split at h0 <;> omega⟩
    have hj : j < H.cells.length := by unfold HS.cellE at h0; split at h0 <;> omega
    rw [h0] at HC
    by_cases hv : v ≤ H.n
    · have HE : Hid (H.setE (j : Int) v = 0 ∧ H.setP (j : Int) v = H.setCell j v) := by
        have h2 : H.setE (j : Int) v = 0 := by unfold HS.setE; rw [h0, if_pos rfl, if_pos hv]
        exact ⟨h2, by unfold HS.setP; rw [h2, if_pos rfl]; rfl⟩
      rw [HE.out.1, HE.out.2]
      rw [decide_eq_true hv] at HV
      have z := h.cel.cell j (tabV_at hj)
      have fz := h.cel.free j
      have hjI : (j : Int) < (H.cells.length : Int) := by omega
      have h0I : (0 : Int) ≤ (j : Int) := by omega
      have hk : Keep (only (D 12)) w (w.setCell ⟨D 12, j, none⟩ (.int .i64 (v : Int))) := (Keep.refl _ _).put _ _
      have hR : HeapAt (w.setCell ⟨D 12, j, none⟩ (.int .i64 (v : Int))) D (H.setCell j v) := by
        refine h.setCel (cl := H.cells.set j v) (hk.sel1 rfl) ?_ (by simp) (h.inv.setCell j v hv)
        rw [tabV_set]
        exact h.cel.set j _
      have HR : Hid (HeapAt (w.setCell ⟨D 12, j, none⟩ (.int .i64 (v : Int))) D (H.setCell j v) ∧ Keep (HF D) w (w.setCell ⟨D 12, j, none⟩ (.int .i64 (v : Int)))) := ⟨hR, (hk.sel1 (I := [12]) rfl).hf rfl⟩
      generalize H.setCell j v = H' at *
      generalize H.cellP (j : Int) = cp at *
      generalize H.cells.getD j 0 = x at *
      generalize H.cells.length = n at *
      clear h h0 HE hj hv hk hR
      go_enter Tryz.func26, Tryz.ntmps26
      go_wp2_with (first | (go_at_call 66; refine HC.out.mono ?_; rintro e w1 ⟨rfl, rfl⟩) | (go_at_call 67; refine HV.out.mono ?_; rintro e w1 ⟨rfl, rfl⟩))
      go_ret
      exact ⟨rfl, HR.out.1, HR.out.2⟩
    · have HE : Hid (H.setE (j : Int) v = 4 ∧ H.setP (j : Int) v = H) := by
        have h2 : H.setE (j : Int) v = 4 := by unfold HS.setE; rw [h0, if_pos rfl, if_neg hv]
        exact ⟨h2, by unfold HS.setP; rw [h2]; rfl⟩
      rw [HE.out.1, HE.out.2]
      rw [decide_eq_false hv] at HV
      have HH := Lib.hid h
      generalize H.cellP (j : Int) = cp at *
      generalize H.cells.length = n at *
      clear h h0 HE hj hv
      go_enter Tryz.func26, Tryz.ntmps26
      go_wp2_with (first | (go_at_call 66; refine HC.out.mono ?_; rintro e w1 ⟨rfl, rfl⟩) | (go_at_call 67; refine HV.out.mono ?_; rintro e w1 ⟨rfl, rfl⟩))
      go_ret
      exact ⟨rfl, HH.out, Keep.refl _ _⟩
  · have h9 : H.cellE i = 9 := by unfold HS.cellE at h0 ⊢; split <;> simp_all
    have HE : Hid (H.setE i v = 9 ∧ H.setP i v = H) := by
      have h2 : H.setE i v = 9 := by unfold HS.setE; rw [if_neg h0]
      exact ⟨h2, by unfold HS.setP; rw [h2]; rfl⟩
    rw [HE.out.1, HE.out.2]
    rw [h9] at HC
    have HH := Lib.hid h
    generalize H.cellP i = cp at *
    generalize H.cells.length = n at *
    clear h h0 HE h9
    go_enter Tryz.func26, Tryz.ntmps26
    go_wp2_with (first | (go_at_call 66; refine HC.out.mono ?_; rintro e w1 ⟨rfl, rfl⟩) | (go_at_call 67; refine HV.out.mono ?_; rintro e w1 ⟨rfl, rfl⟩))
    go_ret
    exact ⟨rfl, HH.out, Keep.refl _ _⟩
/-- The class of a slot, or 0. -/
def HS.cls (H : HS) (a : Nat) : Nat := match H.owner a with
  | none => 0
  | some (_, k) => k
theorem HeapAt.ownerC (h : HeapAt w D H) (a : Nat) : ∃ B : Nat, Calls Tryz.prog 150 #[.pointer (some ⟨D 3, 0, none⟩), .int .i64 (a : Int)] w fun e w' => e = .returned (.tuple #[.int .i64 (B : Int), .int .i64 (H.cls a : Int), .bool (H.owner a).isSome]) ∧ Keep none_ w w' := by
  have e := h.owner_eq a
  cases ho : H.owner a with
  | none =>
    rw [ho] at e
    refine ⟨0, ?_⟩
    have h1 := tOwner_no h.table H.ww a h.cw e h.tabs h.sizes
    unfold HS.cls
    rw [ho]; exact h1
  | some x =>
    obtain ⟨B, k⟩ := x
    rw [ho] at e
    refine ⟨B, ?_⟩
    have h1 := tOwner_yes h.table H.ww a B k h.cw e h.tabs h.sizes
    unfold HS.cls
    rw [ho]; exact h1
set_option maxRecDepth 4000 in
set_option maxHeartbeats 2000000 in
theorem hHand_any (h : HeapAt w D H) (a : Nat) : Calls Tryz.prog 106 #[.pointer (some ⟨D 0, 0, none⟩), .int .i64 (a : Int)] w fun e w' => e = .returned (.tuple #[.int .i64 (H.cls a : Int), .bool (H.hand a)]) ∧ Keep none_ w w' := by
  obtain ⟨B, hO⟩ := h.ownerC a
  have HO := Lib.hid hO
  have HB : Hid (∀ W, Keep none_ w W → Calls Tryz.prog 79 #[.pointer (some ⟨D 8, 0, none⟩), .int .i64 (a : Int)] W fun e w' => e = .returned (.bool (H.bn a)) ∧ W = w') := fun W hW => (h.still hW).born.has a
  have HL : Hid (∀ W, Keep none_ w W → Calls Tryz.prog 151 #[.pointer (some ⟨D 5, 0, none⟩), .int .i64 (a : Int)] W fun e w' => e = .returned (.bool (H.inn a)) ∧ W = w') := fun W hW => by
    obtain ⟨In, hl, hi⟩ := (h.still hW).lists
    rw [← hi a]
    exact lHas_any hl a
  have hY : ∀ W, Keep none_ w W → W.cell? ⟨D 0, 3, none⟩ = some (.pointer (some ⟨D 8, 0, none⟩)) ∧ W.cell? ⟨D 0, 2, none⟩ = some (.pointer (some ⟨D 5, 0, none⟩)) := fun W hW => ⟨(h.still hW).blk.cell 3 rfl, (h.still hW).blk.cell 2 rfl⟩
  have HY := Lib.hid hY
  have y1 := h.blk.cell 1 rfl
  have HE : Hid (H.hand a = ((H.owner a).isSome && !H.bn a && !H.inn a)) := rfl
  rw [HE.out]
  generalize (H.owner a).isSome = p at *
  generalize H.bn a = x at *
  generalize H.inn a = y at *
  generalize H.cls a = k at *
  clear h hO hY HE
  cases p <;> cases x <;> cases y
  all_goals
    go_enter Tryz.func106, Tryz.ntmps106
    go_wp2_with (go_at_call 150; refine HO.out.mono ?_; rintro e w1 ⟨rfl, hk1⟩; have HK1 := Lib.hid hk1; have z3 := (HY.out w1 hk1).1; have z2 := (HY.out w1 hk1).2; have HBW := Lib.hid (HB.out w1 hk1); have HLW := Lib.hid (HL.out w1 hk1); clear hk1)
    go_wp2_with (first | (go_at_call 79; refine HBW.out.mono ?_; rintro e w2 ⟨rfl, rfl⟩) | (go_at_call 151; refine HLW.out.mono ?_; rintro e w2 ⟨rfl, rfl⟩))
    go_ret2
    exact ⟨rfl, HK1.out⟩
theorem HeapAt.parse (w : World) (x : Nat) (hx : x < wordTop) (hS : Sizes w) : ∃ c : Nat, Calls Tryz.prog 155 #[.int .u64 (x : Int)] w fun e w' => e = .returned (.tuple #[.int .i64 (c : Int), .int .i64 ((((hdP x).map (·.2)).getD 0 : Nat) : Int), .bool ((hdP x).map (·.2)).isSome]) ∧ w = w' := by
  cases hp : hdP x with
  | none => exact ⟨0, hdParse_none x hx hp w hS⟩
  | some cf =>
    obtain ⟨c, f⟩ := cf
    obtain ⟨h1, h2⟩ := hdP_some hp
    subst h2
    exact ⟨c, hdParse_obj c f h1 w hS⟩
set_option maxRecDepth 4000 in
set_option maxHeartbeats 2000000 in
theorem hHeader_any (h : HeapAt w D H) (a : Nat) : Calls Tryz.prog 110 #[.pointer (some ⟨D 0, 0, none⟩), .int .i64 (a : Int)] w fun e w' => e = .returned (.tuple #[.int .i64 (H.nf a : Int), .bool (H.hdr a).isSome]) ∧ HeapAt w' D H ∧ Keep (only (D 1)) w w' := by
  have hal := h.inv.alen
  have hL : ∃ er : Int, Calls Tryz.prog 83 #[.pointer (some ⟨D 1, 0, none⟩), .int .i64 (a : Int)] w fun e w' => e = .returned (.tuple #[.int .u64 (H.word a : Int), .int .i64 er]) ∧ HeapAt w' D H ∧ Keep (only (D 1)) w w' := by
    by_cases ha : 1 ≤ a ∧ a ≤ H.A.length
    · refine ⟨0, ?_⟩
      have h1 := aLoad_in h.arena (a - 1) (by omega)
      rw [show ((a - 1 : Nat) : Int) + 1 = (a : Int) by omega] at h1
      refine h1.mono ?_
      rintro e w' ⟨rfl, h2, h3⟩
      refine ⟨?_, h.loaded h3 h2, h3⟩
      unfold HS.word wordF
      rw [if_pos ha.1]
    · refine ⟨atE a, ?_⟩
      refine (aLoad_out h.arena (a : Int) (by omega)).mono ?_
      rintro e w' ⟨rfl, h3⟩
      refine ⟨?_, h.still h3, h3.mono (fun _ _ f => f.elim)⟩
      have : H.word a = 0 := by
        unfold HS.word wordF
        split
        · rw [List.getD_eq_getElem?_getD, List.getElem?_eq_none (by omega)]; rfl
        · rfl
      rw [this]; rfl
  obtain ⟨er, hL⟩ := hL
  have HL := Lib.hid hL
  have y0 := h.blk.cell 0 rfl
  have hP : ∃ c : Nat, ∀ W, Sizes W → Calls Tryz.prog 155 #[.int .u64 (H.word a : Int)] W fun e w' => e = .returned (.tuple #[.int .i64 (c : Int), .int .i64 (H.nf a : Int), .bool (H.hdr a).isSome]) ∧ W = w' := by
    have hx := h.inv.wlt a
    unfold HS.nf HS.hdr
    cases hp : hdP (H.word a) with
    | none => exact ⟨0, fun W hS => hdParse_none _ hx hp W hS⟩
    | some cf =>
      obtain ⟨c, f⟩ := cf
      obtain ⟨h1, h2⟩ := hdP_some hp
      rw [h2]
      exact ⟨c, fun W hS => hdParse_obj c f h1 W hS⟩
  obtain ⟨c, hP⟩ := hP
  have HP := Lib.hid hP
  generalize H.word a = x at *
  generalize H.nf a = n at *
  generalize (H.hdr a).isSome = p at *
  clear h hL hP hal
  go_enter Tryz.func110, Tryz.ntmps110
  go_wp2_with (go_at_call 83; refine HL.out.mono ?_; rintro e w1 ⟨rfl, h1, k1⟩; have HH := Lib.hid h1; have HK := Lib.hid k1; clear h1 k1)
  have HP1 := Lib.hid (HP.out _ HH.out.sizes)
  go_wp2_with (go_at_call 155; refine HP1.out.mono ?_; rintro e w2 ⟨rfl, rfl⟩)
  go_ret2
  exact ⟨rfl, HH.out, HK.out⟩
end
end Go.Proofs.YtjdnkhljgnjkcaaGreatDoor

/- The free slots of each class: Put, of whatever address. -/
namespace Go.Proofs.YtjdnkhljgnjkcaaGreatDoor
open Go.RowKit
attribute [local go_sem] Oper.semAt_some

section
variable {w w' : World} {L iR iX aR aX tR sz : Nat} {In F A : List Nat}
set_option maxRecDepth 4000 in
set_option maxHeartbeats 1000000 in
theorem lPut1_in (h : ListsAt w L iR iX aR tR sz In F) (pp : Int) (k b1 b2 : Nat) (hin : putP sz In pp true = false) (hb1 : Blk w b1 [.pointer (some ⟨L, 0, none⟩)] 115) (hb2 : Blk w b2 [.int .i64 pp] 3) :
    Calls Tryz.prog 187 #[.int .i64 (k : Int), .pointer (some ⟨b1, 0, none⟩), .pointer (some ⟨b2, 0, none⟩)] w fun e w' => e = .returned (.int .i64 11) ∧ ListsAt w' L iR iX aR tR sz In F ∧ Keep (only iX) w w' := by
  obtain ⟨q0, q1, q2⟩ := h.ptrs
  have HBP := Lib.hid (bPut_any (h.set.still (k := (Keep.refl none_ w).drew)) pp true)
  have hpl : putL sz In pp true = In := by unfold putL; rw [if_neg (by rw [hin]; decide)]
  rw [hin, hpl] at HBP
  have hLn := h.ne
  have y1 := hb1.cell 0 rfl
  have y2 := hb2.cell 0 rfl
  have H := Lib.hid h
  have HN := Lib.hid hLn
  clear h hb1 hb2 hLn hpl hin
  go_enter Tryz.func187, Tryz.ntmps187
  go_wp2_with fail
  refine wp_region_still_mid 5 rfl (by kernel_rfl) (by kernel_rfl) (fun K hK => ?_)
  change wpStill _ _ (World.drew _) _ _ _
  simp only [List.take_succ_cons, List.take_zero, List.drop_succ_cons, List.drop_zero] at hK ⊢
  repeat still_step
  refine wpStill_nil ?_
  change ite _ (Oper.wp _ _ _ w.drew _ _) _
  go_simp
  refine HBP.out.mono ?_
  rintro e w1 ⟨rfl, hs1, hk1⟩
  refine hK _ _ ?_
  clear hK K
  have hk01 : Keep (only iX) w w1 := (Keep.refl _ _).drew.trans hk1
  have HS1 := Lib.hid (H.out.newSet hk01 HN.out.2 hs1)
  have HK1 := Lib.hid hk01
  clear hs1 hk1 hk01 y1 y2 q0 q1 q2 HBP
  repeat still_step
  refine wpStill_nil ?_
  go_wp2_with fail
  go_ret
  exact ⟨rfl, HS1.out, HK1.out⟩
set_option maxRecDepth 4000 in
set_option maxHeartbeats 2000000 in
theorem lPut_no (h : ListsAt w L iR iX aR tR sz In F) (pp : Int)
    (hO : ∀ W, Keep none_ w W → Calls Tryz.prog 150 #[.pointer (some ⟨tR, 0, none⟩), .int .i64 pp] W fun e w' => e = .returned (.tuple #[.int .i64 0, .int .i64 0, .bool false]) ∧ Keep none_ W w') :
    Calls Tryz.prog 149 #[.pointer (some ⟨L, 0, none⟩), .int .i64 pp] w fun e w' => e = .returned (.int .i64 1) ∧ Keep none_ w w' := by
  obtain ⟨W0, hW0⟩ : ∃ W', W' = (w.alloc (.cells #[.pointer (some ⟨L, 0, none⟩)] 115)).alloc (.cells #[.int .i64 pp] 3) := ⟨_, rfl⟩
  have hk0 : Keep none_ w W0 := by rw [hW0]; exact ((Keep.refl _ _).alloc _).alloc _
  have HSL : Hid (Calls Tryz.prog 186 #[.pointer (some ⟨L, 0, none⟩), .int .i64 pp, .func (.func 187) #[] #[.pointer (some ⟨w.heap.size, 0, none⟩), .pointer (some ⟨w.heap.size + 1, 0, none⟩)]] W0 fun e w' => e = .returned (.int .i64 1) ∧ Keep none_ w w') := by
    have HO := Lib.hid (hO W0 hk0)
    obtain ⟨q0, q1, q2⟩ := (h.still hk0).ptrs
    have HK0 := Lib.hid hk0
    clear h hO hW0 hk0
    unfold Hid
    go_enter Tryz.func186, Tryz.ntmps186
    go_wp2_with (go_at_call 150; refine HO.out.mono ?_; rintro e w1 ⟨rfl, hk1⟩; have HK1 := Lib.hid hk1; clear hk1)
    go_ret
    exact ⟨rfl, HK0.out.trans HK1.out⟩
  have hmf : ∀ (fn : Fn) (first cap : Array Value) (w : World), (Instr.makeFunc fn first cap).run Tryz.prog w = .ok (.func fn first cap) w := fun _ _ _ _ => rfl
  clear h hO hk0
  go_enter Tryz.func149, Tryz.ntmps149
  go_wp2_with fail
  rw [← hW0]
  clear hW0
  refine HSL.out.mono ?_
  rintro e w1 ⟨rfl, h1⟩
  have H1 := Lib.hid h1
  clear h1
  go_wp2_with fail
  go_ret
  exact ⟨rfl, H1.out⟩
set_option maxRecDepth 4000 in
set_option maxHeartbeats 2000000 in
theorem lPut_in (h : ListsAt w L iR iX aR tR sz In F) (pp : Int) (k : Nat) (B0 : Int) (hin : putP sz In pp true = false)
    (hO : ∀ W, Keep none_ w W → Calls Tryz.prog 150 #[.pointer (some ⟨tR, 0, none⟩), .int .i64 pp] W fun e w' => e = .returned (.tuple #[.int .i64 B0, .int .i64 (k : Int), .bool true]) ∧ Keep none_ W w') :
    Calls Tryz.prog 149 #[.pointer (some ⟨L, 0, none⟩), .int .i64 pp] w fun e w' => e = .returned (.int .i64 11) ∧ ListsAt w' L iR iX aR tR sz In F ∧ Keep (only iX) w w' := by
  obtain ⟨W0, hW0⟩ : ∃ W', W' = (w.alloc (.cells #[.pointer (some ⟨L, 0, none⟩)] 115)).alloc (.cells #[.int .i64 pp] 3) := ⟨_, rfl⟩
  have hk0 : Keep none_ w W0 := by rw [hW0]; exact ((Keep.refl _ _).alloc _).alloc _
  have hb1 : Blk W0 w.heap.size [.pointer (some ⟨L, 0, none⟩)] 115 := by rw [hW0]; exact (Blk.new w _ _).alloc _
  have hb2 : Blk W0 (w.heap.size + 1) [.int .i64 pp] 3 := by
    rw [hW0]
    have h := Blk.new (w.alloc (.cells #[.pointer (some ⟨L, 0, none⟩)] 115)) [.int .i64 pp] 3
    rw [World.size_alloc] at h
    exact h
  have HSL : Hid (Calls Tryz.prog 186 #[.pointer (some ⟨L, 0, none⟩), .int .i64 pp, .func (.func 187) #[] #[.pointer (some ⟨w.heap.size, 0, none⟩), .pointer (some ⟨w.heap.size + 1, 0, none⟩)]] W0 fun e w' => e = .returned (.int .i64 11) ∧ ListsAt w' L iR iX aR tR sz In F ∧ Keep (only iX) w w') := by
    have HC : Hid (∀ W, Keep none_ W0 W → Calls Tryz.prog 187 #[.int .i64 (k : Int), .pointer (some ⟨w.heap.size, 0, none⟩), .pointer (some ⟨w.heap.size + 1, 0, none⟩)] W fun e w' => e = .returned (.int .i64 11) ∧ ListsAt w' L iR iX aR tR sz In F ∧ Keep (only iX) W w') := fun W hW =>
      lPut1_in ((h.still hk0).still hW) pp k _ _ hin (hW.blk hb1 (fun f => f)) (hW.blk hb2 (fun f => f))
    have HO := Lib.hid (hO W0 hk0)
    obtain ⟨q0, q1, q2⟩ := (h.still hk0).ptrs
    have HK0 := Lib.hid hk0
    clear h hin hO hW0 hk0 hb1 hb2
    unfold Hid
    go_enter Tryz.func186, Tryz.ntmps186
    go_wp2_with (first
      | (go_at_call 150; refine HO.out.mono ?_; rintro e w1 ⟨rfl, hk1⟩; have HK1 := Lib.hid hk1; clear hk1)
      | (go_at_call 187; refine (HC.out _ HK1.out).mono ?_; rintro e w2 ⟨rfl, h1, h3⟩; have H1 := Lib.hid h1; have H3 := Lib.hid h3; clear h1 h3))
    go_ret
    exact ⟨rfl, H1.out, (HK0.out.mono (fun _ _ f => f.elim)).trans ((HK1.out.mono (fun _ _ f => f.elim)).trans H3.out)⟩
  have hmf : ∀ (fn : Fn) (first cap : Array Value) (w : World), (Instr.makeFunc fn first cap).run Tryz.prog w = .ok (.func fn first cap) w := fun _ _ _ _ => rfl
  clear h hin hO hb1 hb2 hk0
  go_enter Tryz.func149, Tryz.ntmps149
  go_wp2_with fail
  rw [← hW0]
  clear hW0
  refine HSL.out.mono ?_
  rintro e w1 ⟨rfl, h1, h3⟩
  have H1 := Lib.hid h1; have H3 := Lib.hid h3
  clear h1 h3
  go_wp2_with fail
  go_ret
  exact ⟨rfl, H1.out, H3.out⟩
end
end Go.Proofs.YtjdnkhljgnjkcaaGreatDoor
