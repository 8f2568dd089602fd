/- Parts of a walk, put together by a small program of mine from texts of their own: Heap6 Heap7 Heap8. -/
import Derived.Test.YtjdnkhljgnjkcaaGreatDoorZzk
import Derived.Deep.RegionHeld3
/- The heap in memory: Load, Store. -/
namespace Go.Proofs.YtjdnkhljgnjkcaaGreatDoor
open Go.RowKit
attribute [local go_sem] Oper.semAt_some

section
variable {w w' : World} {D : Nat → Nat} {H : HS}
/-- A heap's blocks are there. -/
theorem HeapAt.ltD (h : HeapAt w D H) (i : Nat) (hi : i < 13) : D i < w.heap.size := by
  obtain ⟨In, hl, _⟩ := h.lists
  obtain ⟨cap, hs1⟩ := hl.set.blk
  obtain ⟨cur, hs2, _⟩ := hl.set.wds
  obtain ⟨W1, hbn, _⟩ := h.born
  obtain ⟨W2, hco, _⟩ := h.cols
  obtain ⟨cap1, hb1⟩ := hbn.blk
  obtain ⟨cur1, hb2, _⟩ := hbn.wds
  obtain ⟨cap2, hc1⟩ := hco.blk
  obtain ⟨cur2, hc2, _⟩ := hco.wds
  obtain ⟨ld, st, ha⟩ := h.arena.blk
  match i, hi with
  | 0, _ => exact h.blk.lt
  | 1, _ => exact ha.lt
  | 2, _ => exact h.arena.wds.lt
  | 3, _ => exact h.table.blk.lt
  | 4, _ => exact h.table.cls.lt
  | 5, _ => exact hl.lt
  | 6, _ => exact hs1.lt
  | 7, _ => exact hs2.lt
  | 8, _ => exact hb1.lt
  | 9, _ => exact hb2.lt
  | 10, _ => exact hc1.lt
  | 11, _ => exact hc2.lt
  | 12, _ => exact h.cel.lt
theorem HeapAt.newHF (h : HeapAt w D H) {b : Nat} (hb : w.heap.size ≤ b) : ¬ HF D b := by
  rintro ⟨i, hi, e⟩
  have := h.ltD i hi
  omega
theorem HeapAt.gloLt (h : HeapAt w D H) : 2 < w.heap.size ∧ 3 < w.heap.size ∧ 1 < w.heap.size :=
  ⟨World.block_lt_of_cell? _ _ (h.tabs.lim 0 1 rfl), World.block_lt_of_cell? _ _ (h.tabs.kind 0 [] rfl), World.block_lt_of_cell? _ _ (h.sizes 0 2 rfl)⟩
/-- Writes into what is new since w0 leave the heap. -/
theorem HeapAt.setNew {w0 : World} (h0 : HeapAt w0 D H) (h : HeapAt w D H) {b : Nat} (hb : w0.heap.size ≤ b) (v : Value) : HeapAt (w.setCell ⟨b, 0, none⟩ v) D H := by
  have g := h0.gloLt
  refine h.keep ((Keep.refl (only b) w).put 0 v) (fun i hi e => ?_) (fun e => ?_) (fun e => ?_) (fun e => ?_)
  · have := h0.ltD i hi; unfold only at e; omega
  · unfold only at e; omega
  · unfold only at e; omega
  · unfold only at e; omega
/-- A word of the arena. -/
theorem aLoad_heap (h : HeapAt w D H) (x : Nat) (h1 : 1 ≤ x) (h2 : x ≤ H.b * H.ww) : Calls Tryz.prog 83 #[.pointer (some ⟨D 1, 0, none⟩), .int .i64 (x : Int)] w fun e w' => e = .returned (.tuple #[.int .u64 (H.word x : Int), .int .i64 0]) ∧ HeapAt w' D H ∧ Keep (only (D 1)) w w' := by
  have hal := h.inv.alen
  have h9 := aLoad_in h.arena (x - 1) (by omega)
  rw [show ((x - 1 : Nat) : Int) + 1 = (x : Int) by omega] at h9
  refine h9.mono ?_
  rintro e w' ⟨rfl, g2, g3⟩
  refine ⟨?_, h.loaded g3 g2, g3⟩
  unfold HS.word wordF
  rw [if_pos h1]
set_option maxRecDepth 4000 in
set_option maxHeartbeats 1000000 in
theorem hLoad1_bad (n : Nat) (f : Int) (bf bh ba bw : Nat) (w : World) (hf : f < 0 ∨ (n : Int) ≤ f) (hb : Blk w bf [.int .i64 f] 3) :
    Calls Tryz.prog 82 #[.int .i64 (n : Int), .pointer (some ⟨bf, 0, none⟩), .pointer (some ⟨bh, 0, none⟩), .pointer (some ⟨ba, 0, none⟩), .pointer (some ⟨bw, 0, none⟩)] w fun e w' => e = .returned (.int .i64 7) ∧ w = w' := by
  have c0 := hb.cell 0 rfl
  by_cases h0 : f < 0
  · have d0 : decide (f < 0) = true := decide_eq_true h0
    clear hf hb h0
    go_enter Tryz.func82, Tryz.ntmps82
    go_wp2_with fail
    go_ret
    exact ⟨rfl, rfl⟩
  · have d0 : decide (f < 0) = false := decide_eq_false h0
    have d1 : decide ((n : Int) ≤ f) = true := decide_eq_true (by omega)
    clear hf hb h0
    go_enter Tryz.func82, Tryz.ntmps82
    go_wp2_with fail
    go_ret
    exact ⟨rfl, rfl⟩
set_option maxRecDepth 4000 in
set_option maxHeartbeats 2000000 in
theorem hLoad1_good (h : HeapAt w D H) (n f a bf bh ba bw : Nat) (hf : f < n) (ha : 1 ≤ a + 1 + f) (hx : a + 1 + f ≤ H.b * H.ww) (hb1 : Blk w bf [.int .i64 (f : Int)] 3) (hb2 : Blk w bh [.pointer (some ⟨D 0, 0, none⟩)] 48) (hb3 : Blk w ba [.int .i64 (a : Int)] 3) (hb4 : Blk w bw [.int .u64 0] 139) (hnw : ¬ only (D 1) bw) (hn2 : ¬ only (D 1) bh ∧ ¬ only (D 1) ba ∧ ¬ only (D 1) bf) :
    Calls Tryz.prog 82 #[.int .i64 (n : Int), .pointer (some ⟨bf, 0, none⟩), .pointer (some ⟨bh, 0, none⟩), .pointer (some ⟨ba, 0, none⟩), .pointer (some ⟨bw, 0, none⟩)] w fun e w' => e = .returned (.int .i64 0) ∧ ∃ w1, Keep (only (D 1)) w w1 ∧ HeapAt w1 D H ∧ w' = w1.setCell ⟨bw, 0, none⟩ (.int .u64 (H.word (a + 1 + f) : Int)) := by
  have hnle := h.inv.nle
  have c1 := hb1.cell 0 rfl
  have c2 := hb2.cell 0 rfl
  have c3 := hb3.cell 0 rfl
  have c4 := hb4.cell 0 rfl
  have f4 := hb4.free 0
  have y0 := h.blk.cell 0 rfl
  have d0 : decide ((f : Int) < 0) = false := decide_eq_false (by omega)
  have d1 : decide (n ≤ f) = false := decide_eq_false (by omega)
  have HL := Lib.hid (aLoad_heap (h.still (k := (Keep.refl none_ w).drew)) (a + 1 + f) ha hx)
  have e1 : IntKind.i64.wrap ((a : Int) + 1) = (a : Int) + 1 := IntWalk.i64_in _ (by omega)
  have e2 : IntKind.i64.wrap ((a : Int) + 1 + (f : Int)) = ((a + 1 + f : Nat) : Int) := by rw [IntWalk.i64_in _ (by omega)]; omega
  obtain ⟨pp, hpp⟩ : ∃ pp : Int, pp = ((a + 1 + f : Nat) : Int) := ⟨_, rfl⟩
  rw [← hpp] at e2 HL
  generalize H.word (a + 1 + f) = x at *
  have HH := Lib.hid h
  have HB4 := Lib.hid hb4
  have HNW := Lib.hid hnw
  have HN2 := Lib.hid hn2
  have HN3 : Hid (¬ only bw bh ∧ ¬ only bw (D 0) ∧ ¬ only bw ba ∧ ¬ only bw bf) := by
    refine ⟨fun e => ?_, fun e => ?_, fun e => ?_, fun e => ?_⟩
    all_goals unfold only at e
    · rw [e] at hb2; exact absurd (hb2.uniq hb4).2 (by decide)
    · have h9 := h.blk; rw [e] at h9; exact absurd (h9.uniq hb4).2 (by decide)
    · rw [e] at hb3; exact absurd (hb3.uniq hb4).2 (by decide)
    · rw [e] at hb1; exact absurd (hb1.uniq hb4).2 (by decide)
  have hge : (0 : Int) ≤ (a : Int) + 1 := by omega
  clear h hb1 hb2 hb3 hb4 hf ha hx hnw hn2 hpp hnle
  go_enter Tryz.func82, Tryz.ntmps82
  go_wp2_with fail
  go_region_held3 (fun w' => w'.cell? ⟨bh, 0, none⟩ = some (.pointer (some ⟨D 0, 0, none⟩)) ∧ w'.cell? ⟨D 0, 0, none⟩ = some (.pointer (some ⟨D 1, 0, none⟩)) ∧ w'.cell? ⟨ba, 0, none⟩ = some (.int .i64 (a : Int)) ∧ w'.cell? ⟨bf, 0, none⟩ = some (.int .i64 (f : Int)))
    (first | exact ⟨c2, y0, c3, c1⟩ | exact HS1.out | exact HS2.out _ | fail "SFAIL")
    ((go_at_call 83
      refine HL.out.mono ?_
      rintro e w1 ⟨rfl, h1, k1⟩
      have HS1 : Hid (w1.cell? ⟨bh, 0, none⟩ = some (.pointer (some ⟨D 0, 0, none⟩)) ∧ w1.cell? ⟨D 0, 0, none⟩ = some (.pointer (some ⟨D 1, 0, none⟩)) ∧ w1.cell? ⟨ba, 0, none⟩ = some (.int .i64 (a : Int)) ∧ w1.cell? ⟨bf, 0, none⟩ = some (.int .i64 (f : Int))) := ⟨k1.cellv c2 HN2.out.1, h1.blk.cell 0 rfl, k1.cellv c3 HN2.out.2.1, k1.cellv c1 HN2.out.2.2⟩
      have HS2 : Hid (∀ v, (w1.setCell ⟨bw, 0, none⟩ v).cell? ⟨bh, 0, none⟩ = some (.pointer (some ⟨D 0, 0, none⟩)) ∧ (w1.setCell ⟨bw, 0, none⟩ v).cell? ⟨D 0, 0, none⟩ = some (.pointer (some ⟨D 1, 0, none⟩)) ∧ (w1.setCell ⟨bw, 0, none⟩ v).cell? ⟨ba, 0, none⟩ = some (.int .i64 (a : Int)) ∧ (w1.setCell ⟨bw, 0, none⟩ v).cell? ⟨bf, 0, none⟩ = some (.int .i64 (f : Int))) := fun v => by
        have kk := (Keep.refl (only bw) w1).put 0 v
        exact ⟨kk.cellv HS1.out.1 HN3.out.1, kk.cellv HS1.out.2.1 HN3.out.2.1, kk.cellv HS1.out.2.2.1 HN3.out.2.2.1, kk.cellv HS1.out.2.2.2 HN3.out.2.2.2⟩
      have HH1 := Lib.hid h1
      have HK1 := Lib.hid ((Keep.refl _ w).drew.trans k1)
      have c41 := (((Keep.refl _ w).drew.trans k1).blk HB4.out HNW.out).cell 0 rfl
      have f41 := (((Keep.refl _ w).drew.trans k1).blk HB4.out HNW.out).free 0
      clear h1 k1))
  go_wp2_with fail
  go_ret
  exact ⟨rfl, w1, HK1.out, HH1.out, rfl⟩
set_option maxRecDepth 4000 in
set_option maxHeartbeats 2000000 in
theorem hLoad_any (h : HeapAt w D H) (a : Nat) (f : Int) : Calls Tryz.prog 42 #[.pointer (some ⟨D 0, 0, none⟩), .int .i64 (a : Int), .int .i64 f] w fun e w' => e = .returned (.tuple #[.int .i64 (H.loadP a f : Int), .int .i64 (H.loadE a f : Int)]) ∧ HeapAt w' D H ∧ Keep (HF D) w w' := by
  obtain ⟨W0, hW0⟩ : ∃ W', W' = (((w.alloc (.cells #[.pointer (some ⟨D 0, 0, none⟩)] 48)).alloc (.cells #[.int .i64 (a : Int)] 3)).alloc (.cells #[.int .i64 f] 3)).alloc (.cells #[.int .u64 0] 139) := ⟨_, rfl⟩
  have hk0 : Keep none_ w W0 := by rw [hW0]; exact ((((Keep.refl _ _).alloc _).alloc _).alloc _).alloc _
  have hb1 : Blk W0 w.heap.size [.pointer (some ⟨D 0, 0, none⟩)] 48 := by rw [hW0]; exact (((Blk.new w _ _).alloc _).alloc _).alloc _
  have hb2 : Blk W0 (w.heap.size + 1) [.int .i64 (a : Int)] 3 := by
    rw [hW0]
    have h := Blk.new (w.alloc (.cells #[.pointer (some ⟨D 0, 0, none⟩)] 48)) [.int .i64 (a : Int)] 3
    rw [World.size_alloc] at h
    exact (h.alloc _).alloc _
  have hb3 : Blk W0 (w.heap.size + 1 + 1) [.int .i64 f] 3 := by
    rw [hW0]
    have h := Blk.new ((w.alloc (.cells #[.pointer (some ⟨D 0, 0, none⟩)] 48)).alloc (.cells #[.int .i64 (a : Int)] 3)) [.int .i64 f] 3
    rw [World.size_alloc, World.size_alloc] at h
    exact h.alloc _
  have hb4 : Blk W0 (w.heap.size + 1 + 1 + 1) [.int .u64 0] 139 := by
    rw [hW0]
    have h := Blk.new (((w.alloc (.cells #[.pointer (some ⟨D 0, 0, none⟩)] 48)).alloc (.cells #[.int .i64 (a : Int)] 3)).alloc (.cells #[.int .i64 f] 3)) [.int .u64 0] 139
    rw [World.size_alloc, World.size_alloc, World.size_alloc] at h
    exact h
  have h0 := h.still hk0
  have n1 := h.newHF (b := w.heap.size) (Nat.le_refl _)
  have n2 := h.newHF (b := w.heap.size + 1) (by omega)
  have n3 := h.newHF (b := w.heap.size + 1 + 1) (by omega)
  have n4 := h.newHF (b := w.heap.size + 1 + 1 + 1) (by omega)
  have hmf : ∀ (fn : Fn) (first cap : Array Value) (w : World), (Instr.makeFunc fn first cap).run Tryz.prog w = .ok (.func fn first cap) w := fun _ _ _ _ => rfl
  -- what object's call leaves
  have key : Hid (Calls Tryz.prog 80 #[.pointer (some ⟨D 0, 0, none⟩), .int .i64 (a : Int), .func (.func 82) #[] #[.pointer (some ⟨w.heap.size + 1 + 1, 0, none⟩), .pointer (some ⟨w.heap.size, 0, none⟩), .pointer (some ⟨w.heap.size + 1, 0, none⟩), .pointer (some ⟨w.heap.size + 1 + 1 + 1, 0, none⟩)]] W0 fun e w' => e = .returned (.int .i64 (H.loadE a f : Int)) ∧ (HeapAt w' D H ∧ Keep (HF D) w w' ∧ w'.cell? ⟨w.heap.size + 1 + 1 + 1, 0, none⟩ = some (.int .u64 (H.loadP a f : Int)))) := by
    by_cases he : H.objE a = 0
    · refine hObject_yes h0 a 82 (fun args w => by simp [callFunc, Tryz.func82, go_sem]; rfl) _ _ _ he (fun W hW hk => ?_)
      have g1 := hk.blk hb1 n1
      have g2 := hk.blk hb2 n2
      have g3 := hk.blk hb3 n3
      have g4 := hk.blk hb4 n4
      by_cases hf : f < 0 ∨ (H.nf a : Int) ≤ f
      · have hE : H.loadE a f = 7 := by unfold HS.loadE; rw [if_pos he, if_pos hf]
        have hP : H.loadP a f = 0 := by unfold HS.loadP; rw [hE]; rfl
        rw [hE, hP]
        refine (hLoad1_bad (H.nf a) f _ _ _ _ W hf g3).mono ?_
        rintro e w' ⟨rfl, rfl⟩
        exact ⟨rfl, hW, hk0.none_hf.trans hk, g4.cell 0 rfl⟩
      · obtain ⟨j, rfl⟩ : ∃ j : Nat, f = (j : Int) := ⟨f.toNat, by omega⟩
        have hE : H.loadE a (j : Int) = 0 := by unfold HS.loadE; rw [if_pos he, if_neg hf]
        have hP : H.loadP a (j : Int) = H.word (a + 1 + j) := by unfold HS.loadP; rw [hE, if_pos rfl, Int.toNat_natCast]
        rw [hE, hP]
        have hfl := h.inv.field (objE_of he).2 (f := j) (by omega)
        refine (hLoad1_good hW (H.nf a) j a _ _ _ _ (by omega) (by omega) hfl.2.1 g3 g1 g2 g4 (fun e => n4 ⟨1, by decide, e⟩) ⟨fun e => n1 ⟨1, by decide, e⟩, fun e => n2 ⟨1, by decide, e⟩, fun e => n3 ⟨1, by decide, e⟩⟩).mono ?_
        rintro e w' ⟨rfl, w1, k1, hh1, rfl⟩
        have k1' : Keep (HF D) w w1 := (hk0.none_hf.trans hk).trans ((k1.sel1 (D := D) (i := 1) (I := [1]) rfl).hf rfl)
        have g41 := k1.blk g4 (fun e => n4 ⟨1, by decide, e⟩)
        exact ⟨rfl, h.setNew hh1 (by omega) _, k1'.putNew (by omega) 0 _, (g41.set 0 _).cell 0 rfl⟩
    · have hE : H.loadE a f = H.objE a := by unfold HS.loadE; rw [if_neg he]
      have hP : H.loadP a f = 0 := by unfold HS.loadP; rw [hE, if_neg he]
      rw [hE, hP]
      refine (hObject_no h0 a _ he).mono ?_
      rintro e w' ⟨rfl, g1, g2⟩
      exact ⟨rfl, g1, hk0.none_hf.trans g2, (g2.blk hb4 n4).cell 0 rfl⟩
  have hlt : H.loadP a f < wordTop := by
    unfold HS.loadP
    split
    · exact h.inv.wlt _
    · decide
  have hltI : (H.loadP a f : Int) < 216172782113783808 := by unfold wordTop at hlt; omega
  have HWR : Hid (wrap64 (H.loadP a f : Int) = (H.loadP a f : Int)) := IntWalk.wrap64_in _ (by omega)
  generalize H.loadP a f = x at *
  generalize H.loadE a f = er at *
  clear h h0 hk0 hb1 hb2 hb3 hb4 n1 n2 n3 n4 hlt
  go_enter Tryz.func42, Tryz.ntmps42
  go_wp2_with fail
  rw [← hW0]
  clear hW0
  refine key.out.mono ?_
  rintro e w1 ⟨rfl, h1, k1, c1⟩
  have HH1 := Lib.hid h1
  have HK1 := Lib.hid k1
  clear h1 k1 key
  go_wp2_with fail
  go_ret2
  exact ⟨by first | rfl | rw [HWR.out], HH1.out, HK1.out⟩
end
end Go.Proofs.YtjdnkhljgnjkcaaGreatDoor

/- The heap in memory: Store; Table. -/
namespace Go.Proofs.YtjdnkhljgnjkcaaGreatDoor
open Go.RowKit
attribute [local go_sem] Oper.semAt_some

section
variable {w w' : World} {D : Nat → Nat} {H : HS}
set_option maxRecDepth 4000 in
set_option maxHeartbeats 1000000 in
theorem hStore1_bad (n : Nat) (f : Int) (bf bh bv ba : Nat) (w : World) (hf : f < 0 ∨ (n : Int) ≤ f) (hb : Blk w bf [.int .i64 f] 3) :
    Calls Tryz.prog 109 #[.int .i64 (n : Int), .pointer (some ⟨bf, 0, none⟩), .pointer (some ⟨bh, 0, none⟩), .pointer (some ⟨bv, 0, none⟩), .pointer (some ⟨ba, 0, none⟩)] w fun e w' => e = .returned (.int .i64 7) ∧ w = w' := by
  have c0 := hb.cell 0 rfl
  by_cases h0 : f < 0
  · have d0 : decide (f < 0) = true := decide_eq_true h0
    clear hf hb h0
    go_enter Tryz.func109, Tryz.ntmps109
    go_wp2_with fail
    go_ret
    exact ⟨rfl, rfl⟩
  · have d0 : decide (f < 0) = false := decide_eq_false h0
    have d1 : decide ((n : Int) ≤ f) = true := decide_eq_true (by omega)
    clear hf hb h0
    go_enter Tryz.func109, Tryz.ntmps109
    go_wp2_with fail
    go_ret
    exact ⟨rfl, rfl⟩
set_option maxRecDepth 4000 in
set_option maxHeartbeats 1000000 in
theorem hStore1_range (h : HeapAt w D H) (n f v bf bh bv ba : Nat) (hf : f < n) (hv : ¬ v ≤ H.n) (hb1 : Blk w bf [.int .i64 (f : Int)] 3) (hb2 : Blk w bh [.pointer (some ⟨D 0, 0, none⟩)] 48) (hb3 : Blk w bv [.int .i64 (v : Int)] 3) :
    Calls Tryz.prog 109 #[.int .i64 (n : Int), .pointer (some ⟨bf, 0, none⟩), .pointer (some ⟨bh, 0, none⟩), .pointer (some ⟨bv, 0, none⟩), .pointer (some ⟨ba, 0, none⟩)] w fun e w' => e = .returned (.int .i64 4) ∧ w = w' := by
  have c1 := hb1.cell 0 rfl
  have c2 := hb2.cell 0 rfl
  have c3 := hb3.cell 0 rfl
  have d0 : decide ((f : Int) < 0) = false := decide_eq_false (by omega)
  have d1 : decide (n ≤ f) = false := decide_eq_false (by omega)
  have HV := Lib.hid (hvalue_any h v)
  rw [decide_eq_false hv] at HV
  clear h hb1 hb2 hb3 hf hv
  go_enter Tryz.func109, Tryz.ntmps109
  go_wp2_with (go_at_call 67; refine HV.out.mono ?_; rintro e w1 ⟨rfl, rfl⟩)
  go_ret
  exact ⟨rfl, rfl⟩
set_option maxRecDepth 4000 in
set_option maxHeartbeats 2000000 in
theorem hStore1_good (h : HeapAt w D H) (n f a v bf bh bv ba : Nat) (hf : f < n) (hv : v ≤ H.n) (ha : 1 ≤ a + 1 + f) (hx : a + 1 + f ≤ H.b * H.ww) (hi : HInv (H.lay (a + 1 + f) v)) (hb1 : Blk w bf [.int .i64 (f : Int)] 3) (hb2 : Blk w bh [.pointer (some ⟨D 0, 0, none⟩)] 48) (hb3 : Blk w bv [.int .i64 (v : Int)] 3) (hb4 : Blk w ba [.int .i64 (a : Int)] 3) :
    Calls Tryz.prog 109 #[.int .i64 (n : Int), .pointer (some ⟨bf, 0, none⟩), .pointer (some ⟨bh, 0, none⟩), .pointer (some ⟨bv, 0, none⟩), .pointer (some ⟨ba, 0, none⟩)] w fun e w' => e = .returned (.int .i64 0) ∧ HeapAt w' D (H.lay (a + 1 + f) v) ∧ Keep (HF D) w w' := by
  have hnle := h.inv.nle
  have hvn : v ≤ 1048576 := by unfold HS.n at hv; omega
  have c1 := hb1.cell 0 rfl
  have c2 := hb2.cell 0 rfl
  have c3 := hb3.cell 0 rfl
  have c4 := hb4.cell 0 rfl
  have y0 := h.blk.cell 0 rfl
  have d0 : decide ((f : Int) < 0) = false := decide_eq_false (by omega)
  have d1 : decide (n ≤ f) = false := decide_eq_false (by omega)
  have HV := Lib.hid (hvalue_any h v)
  rw [decide_eq_true hv] at HV
  have HL := Lib.hid (aStore_heap (h.still (k := (Keep.refl none_ w).drew)) (a + 1 + f) v ha hx (by unfold wordTop; omega) hi)
  have e1 : IntKind.i64.wrap ((a : Int) + 1) = (a : Int) + 1 := IntWalk.i64_in _ (by omega)
  have e2 : IntKind.i64.wrap ((a : Int) + 1 + (f : Int)) = ((a + 1 + f : Nat) : Int) := by rw [IntWalk.i64_in _ (by omega)]; omega
  have HEU : Hid (IntKind.u64.wrap (v : Int) = (v : Int)) := IntWalk.u64_in _ (by omega)
  obtain ⟨pp, hpp⟩ : ∃ pp : Int, pp = ((a + 1 + f : Nat) : Int) := ⟨_, rfl⟩
  rw [← hpp] at e2 HL
  generalize H.lay (a + 1 + f) v = H2 at *
  have hge : (0 : Int) ≤ (a : Int) + 1 := by omega
  clear h hb1 hb2 hb3 hb4 hf ha hx hpp hnle hi hv hvn
  go_enter Tryz.func109, Tryz.ntmps109
  go_wp2_with (go_at_call 67; refine HV.out.mono ?_; rintro e w1 ⟨rfl, rfl⟩)
  refine wp_region_still_mid 10 rfl (by kernel_rfl) (by kernel_rfl) (fun K hK => ?_)
  change wpStill _ _ (World.drew _) _ _ _
  simp only [List.take_succ_cons, List.take_zero, List.drop_succ_cons, List.drop_zero] at hK ⊢
  repeat still_step
  refine wpStill_nil ?_
  change ite _ (Oper.wp _ _ _ w.drew _ _) _
  go_simp
  rw [HEU.out]
  refine HL.out.mono ?_
  rintro e w1 ⟨rfl, h1, k1⟩
  refine hK _ _ ?_
  clear hK K
  have HH1 := Lib.hid h1
  have HK1 := Lib.hid ((Keep.refl (HF D) w).drew.trans k1)
  clear h1 k1 c1 c2 c3 c4 y0
  repeat still_step
  refine wpStill_nil ?_
  go_wp2_with fail
  go_ret
  exact ⟨rfl, HH1.out, HK1.out⟩
set_option maxRecDepth 4000 in
set_option maxHeartbeats 2000000 in
theorem hStore_any (h : HeapAt w D H) (a : Nat) (f : Int) (v : Nat) : Calls Tryz.prog 64 #[.pointer (some ⟨D 0, 0, none⟩), .int .i64 (a : Int), .int .i64 f, .int .i64 (v : Int)] w fun e w' => e = .returned (.int .i64 (H.storeE a f v : Int)) ∧ HeapAt w' D (H.storeP a f v) ∧ Keep (HF D) w w' := by
  obtain ⟨W0, hW0⟩ : ∃ W', W' = (((w.alloc (.cells #[.pointer (some ⟨D 0, 0, none⟩)] 48)).alloc (.cells #[.int .i64 (a : Int)] 3)).alloc (.cells #[.int .i64 f] 3)).alloc (.cells #[.int .i64 (v : Int)] 3) := ⟨_, rfl⟩
  have hk0 : Keep none_ w W0 := by rw [hW0]; exact ((((Keep.refl _ _).alloc _).alloc _).alloc _).alloc _
  have hb1 : Blk W0 w.heap.size [.pointer (some ⟨D 0, 0, none⟩)] 48 := by rw [hW0]; exact (((Blk.new w _ _).alloc _).alloc _).alloc _
  have hb2 : Blk W0 (w.heap.size + 1) [.int .i64 (a : Int)] 3 := by
    rw [hW0]
    have h := Blk.new (w.alloc (.cells #[.pointer (some ⟨D 0, 0, none⟩)] 48)) [.int .i64 (a : Int)] 3
    rw [World.size_alloc] at h
    exact (h.alloc _).alloc _
  have hb3 : Blk W0 (w.heap.size + 1 + 1) [.int .i64 f] 3 := by
    rw [hW0]
    have h := Blk.new ((w.alloc (.cells #[.pointer (some ⟨D 0, 0, none⟩)] 48)).alloc (.cells #[.int .i64 (a : Int)] 3)) [.int .i64 f] 3
    rw [World.size_alloc, World.size_alloc] at h
    exact h.alloc _
  have hb4 : Blk W0 (w.heap.size + 1 + 1 + 1) [.int .i64 (v : Int)] 3 := by
    rw [hW0]
    have h := Blk.new (((w.alloc (.cells #[.pointer (some ⟨D 0, 0, none⟩)] 48)).alloc (.cells #[.int .i64 (a : Int)] 3)).alloc (.cells #[.int .i64 f] 3)) [.int .i64 (v : Int)] 3
    rw [World.size_alloc, World.size_alloc, World.size_alloc] at h
    exact h
  have h0 := h.still hk0
  have n1 := h.newHF (b := w.heap.size) (Nat.le_refl _)
  have n2 := h.newHF (b := w.heap.size + 1) (by omega)
  have n3 := h.newHF (b := w.heap.size + 1 + 1) (by omega)
  have n4 := h.newHF (b := w.heap.size + 1 + 1 + 1) (by omega)
  have hmf : ∀ (fn : Fn) (first cap : Array Value) (w : World), (Instr.makeFunc fn first cap).run Tryz.prog w = .ok (.func fn first cap) w := fun _ _ _ _ => rfl
  have key : Hid (Calls Tryz.prog 80 #[.pointer (some ⟨D 0, 0, none⟩), .int .i64 (a : Int), .func (.func 109) #[] #[.pointer (some ⟨w.heap.size + 1 + 1, 0, none⟩), .pointer (some ⟨w.heap.size, 0, none⟩), .pointer (some ⟨w.heap.size + 1 + 1 + 1, 0, none⟩), .pointer (some ⟨w.heap.size + 1, 0, none⟩)]] W0 fun e w' => e = .returned (.int .i64 (H.storeE a f v : Int)) ∧ (HeapAt w' D (H.storeP a f v) ∧ Keep (HF D) w w')) := by
    by_cases he : H.objE a = 0
    · refine hObject_yes h0 a 109 (fun args w => by simp [callFunc, Tryz.func109, go_sem]; rfl) _ _ _ he (fun W hW hk => ?_)
      have g1 := hk.blk hb1 n1
      have g2 := hk.blk hb2 n2
      have g3 := hk.blk hb3 n3
      have g4 := hk.blk hb4 n4
      by_cases hf : f < 0 ∨ (H.nf a : Int) ≤ f
      · have hE : H.storeE a f v = 7 := by unfold HS.storeE HS.loadE; rw [if_pos he, if_pos hf]; rfl
        have hP : H.storeP a f v = H := by unfold HS.storeP; rw [hE]; rfl
        rw [hE, hP]
        refine (hStore1_bad (H.nf a) f _ _ _ _ W hf g3).mono ?_
        rintro e w' ⟨rfl, rfl⟩
        exact ⟨rfl, hW, hk0.none_hf.trans hk⟩
      · obtain ⟨j, rfl⟩ : ∃ j : Nat, f = (j : Int) := ⟨f.toNat, by omega⟩
        have hE0 : H.loadE a (j : Int) = 0 := by unfold HS.loadE; rw [if_pos he, if_neg hf]
        have hfl := h.inv.field (objE_of he).2 (f := j) (by omega)
        by_cases hv : v ≤ H.n
        · have hE : H.storeE a (j : Int) v = 0 := by unfold HS.storeE; rw [hE0, if_pos rfl, if_pos hv]
          have hP : H.storeP a (j : Int) v = H.lay (a + 1 + j) v := by unfold HS.storeP; rw [hE, if_pos rfl, Int.toNat_natCast]
          rw [hE, hP]
          have hvn : v ≤ 1048576 := by have := h.inv.nle; unfold HS.n at hv; omega
          refine (hStore1_good hW (H.nf a) j a v _ _ _ _ (by omega) hv (by omega) hfl.2.1 (h.inv.lay (by omega) hfl.2.1 hfl.1 hfl.2.2.2 (by unfold wordTop; omega)) g3 g1 g4 g2).mono ?_
          rintro e w' ⟨rfl, hh1, k1⟩
          exact ⟨rfl, hh1, (hk0.none_hf.trans hk).trans k1⟩
        · have hE : H.storeE a (j : Int) v = 4 := by unfold HS.storeE; rw [hE0, if_pos rfl, if_neg hv]
          have hP : H.storeP a (j : Int) v = H := by unfold HS.storeP; rw [hE]; rfl
          rw [hE, hP]
          refine (hStore1_range hW (H.nf a) j v _ _ _ _ (by omega) hv g3 g1 g4).mono ?_
          rintro e w' ⟨rfl, rfl⟩
          exact ⟨rfl, hW, hk0.none_hf.trans hk⟩
    · have hE : H.storeE a f v = H.objE a := by unfold HS.storeE HS.loadE; rw [if_neg he, if_neg he]
      have hP : H.storeP a f v = H := by unfold HS.storeP; rw [hE, if_neg he]
      rw [hE, hP]
      refine (hObject_no h0 a _ he).mono ?_
      rintro e w' ⟨rfl, g1, g2⟩
      exact ⟨rfl, g1, hk0.none_hf.trans g2⟩
  generalize H.storeP a f v = H2 at *
  generalize H.storeE a f v = er at *
  clear h h0 hk0 hb1 hb2 hb3 hb4 n1 n2 n3 n4
  go_enter Tryz.func64, Tryz.ntmps64
  go_wp2_with fail
  rw [← hW0]
  clear hW0
  refine key.out.mono ?_
  rintro e w1 ⟨rfl, h1, k1⟩
  have HH1 := Lib.hid h1
  have HK1 := Lib.hid k1
  clear h1 k1 key
  go_wp2_with fail
  go_ret
  exact ⟨rfl, HH1.out, HK1.out⟩
end
end Go.Proofs.YtjdnkhljgnjkcaaGreatDoor

/- A new heap. -/
namespace Go.Proofs.YtjdnkhljgnjkcaaGreatDoor
open Go.RowKit
attribute [local go_sem] Oper.semAt_some

def HS.new (c : Conf) (b ww nc : Nat) : HS := ⟨c, b, ww, List.replicate (b * ww) 0, List.replicate b 0, [[], [], [], []], fun _ => false, fun _ => false, List.replicate nc 0⟩
theorem hs_new_inv (c : Conf) (b ww nc : Nat) (h : b * ww ≤ 1048576) : HInv (HS.new c b ww nc) := by
  have hrow : ∀ k, (HS.new c b ww nc).row k = [] := fun k => by
    match k with
    | 0 => rfl
    | 1 => rfl
    | 2 => rfl
    | 3 => rfl
    | n + 4 => rfl
  have hz : ∀ a, (HS.new c b ww nc).word a = 0 := fun a => by
    unfold HS.word wordF HS.new
    split
    · rw [List.getD_eq_getElem?_getD, List.getElem?_replicate]
      split <;> rfl
    · rfl
  refine ⟨by simp [HS.new], h, fun x hx => ?_, fun x hx => ?_, rfl, fun k _ => ?_, fun k _ => ?_, fun k _ a ha => ?_, fun a ha => ?_, fun a _ _ _ => .inl (hz a), fun x hx => ?_, fun a _ _ _ => hz a⟩
  · rw [List.eq_of_mem_replicate hx]; decide
  · rw [List.eq_of_mem_replicate hx]; decide
  · rw [hrow]; trivial
  · rw [hrow]; exact List.nodup_nil
  · rw [hrow] at ha; cases ha
  · cases ha
  · rw [List.eq_of_mem_replicate hx]; exact Nat.zero_le _
theorem setF_new {w : World} {B X n : Nat} (h : SetAt w B X n (List.replicate ((n + 63) / 64) 0)) : SetF w B X n (fun _ => false) :=
  ⟨_, h, fun m => by unfold hasP; rw [bit_new]; simp⟩
/-- Thirteen blocks, one apart from another. -/
def listD (l : List Nat) : Nat → Nat := fun i => l.getD i 0
theorem listD_inj {l : List Nat} (hl : l.length = 13) (hn : l.Nodup) : ∀ i j, i < 13 → j < 13 → listD l i = listD l j → i = j := by
  intro i j hi hj e
  unfold listD at e
  rw [List.getD_eq_getElem?_getD, List.getElem?_eq_getElem (by omega), List.getD_eq_getElem?_getD, List.getElem?_eq_getElem (by omega)] at e
  simp only [Option.getD_some] at e
  rcases Nat.lt_trichotomy i j with h | h | h
  · exact absurd e (List.pairwise_iff_getElem.1 hn i j (by omega) (by omega) h)
  · exact h
  · exact absurd e.symm (List.pairwise_iff_getElem.1 hn j i (by omega) (by omega) h)
set_option maxRecDepth 4000 in
set_option maxHeartbeats 400000 in
theorem tNew_no (c : Conf) (hok : c.ok = false) (w : World) (hT : Tabs w) : Calls Tryz.prog 86 #[.agg c.cells.toArray] w fun e w' => e = .returned (.tuple #[.pointer none, .int .i64 1]) ∧ Keep none_ w w' := by
  obtain ⟨W0, hW0⟩ : ∃ W', W' = w.alloc (.cells c.cells.toArray 23) := ⟨_, rfl⟩
  have HK : Hid (Keep none_ w W0) := by rw [hW0]; exact (Keep.refl _ _).alloc _
  have HR := Lib.hid (right_any c W0 (hT.keep HK.out))
  rw [hok] at HR
  obtain ⟨c0, c1, c2, c3, c4, c5, c6⟩ := c
  simp only [Conf.cells] at *
  clear hT hok
  go_enter Tryz.func86, Tryz.ntmps86
  go_wp2_with fail
  rw [← hW0]
  clear hW0
  refine HR.out.mono ?_
  rintro e w1 ⟨rfl, hk1⟩
  have HK1 := Lib.hid (HK.out.trans hk1)
  clear hk1 HR HK
  go_wp2_with fail
  go_ret2
  exact ⟨rfl, HK1.out⟩
set_option maxRecDepth 4000 in
set_option maxHeartbeats 400000 in
theorem hNew_no (c : Conf) (hok : c.ok = false) (w : World) (hT : Tabs w) : Calls Tryz.prog 44 #[.agg c.cells.toArray] w fun e w' => e = .returned (.tuple #[.pointer none, .int .i64 1]) ∧ Keep none_ w w' := by
  obtain ⟨W0, hW0⟩ : ∃ W', W' = w.alloc (.cells c.cells.toArray 23) := ⟨_, rfl⟩
  have HK : Hid (Keep none_ w W0) := by rw [hW0]; exact (Keep.refl _ _).alloc _
  have hN : Calls Tryz.prog 86 #[.agg c.cells.toArray] W0 fun e w' => e = .returned (.tuple #[.pointer none, .int .i64 1]) ∧ Keep none_ W0 w' := tNew_no c hok W0 (hT.keep HK.out)
  have HN := Lib.hid hN
  have HB := Lib.hid (show Blk W0 w.heap.size c.cells 23 by rw [hW0]; exact Blk.new w _ _)
  obtain ⟨c0, c1, c2, c3, c4, c5, c6⟩ := c
  simp only [Conf.cells] at *
  clear hT hok hN
  go_enter Tryz.func44, Tryz.ntmps44
  go_wp2_with fail
  rw [← hW0]
  clear hW0
  refine HN.out.mono ?_
  rintro e w1 ⟨rfl, hk1⟩
  have HK1 := Lib.hid (HK.out.trans hk1)
  clear hk1 HN HK HB
  go_wp2_with fail
  go_ret2
  exact ⟨rfl, HK1.out⟩
set_option maxRecDepth 4000 in
set_option maxHeartbeats 4000000 in
theorem hNew_ok (c : Conf) (b ww nc : Nat) (hok : c.ok = true) (hcb : c.b = b) (hcw : c.w = ww) (hcc : c.c = nc) (w : World) (hT : Tabs w) (hS : Sizes w) : Calls Tryz.prog 44 #[.agg c.cells.toArray] w fun e w' => ∃ D, e = .returned (.tuple #[.pointer (some ⟨D 0, 0, none⟩), .int .i64 0]) ∧ HeapAt w' D (HS.new c b ww nc) ∧ (∀ i, i < 13 → w.heap.size ≤ D i) ∧ Keep none_ w w' := by
  have hn := ok_nat hok hcb hcw
  have hbd := ok_bounds hok
  have hnc : nc ≤ 64 := by omega
  have hmk : ∀ w : World, (Instr.makeSlice 40 (.int .i64 (nc : Int)) (.int .i64 (nc : Int))).run Tryz.prog w = .ok (.slice (some ⟨w.heap.size, 0, none⟩) nc nc) (w.alloc (.cells (zeros (.int .i64 0) nc).toArray 3)) :=
    fun w => run_mk (P := Tryz.prog) (by kernel_rfl) Tryz.infoInt rfl (by decide) nc (by omega) _ rfl w
  obtain ⟨W0, hW0⟩ : ∃ W', W' = w.alloc (.cells c.cells.toArray 23) := ⟨_, rfl⟩
  have HK : Hid (Keep none_ w W0) := by rw [hW0]; exact (Keep.refl _ _).alloc _
  have HN := Lib.hid (tNew_ok c b hok hcb W0 (hT.keep HK.out))
  have HB := Lib.hid (show Blk W0 w.heap.size c.cells 23 by rw [hW0]; exact Blk.new w _ _)
  have HSZ : Hid (W0.heap.size = w.heap.size + 1) := by rw [Hid, hW0]; simp
  have HCW : Hid (∀ W, Keep none_ w W → Calls Tryz.prog 87 #[.agg c.cells.toArray] W fun e w' => e = .returned (.int .i64 ((b * ww : Nat) : Int)) ∧ Keep none_ W w') := fun W hW => cWords_any hok hcb hcw W (hT.keep hW)
  have HAN : Hid (∀ W, Calls Tryz.prog 88 #[.int .i64 ((b * ww : Nat) : Int)] W fun e w' => ∃ R X, e = .returned (.tuple #[.pointer (some ⟨R, 0, none⟩), .int .i64 0]) ∧ ArenaAt w' R X (List.replicate (b * ww) 0) ∧ W.heap.size ≤ R ∧ W.heap.size ≤ X ∧ Keep none_ W w') := fun W => aNew_any (b * ww) (by have := Nat.mul_le_mul hn.1 hn.2.2.1; omega) hn.2.2.2.2 W
  have HLN : Hid (∀ W aR aX tR tX, ArenaAt W aR aX (List.replicate (b * ww) 0) → TableAt W tR tX c (List.replicate b 0) → Keep none_ w W → Calls Tryz.prog 89 #[.pointer (some ⟨aR, 0, none⟩), .pointer (some ⟨tR, 0, none⟩)] W fun e w' => ∃ L iR iX, e = .returned (.tuple #[.pointer (some ⟨L, 0, none⟩), .int .i64 0]) ∧ ListsAt w' L iR iX aR tR (b * ww + 1) (List.replicate ((b * ww + 1 + 63) / 64) 0) [0, 0, 0, 0] ∧ W.heap.size ≤ L ∧ W.heap.size ≤ iR ∧ W.heap.size ≤ iX ∧ Keep none_ W w') := fun W aR aX tR tX hA hTb hW =>
    lNew_ok hA hTb hcb hcw (by simp) (hT.keep hW)
  have HBN : Hid (∀ W, Calls Tryz.prog 90 #[.int .i64 (((b * ww : Nat) : Int) + 1)] W fun e w' => ∃ B X, e = .returned (.tuple #[.pointer (some ⟨B, 0, none⟩), .int .i64 0]) ∧ SetAt w' B X (b * ww + 1) (List.replicate ((b * ww + 1 + 63) / 64) 0) ∧ W.heap.size ≤ B ∧ W.heap.size ≤ X ∧ Keep none_ W w') := fun W => by
    have h9 := bNew_any (b * ww + 1) (by omega) W
    rw [show (((b * ww + 1 : Nat) : Nat) : Int) = ((b * ww : Nat) : Int) + 1 by omega] at h9
    exact h9
  have HINV := Lib.hid (hs_new_inv c b ww nc hn.2.2.2.2)
  have HTS : Hid (Tabs w ∧ Sizes w) := ⟨hT, hS⟩
  have hNle : ((b * ww : Nat) : Int) ≤ 1048576 := by omega
  have hwr : IntKind.i64.wrap (((b * ww : Nat) : Int) + 1) = ((b * ww : Nat) : Int) + 1 := IntWalk.i64_in _ (by omega)
  obtain ⟨NN, hNN⟩ : ∃ NN, NN = b * ww := ⟨_, rfl⟩
  have HNN := Lib.hid hNN
  rw [← hNN] at HCW HAN HLN HBN hNle hwr
  obtain ⟨c0, c1, c2, c3, c4, c5, c6⟩ := c
  simp only at hcb hcw hcc
  subst hcb
  subst hcw
  subst hcc
  simp only [Conf.cells] at *
  clear hT hS hok hn hbd hNN
  go_enter Tryz.func44, Tryz.ntmps44
  go_wp2_with fail
  rw [← hW0]
  clear hW0
  refine HN.out.mono ?_
  rintro e w1 ⟨tR, tX, rfl, ht, t1, t2, hk1⟩
  have HT1 := Lib.hid ht
  have HG1 : Hid (w.heap.size + 1 ≤ tR ∧ w.heap.size + 1 ≤ tX ∧ tR ≠ tX ∧ tR < w1.heap.size ∧ tX < w1.heap.size) := by have h9 := HSZ.out; exact ⟨by omega, by omega, ht.ne, ht.blk.lt, ht.cls.lt⟩
  have HK1 := Lib.hid (HK.out.trans hk1)
  have HB1 := Lib.hid (hk1.blk HB.out (fun f => f))
  have y0 := HB1.out.cell 0 rfl; have y1 := HB1.out.cell 1 rfl; have y2 := HB1.out.cell 2 rfl; have y3 := HB1.out.cell 3 rfl; have y4 := HB1.out.cell 4 rfl; have y5 := HB1.out.cell 5 rfl; have y6 := HB1.out.cell 6 rfl
  clear ht t1 t2 hk1 HN HK HB
  have HCW1 := Lib.hid (HCW.out _ HK1.out)
  go_wp2_with fail
  refine HCW1.out.mono ?_
  rintro e w2 ⟨rfl, hk2⟩
  have HK2 := Lib.hid (HK1.out.trans hk2)
  have HT2 := Lib.hid (HT1.out.still hk2)
  have HB2 := Lib.hid (hk2.blk HB1.out (fun f => f))
  have HS2 : Hid (w1.heap.size ≤ w2.heap.size) := hk2.size
  clear hk2 HCW1 HCW HT1 HB1 y0 y1 y2 y3 y4 y5 y6
  go_wp2_with fail
  refine (HAN.out _).mono ?_
  rintro e w3 ⟨aR, aX, rfl, ha, a1, a2, hk3⟩
  have HK3 := Lib.hid (HK2.out.trans hk3)
  have HT3 := Lib.hid (HT2.out.still hk3)
  have HB3 := Lib.hid (hk3.blk HB2.out (fun f => f))
  have HA3 := Lib.hid ha
  have HG3 : Hid (w2.heap.size ≤ aR ∧ w2.heap.size ≤ aX ∧ aR ≠ aX ∧ aR < w3.heap.size ∧ aX < w3.heap.size) := ⟨a1, a2, ha.ne, by obtain ⟨_, _, h9⟩ := ha.blk; exact h9.lt, ha.wds.lt⟩
  clear hk3 ha a1 a2 HT2 HB2
  have HLN3 := Lib.hid (HLN.out _ _ _ _ _ HA3.out HT3.out HK3.out)
  go_wp2_with fail
  refine HLN3.out.mono ?_
  rintro e w4 ⟨L, iR, iX, rfl, hl, l1, l2, l3, hk4⟩
  have HK4 := Lib.hid (HK3.out.trans hk4)
  have HT4 := Lib.hid (HT3.out.still hk4)
  have HB4 := Lib.hid (hk4.blk HB3.out (fun f => f))
  have HA4 := Lib.hid (HA3.out.still hk4)
  have HL4 := Lib.hid hl
  have HG4 : Hid (w3.heap.size ≤ L ∧ w3.heap.size ≤ iR ∧ w3.heap.size ≤ iX ∧ L ≠ iR ∧ L ≠ iX ∧ iR ≠ iX ∧ L < w4.heap.size ∧ iR < w4.heap.size ∧ iX < w4.heap.size) := ⟨l1, l2, l3, hl.ne.1, hl.ne.2, hl.set.ne, hl.lt, by obtain ⟨_, h9⟩ := hl.set.blk; exact h9.lt, by obtain ⟨_, h9, _⟩ := hl.set.wds; exact h9.lt⟩
  clear hk4 hl l1 l2 l3 HT3 HB3 HA3 HLN3 HLN
  go_wp2_with fail
  refine (HBN.out _).mono ?_
  rintro e w5 ⟨bR, bX, rfl, hs, s1, s2, hk5⟩
  have HK5 := Lib.hid (HK4.out.trans hk5)
  have HT5 := Lib.hid (HT4.out.still hk5)
  have HB5 := Lib.hid (hk5.blk HB4.out (fun f => f))
  have HA5 := Lib.hid (HA4.out.still hk5)
  have HL5 := Lib.hid (HL4.out.still hk5)
  have HS5 := Lib.hid hs
  have HG5 : Hid (w4.heap.size ≤ bR ∧ w4.heap.size ≤ bX ∧ bR ≠ bX ∧ bR < w5.heap.size ∧ bX < w5.heap.size) := ⟨s1, s2, hs.ne, by obtain ⟨_, h9⟩ := hs.blk; exact h9.lt, by obtain ⟨_, h9, _⟩ := hs.wds; exact h9.lt⟩
  clear hk5 hs s1 s2 HT4 HB4 HA4 HL4
  have HCP : Hid (∀ W, Keep none_ w5 W → Calls Tryz.prog 91 #[.pointer (some ⟨bR, 0, none⟩)] W fun e w' => ∃ B' X', e = .returned (.pointer (some ⟨B', 0, none⟩)) ∧ SetAt w' B' X' (NN + 1) (List.replicate ((NN + 1 + 63) / 64) 0) ∧ W.heap.size ≤ B' ∧ W.heap.size ≤ X' ∧ Keep none_ W w') := fun W hW => bCopy_any (HS5.out.still hW) (by omega)
  -- what there is in the end, wherever the cells and the copy lie
  have HEND : Hid (∀ cR cX cl d0 W, Keep none_ w5 W → SetAt W cR cX (NN + 1) (List.replicate ((NN + 1 + 63) / 64) 0) → Blk W cl (tabV (List.replicate nc 0)) 3 → Blk W d0 [.pointer (some ⟨aR, 0, none⟩), .pointer (some ⟨tR, 0, none⟩), .pointer (some ⟨L, 0, none⟩), .pointer (some ⟨bR, 0, none⟩), .pointer (some ⟨cR, 0, none⟩), .slice (some ⟨cl, 0, none⟩) nc nc] 118 →
      w5.heap.size ≤ cR → w5.heap.size ≤ cX → w5.heap.size ≤ cl → w5.heap.size ≤ d0 → cl ≠ cX →
      HeapAt W (listD [d0, aR, aX, tR, tX, L, iR, iX, bR, bX, cR, cX, cl]) (HS.new ⟨b, ww, c2, c3, nc, c5, c6⟩ b ww nc) ∧ ∀ i, i < 13 → w.heap.size ≤ listD [d0, aR, aX, tR, tX, L, iR, iX, bR, bX, cR, cX, cl] i) := by
    intro cR cX cl d0 W hW hc hcl hd g1 g2 g3 g4 g5
    have q1 := HG1.out; have q2 := HS2.out; have q3 := HG3.out; have q4 := HG4.out; have q5 := HG5.out
    have q6 := hc.ne
    have q7 : d0 ≠ cR := fun e => by obtain ⟨_, h9⟩ := hc.blk; rw [e] at hd; exact absurd (hd.uniq h9).2 (by decide)
    have q8 : d0 ≠ cX := fun e => by obtain ⟨_, h9, _⟩ := hc.wds; rw [e] at hd; exact absurd (hd.uniq h9).2 (by decide)
    have q9 : d0 ≠ cl := fun e => by rw [e] at hd; exact absurd (hd.uniq hcl).2 (by decide)
    have q10 : cl ≠ cR := fun e => by obtain ⟨_, h9⟩ := hc.blk; rw [e] at hcl; exact absurd (hcl.uniq h9).2 (by decide)
    have hge : ∀ i, i < 13 → w.heap.size + 1 ≤ listD [d0, aR, aX, tR, tX, L, iR, iX, bR, bX, cR, cX, cl] i := by
      intro i hi
      match i, hi with
      | 0, _ => show _ ≤ d0; omega
      | 1, _ => show _ ≤ aR; omega
      | 2, _ => show _ ≤ aX; omega
      | 3, _ => show _ ≤ tR; omega
      | 4, _ => show _ ≤ tX; omega
      | 5, _ => show _ ≤ L; omega
      | 6, _ => show _ ≤ iR; omega
      | 7, _ => show _ ≤ iX; omega
      | 8, _ => show _ ≤ bR; omega
      | 9, _ => show _ ≤ bX; omega
      | 10, _ => show _ ≤ cR; omega
      | 11, _ => show _ ≤ cX; omega
      | 12, _ => show _ ≤ cl; omega
    have hkW := HK5.out.trans hW
    have gl : 2 < w.heap.size ∧ 3 < w.heap.size ∧ 1 < w.heap.size :=
      ⟨World.block_lt_of_cell? _ _ (HTS.out.1.lim 0 1 rfl), World.block_lt_of_cell? _ _ (HTS.out.1.kind 0 [] rfl), World.block_lt_of_cell? _ _ (HTS.out.2 0 2 rfl)⟩
    refine ⟨⟨listD_inj rfl ?_, ?_, ?_, HT5.out.still hW, ⟨List.replicate ((NN + 1 + 63) / 64) 0, ?_, ?_⟩, ?_, ?_, hcl, rfl, rfl, ?_, HINV.out, HTS.out.1.keep hkW, HTS.out.2.keep hkW, fun i hi => ?_⟩, fun i hi => by have := hge i hi; omega⟩
    · simp only [List.nodup_cons, List.mem_cons, List.not_mem_nil, or_false, not_or, List.nodup_nil, and_true, not_false_eq_true]
      clear hd hcl hc hW hkW hge gl
      refine ⟨⟨?_, ?_, ?_, ?_, ?_, ?_, ?_, ?_, ?_, ?_, ?_, ?_⟩, ⟨?_, ?_, ?_, ?_, ?_, ?_, ?_, ?_, ?_, ?_, ?_⟩, ⟨?_, ?_, ?_, ?_, ?_, ?_, ?_, ?_, ?_, ?_⟩, ⟨?_, ?_, ?_, ?_, ?_, ?_, ?_, ?_, ?_⟩, ⟨?_, ?_, ?_, ?_, ?_, ?_, ?_, ?_⟩, ⟨?_, ?_, ?_, ?_, ?_, ?_, ?_⟩, ⟨?_, ?_, ?_, ?_, ?_, ?_⟩, ⟨?_, ?_, ?_, ?_, ?_⟩, ⟨?_, ?_, ?_, ?_⟩, ⟨?_, ?_, ?_⟩, ⟨?_, ?_⟩, ?_⟩ <;> omega
    · show Blk W d0 _ _
      simpa [HS.new, listD] using hd
    · show ArenaAt W aR aX (List.replicate (b * ww) 0)
      rw [← HNN.out]; exact HA5.out.still hW
    · show ListsAt W L iR iX aR tR (b * ww + 1) _ [0, 0, 0, 0]
      rw [← HNN.out]; exact HL5.out.still hW
    · intro m
      show hasP (b * ww + 1) _ _ = false
      unfold hasP
      rw [bit_new]; simp
    · show SetF W bR bX (b * ww + 1) (fun _ => false)
      rw [← HNN.out]; exact setF_new (HS5.out.still hW)
    · show SetF W cR cX (b * ww + 1) (fun _ => false)
      rw [← HNN.out]; exact setF_new hc
    · show (nc : Int) = ((List.replicate nc 0).length : Int)
      simp
    · have h9 := hge i hi
      exact ⟨by omega, by omega, by omega⟩
  have HSZ4 : Hid (∀ W, Keep none_ w5 W → W.cell? ⟨w.heap.size, 4, none⟩ = some (.int .i64 (nc : Int))) := fun W hW => hW.still (HB5.out.cell 4 rfl)
  have y4 := HSZ4.out w5 (Keep.refl _ _)
  have HKW := Lib.hid HK5.out
  clear HK5 HT5 HB5 HA5 HL5 HS5 HG5 HG4 HG3 HS2 HG1 HINV HTS HK4 HK3 HK2 HK1 HBN HAN HNN HSZ
  go_wp2_with fail
  go_region_held3 (fun w' => w'.cell? ⟨w.heap.size, 4, none⟩ = some (.int .i64 (nc : Int)))
    (first | exact HSZ4.out _ (Keep.refl _ _) | exact HSZ4.out _ (Keep.refl _ _).drew | exact HSZ4.out _ ((Keep.refl _ _).alloc _) | exact HSZ4.out _ ((Keep.refl _ _).alloc _).drew | exact HSZ4.out _ ((Keep.refl _ _).drew.alloc _) | exact HSZ4.out _ HK6.out | exact HSZ4.out _ (HK6.out.alloc _) | exact HSZ4.out _ ((HK6.out.alloc _).alloc _) | fail "SFAIL")
    ((go_at_call 91
      refine (HCP.out _ (by first | exact (Keep.refl _ _).drew | exact ((Keep.refl _ _).alloc _).drew | exact (Keep.refl _ _).drew.alloc _ | fail "CFAIL")).mono ?_
      rintro e w6 ⟨cR, cX, rfl, hc, g1, g2, hk6⟩
      have HC6 := Lib.hid hc
      have HG6 := Lib.hid (And.intro g1 g2)
      have HK06 := Lib.hid hk6
      have HK6 : Hid (Keep none_ w5 w6) := by first | exact (Keep.refl _ _).drew.trans hk6 | exact ((Keep.refl _ _).alloc _).drew.trans hk6 | exact ((Keep.refl _ _).drew.alloc _).trans hk6 | fail "KFAIL"
      clear hc g1 g2 hk6))
  all_goals
    go_wp2_with fail
    go_ret2
  · -- the copy, then the cells
    have hz : zeros (.int .i64 0) nc = tabV (List.replicate nc 0) := by simp [zeros, tabV]
    have hs5 := HK6.out.size
    have k7 : Keep none_ w6 ((w6.alloc (.cells (zeros (.int .i64 0) nc).toArray 3)).alloc (.cells #[.pointer (some ⟨aR, 0, none⟩), .pointer (some ⟨tR, 0, none⟩), .pointer (some ⟨L, 0, none⟩), .pointer (some ⟨bR, 0, none⟩), .pointer (some ⟨cR, 0, none⟩), .slice (some ⟨w6.heap.size, 0, none⟩) nc nc] 118)) := ((Keep.refl _ _).alloc _).alloc _
    have hcl := (Blk.new w6 (zeros (.int .i64 0) nc) 3).alloc (.cells #[.pointer (some ⟨aR, 0, none⟩), .pointer (some ⟨tR, 0, none⟩), .pointer (some ⟨L, 0, none⟩), .pointer (some ⟨bR, 0, none⟩), .pointer (some ⟨cR, 0, none⟩), .slice (some ⟨w6.heap.size, 0, none⟩) nc nc] 118)
    have hd := Blk.new (w6.alloc (.cells (zeros (.int .i64 0) nc).toArray 3)) [.pointer (some ⟨aR, 0, none⟩), .pointer (some ⟨tR, 0, none⟩), .pointer (some ⟨L, 0, none⟩), .pointer (some ⟨bR, 0, none⟩), .pointer (some ⟨cR, 0, none⟩), .slice (some ⟨w6.heap.size, 0, none⟩) nc nc] 118
    rw [World.size_alloc] at hd
    have hlt : cX < w6.heap.size := by obtain ⟨_, h9, _⟩ := HC6.out.wds; exact h9.lt
    have g6 := HG6.out
    have hEND := HEND.out cR cX w6.heap.size (w6.heap.size + 1) _ (HK6.out.trans k7) (HC6.out.still k7) (by rw [← hz]; exact hcl) hd (by first | omega | exact g6.1 | (have := g6.1; simp at this; omega)) (by first | omega | exact g6.2 | (have := g6.2; simp at this; omega)) hs5 (by omega) (by omega)
    exact ⟨_, rfl, hEND.1, hEND.2, HKW.out.trans (HK6.out.trans k7)⟩
  · -- the cells, then the copy
    have hz : zeros (.int .i64 0) nc = tabV (List.replicate nc 0) := by simp [zeros, tabV]
    have hs5 := HK6.out.size
    have k7 : Keep none_ w6 (w6.alloc (.cells #[.pointer (some ⟨aR, 0, none⟩), .pointer (some ⟨tR, 0, none⟩), .pointer (some ⟨L, 0, none⟩), .pointer (some ⟨bR, 0, none⟩), .pointer (some ⟨cR, 0, none⟩), .slice (some ⟨w5.heap.size, 0, none⟩) nc nc] 118)) := (Keep.refl _ _).alloc _
    have hcl0 := (HK06.out.blk ((Blk.new w5 (zeros (.int .i64 0) nc) 3).drew) (fun f => f))
    have hcl := hcl0.alloc (.cells #[.pointer (some ⟨aR, 0, none⟩), .pointer (some ⟨tR, 0, none⟩), .pointer (some ⟨L, 0, none⟩), .pointer (some ⟨bR, 0, none⟩), .pointer (some ⟨cR, 0, none⟩), .slice (some ⟨w5.heap.size, 0, none⟩) nc nc] 118)
    have hd := Blk.new w6 [.pointer (some ⟨aR, 0, none⟩), .pointer (some ⟨tR, 0, none⟩), .pointer (some ⟨L, 0, none⟩), .pointer (some ⟨bR, 0, none⟩), .pointer (some ⟨cR, 0, none⟩), .slice (some ⟨w5.heap.size, 0, none⟩) nc nc] 118
    have g6 := HG6.out
    have g61 : w5.heap.size + 1 ≤ cR := by have := g6.1; simpa using this
    have g62 : w5.heap.size + 1 ≤ cX := by have := g6.2; simpa using this
    have hEND := HEND.out cR cX w5.heap.size w6.heap.size _ (HK6.out.trans k7) (HC6.out.still k7) (by rw [← hz]; exact hcl) hd (by omega) (by omega) (Nat.le_refl _) hs5 (by omega)
    exact ⟨_, rfl, hEND.1, hEND.2, HKW.out.trans (HK6.out.trans k7)⟩
end Go.Proofs.YtjdnkhljgnjkcaaGreatDoor
