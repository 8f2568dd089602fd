/- What a graph that isn't there tells; the walk of GraphNone. -/
import Derived.Test.YtdplakfmdkjfdaaDoorSorted
import Derived.Test.YtdplakfmdkjfdaaDoorRRight
import Derived.Scope
namespace Go.Proofs.YtdplakfmdkjfdaaDoor
open Go.RowKit Go.Sort

set_option maxRecDepth 4000 in
theorem none_do (n : Int) (o : OpR) (w : World) : Calls Tryd.prog 18 #[.pointer none, .int .i64 n, .agg o.cells.toArray] w fun e w' => e = .returned (.tuple #[.int .i64 0, .int .i64 11]) ∧ Keep none_ w w' := by
  have HK : ∀ o, Hid (Keep none_ w (w.alloc o)) := fun o => (Keep.refl _ _).alloc o
  simp only [OpR.cells]
  go_enter Tryd.func18, Tryd.ntmps18
  go_wp2_with fail
  go_ret2
  exact ⟨rfl, (HK _).out⟩
set_option maxRecDepth 4000 in
theorem none_reg (a b : Int) (w : World) : Calls Tryd.prog 19 #[.pointer none, .int .i64 a, .int .i64 b] w fun e w' => e = .returned (.int .i64 0) ∧ w' = w := by
  go_enter Tryd.func19, Tryd.ntmps19
  go_wp2_with fail
  go_ret
  exact ⟨rfl, rfl⟩
set_option maxRecDepth 4000 in
theorem none_cell (a : Int) (w : World) : Calls Tryd.prog 22 #[.pointer none, .int .i64 a] w fun e w' => e = .returned (.int .i64 0) ∧ w' = w := by
  go_enter Tryd.func22, Tryd.ntmps22
  go_wp2_with fail
  go_ret
  exact ⟨rfl, rfl⟩
set_option maxRecDepth 4000 in
theorem none_count (w : World) : Calls Tryd.prog 21 #[.pointer none] w fun e w' => e = .returned (.int .i64 0) ∧ w' = w := by
  go_enter Tryd.func21, Tryd.ntmps21
  go_wp2_with fail
  go_ret
  exact ⟨rfl, rfl⟩
set_option maxRecDepth 4000 in
theorem none_fields (a : Int) (w : World) : Calls Tryd.prog 20 #[.pointer none, .int .i64 a] w fun e w' => e = .returned (.slice none 0 0) ∧ w' = w := by
  have HC := Lib.hid (none_count w)
  by_cases h1 : a < 1
  · have d1 : decide (a < 1) = true := decide_eq_true h1
    clear h1
    go_enter Tryd.func20, Tryd.ntmps20
    go_wp2_with fail
    go_ret
    exact ⟨rfl, rfl⟩
  · have d1 : decide (a < 1) = false := decide_eq_false h1
    have d2 : decide (0 < a) = true := decide_eq_true (by omega)
    go_enter Tryd.func20, Tryd.ntmps20
    go_wp2_with (go_at_call 21; refine HC.out.mono ?_; rintro e w1 ⟨rfl, rfl⟩)
    go_ret
    exact ⟨rfl, rfl⟩
set_option maxRecDepth 4000 in
theorem none_roots (w : World) : Calls Tryd.prog 27 #[.pointer none] w fun e w' => e = .returned (.slice none 0 0) ∧ w' = w := by
  go_enter Tryd.func27, Tryd.ntmps27
  go_wp2_with fail
  go_ret
  exact ⟨rfl, rfl⟩
set_option maxRecDepth 4000 in
theorem none_copy (w : World) : Calls Tryd.prog 17 #[.pointer none] w fun e w' => e = .returned (.pointer none) ∧ w' = w := by
  go_enter Tryd.func17, Tryd.ntmps17
  go_wp2_with fail
  go_ret
  exact ⟨rfl, rfl⟩
theorem none_sorted (w : World) : Calls Tryd.prog 50 #[.slice none 0 0] w fun e w' => e = .returned (.slice none 0 0) ∧ Keep none_ w w' := by
  refine (sorted_any none 0 0 [] w (World.ownsRow_nil _ _ _ _) (by decide)).mono ?_
  rintro e w' ⟨rfl, _, hk⟩
  exact ⟨by simp [sortL, nz, Lib.compact, Lib.compactUpTo], hk.mono (fun _ _ h => by cases h)⟩
set_option maxRecDepth 4000 in
theorem none_reach (w : World) : Calls Tryd.prog 24 #[.pointer none] w fun e w' => e = .returned (.slice none 0 0) ∧ Keep none_ w w' := by
  have HR := Lib.hid ((none_roots w).mono (fun _ _ h => And.intro h.1 h.2.symm))
  have HC := Lib.hid ((none_count w).mono (fun _ _ h => And.intro h.1 h.2.symm))
  have HS := Lib.hid none_sorted
  have HK : ∀ o, Hid (Keep none_ w (w.alloc o)) := fun o => (Keep.refl _ _).alloc o
  have hmk : ∀ w : World, (Instr.makeSlice 85 (.int .i64 1) (.int .i64 1)).run Tryd.prog w = .ok (.slice (some ⟨w.heap.size, 0, none⟩) 1 1) (w.alloc (.cells (zeros (.bool false) 1).toArray 4)) :=
    fun w => run_mk (P := Tryd.prog) (z := .bool false) (bytes := 1) (by kernel_rfl) (by kernel_rfl) rfl (by decide) 1 (by omega) _ rfl w
  go_enter Tryd.func24, Tryd.ntmps24
  go_wp2_with fail
  refine wp_scope_straight ?_
  go_wp2_with fail
  refine HR.out.mono ?_
  rintro e w1 ⟨rfl, rfl⟩
  go_wp2_with fail
  refine HC.out.mono ?_
  rintro e w1 ⟨rfl, rfl⟩
  go_wp2_with fail
  refine wp_label ?_
  go_wp2_with fail
  go_loopg [3, 5] 0 (fun g u v wr => u = .slice none 0 0 ∧ v = .slice none 0 0 ∧ Hid (Keep none_ w wr))
  case atStart => exact ⟨rfl, rfl, (HK _).out⟩
  case round =>
    obtain ⟨rfl, rfl, HKR⟩ := hrel
    go_wp2_with fail
    refine (HS.out wr).mono ?_
    rintro e w2 ⟨rfl, hk⟩
    go_wp2_with fail
    simp only [Exit.noGoto]
    go_ret
    exact ⟨rfl, HKR.out.trans hk⟩

set_option maxRecDepth 4000 in
set_option maxHeartbeats 4000000 in
theorem graphNone_any (z0 z1 : List Value) (n : Int) (w : World) (h0 : FlatOk [.int .i64, .int .i64, .int .i64, .int .i64, .int .i64, .int .i64, .int .i64] z0) (h1 : FlatOk [.int .i64, .int .i64, .int .i64, .int .i64] z1) (_hn : (Lit.int .i64 n).wf = true) (hL : laidMetH Tryd.prog Rows.graphNoneRow.laid w) :
    Calls Tryd.prog 8 #[.agg z0.toArray, .agg z1.toArray, .int .i64 n] w fun e w' => e = .returned (.bool true) ∧ Keep none_ w w' := by
  have HT := Lib.hid (tabs_of hL)
  clear hL
  obtain ⟨c, rfl, -⟩ := conf_of h0
  obtain ⟨o, rfl⟩ : ∃ o : OpR, z1 = o.cells := by
    obtain ⟨v0, h0, x0, rfl, y0⟩ := h1.at_ 0 _ rfl
    obtain ⟨v1, h1', x1, rfl, y1⟩ := h1.at_ 1 _ rfl
    obtain ⟨v2, h2, x2, rfl, y2⟩ := h1.at_ 2 _ rfl
    obtain ⟨v3, h3, x3, rfl, y3⟩ := h1.at_ 3 _ rfl
    have hl := h1.len
    match z1, hl with
    | [a0, a1, a2, a3], _ =>
      simp at h0 h1' h2 h3
      exact ⟨⟨x0, x1, x2, x3⟩, by simp [OpR.cells, h0, h1', h2, h3]⟩
  clear h0 h1
  have HRR := Lib.hid (fun W => rRight_any c W)
  have HND := Lib.hid (fun W => none_do n o W)
  have HNB := Lib.hid (fun W (h : Keep none_ w W) (hok : c.ok = false) => new_bad c W (HT.out.keep h) hok)
  have H1 := Lib.hid (fun a b W => (none_reg a b W).mono (fun _ _ h => And.intro h.1 h.2.symm))
  have H2 := Lib.hid (fun a W => (none_cell a W).mono (fun _ _ h => And.intro h.1 h.2.symm))
  have H3 := Lib.hid (fun a W => (none_fields a W).mono (fun _ _ h => And.intro h.1 h.2.symm))
  have H4 := Lib.hid (fun W => (none_count W).mono (fun _ _ h => And.intro h.1 h.2.symm))
  have H5 := Lib.hid (fun W => (none_roots W).mono (fun _ _ h => And.intro h.1 h.2.symm))
  have H6 := Lib.hid none_reach
  have H7 := Lib.hid (fun W => (none_copy W).mono (fun _ _ h => And.intro h.1 h.2.symm))
  have H8 := Lib.hid (fun W (h : Keep none_ w W) => awake18_any W (HT.out.keep h))
  obtain ⟨W0, hW0⟩ : ∃ W', W' = (w.alloc (.cells c.cells.toArray 23)).alloc (.cells o.cells.toArray 35) := ⟨_, rfl⟩
  have HK0 : Hid (Keep none_ w W0) := by rw [hW0]; exact ((Keep.refl _ _).alloc _).alloc _
  have HC0 : Hid (Blk W0 w.heap.size c.cells 23) := by rw [hW0]; exact (Blk.new w _ _).alloc _
  have HO0 : Hid (Blk W0 (w.heap.size + 1) o.cells 35) := by rw [hW0]; have h := Blk.new (w.alloc (.cells c.cells.toArray 23)) o.cells 35; simp only [World.size_alloc] at h; exact h
  obtain ⟨ok, hok⟩ : ∃ ok, ok = c.ok := ⟨_, rfl⟩
  rw [← hok] at HRR HNB
  clear hok
  obtain ⟨c0, c1, c2, c3, c4, c5, c6⟩ := c
  obtain ⟨o0, o1, o2, o3⟩ := o
  simp only [Conf.cells, OpR.cells] at *
  go_enter Tryd.func8, Tryd.ntmps8
  go_wp2_with fail
  rw [← hW0]
  clear hW0
  refine (HRR.out W0).mono ?_
  rintro e W1 ⟨rfl, hk1⟩
  have HK1 := Lib.hid (HK0.out.trans hk1)
  have HC1 := Lib.hid (hk1.blk HC0.out (fun f => f))
  have HO1 := Lib.hid (hk1.blk HO0.out (fun f => f))
  clear hk1 HK0 HC0 HO0
  have fin : Hid (∀ W : World, Keep none_ w W → W.cell? ⟨w.heap.size + 1, 0, none⟩ = some (.int .i64 o0) → True) := fun _ _ _ => trivial
  clear fin
  generalize w.heap.size = C at *
  cases ok with
  | true =>
    have x0 := HO1.out.cell 0 rfl; have x1 := HO1.out.cell 1 rfl; have x2 := HO1.out.cell 2 rfl; have x3 := HO1.out.cell 3 rfl
    go_wp2_with fail
    refine (HND.out W1).mono ?_
    rintro e W2 ⟨rfl, hk2⟩
    have HK2 := Lib.hid (HK1.out.trans hk2)
    clear hk2 x0 x1 x2 x3 HK1 HO1 HC1
    go_wp2_with (first
      | (go_at_call 19; refine (H1.out _ _ _).mono ?_; rintro e w1 ⟨rfl, rfl⟩)
      | (go_at_call 22; refine (H2.out _ _).mono ?_; rintro e w1 ⟨rfl, rfl⟩)
      | (go_at_call 20; refine (H3.out _ _).mono ?_; rintro e w1 ⟨rfl, rfl⟩)
      | (go_at_call 21; refine (H4.out _).mono ?_; rintro e w1 ⟨rfl, rfl⟩)
      | (go_at_call 27; refine (H5.out _).mono ?_; rintro e w1 ⟨rfl, rfl⟩))
    refine (H6.out W2).mono ?_
    rintro e W3 ⟨rfl, hk3⟩
    have HK3 := Lib.hid (HK2.out.trans hk3)
    clear hk3
    go_wp2_with (go_at_call 17; refine (H7.out _).mono ?_; rintro e w1 ⟨rfl, rfl⟩)
    refine (H8.out W3 HK3.out).mono ?_
    rintro e W4 ⟨rfl, hk4⟩
    have HK4 := Lib.hid (HK3.out.trans hk4)
    clear hk4
    go_wp2_with fail
    go_ret
    exact ⟨rfl, HK4.out⟩
  | false =>
    have y0 := HC1.out.cell 0 rfl; have y1 := HC1.out.cell 1 rfl; have y2 := HC1.out.cell 2 rfl; have y3 := HC1.out.cell 3 rfl; have y4 := HC1.out.cell 4 rfl; have y5 := HC1.out.cell 5 rfl; have y6 := HC1.out.cell 6 rfl
    go_wp2_with fail
    refine (HNB.out W1 HK1.out (by first | rfl | trivial)).mono ?_
    rintro e V1 ⟨rfl, hk2⟩
    clear y0 y1 y2 y3 y4 y5 y6
    have HKV := Lib.hid (HK1.out.trans hk2)
    have HOV := Lib.hid (hk2.blk HO1.out (fun f => f))
    clear hk2 HK1 HC1 HO1
    have x0 := HOV.out.cell 0 rfl; have x1 := HOV.out.cell 1 rfl; have x2 := HOV.out.cell 2 rfl; have x3 := HOV.out.cell 3 rfl
    go_wp2_with fail
    refine (HND.out V1).mono ?_
    rintro e W2 ⟨rfl, hk2⟩
    have HK2 := Lib.hid (HKV.out.trans hk2)
    clear hk2 x0 x1 x2 x3 HKV HOV
    go_wp2_with (first
      | (go_at_call 19; refine (H1.out _ _ _).mono ?_; rintro e w9 ⟨rfl, rfl⟩)
      | (go_at_call 22; refine (H2.out _ _).mono ?_; rintro e w9 ⟨rfl, rfl⟩)
      | (go_at_call 20; refine (H3.out _ _).mono ?_; rintro e w9 ⟨rfl, rfl⟩)
      | (go_at_call 21; refine (H4.out _).mono ?_; rintro e w9 ⟨rfl, rfl⟩)
      | (go_at_call 27; refine (H5.out _).mono ?_; rintro e w9 ⟨rfl, rfl⟩))
    refine (H6.out W2).mono ?_
    rintro e W3 ⟨rfl, hk3⟩
    have HK3 := Lib.hid (HK2.out.trans hk3)
    clear hk3
    go_wp2_with (go_at_call 17; refine (H7.out _).mono ?_; rintro e w9 ⟨rfl, rfl⟩)
    refine (H8.out W3 HK3.out).mono ?_
    rintro e W4 ⟨rfl, hk4⟩
    have HK4 := Lib.hid (HK3.out.trans hk4)
    clear hk4
    go_wp2_with fail
    go_ret
    exact ⟨rfl, HK4.out⟩
end Go.Proofs.YtdplakfmdkjfdaaDoor
