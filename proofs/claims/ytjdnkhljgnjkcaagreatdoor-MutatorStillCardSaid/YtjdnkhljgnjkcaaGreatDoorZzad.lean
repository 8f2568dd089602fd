/- Parts of a walk, put together by a small program of mine from texts of their own: LawMNone. -/
import Derived.Test.YtjdnkhljgnjkcaaGreatDoorZzab
import Derived.Test.YtjdnkhljgnjkcaaGreatDoorZzac
import Derived.IntWalk
/- The walk of MutatorNone. -/
namespace Go.Proofs.YtjdnkhljgnjkcaaGreatDoor
open Go.RowKit
attribute [local go_sem] Oper.semAt_some

theorem little_okM (c : Conf) : c.little.ok = true := by
  obtain ⟨b, w, m, r, cc, l, s⟩ := c
  have e : ∀ (p q : Prop) [Decidable p] [Decidable q], p → q → (decide p && decide q) = true := fun p q _ _ hp hq => by rw [decide_eq_true hp, decide_eq_true hq]; rfl
  have e2 : ∀ (x : Bool) (q : Prop) [Decidable q], x = true → q → (x && decide q) = true := fun x q _ hp hq => by rw [hp, decide_eq_true hq]; rfl
  unfold Conf.ok Conf.little
  simp only
  exact e2 _ _ (e2 _ _ (e2 _ _ (e2 _ _ (e2 _ _ (e _ _ (by omega) (by omega)) (by omega)) (by omega)) (by omega)) (by omega)) (by omega)
theorem tabsM_of {w : World} (h : laidMet Tryz.prog [("dustpan/config.limits", Rows.laid_dustpan_config_limits), ("dustpan/class.sizes", Rows.laid_dustpan_class_sizes), ("dustpan/op.kinds", Rows.laid_dustpan_op_kinds)] w) : TabsM w := by
  have hl := lim_of h
  have hs := sizes_of (laidMet.tail h)
  have hk := kind_of (laidMet.tail (laidMet.tail h))
  refine ⟨⟨hl, hk⟩, hs, ?_, ?_, ?_⟩
  · exact World.block_lt_of_cell? _ _ (hl 0 _ rfl)
  · exact World.block_lt_of_cell? _ _ (hk 0 _ rfl)
  · exact World.block_lt_of_cell? _ _ (hs 0 _ rfl)
theorem zero_ops (n : Nat) (w : World) (hn : n ≤ 2000) : (Instr.makeSlice 33 (.int .i64 (n : Int)) (.int .i64 (n : Int))).run Tryz.prog w = .ok (.slice (some ⟨w.heap.size, 0, none⟩) n n) (w.alloc (.cells (madeCells #[.int .i64 0, .int .i64 0, .int .i64 0, .int .i64 0] (n * 4)) 61)) ∧
    RecAt (w.alloc (.cells (madeCells #[.int .i64 0, .int .i64 0, .int .i64 0, .int .i64 0] (n * 4)) 61)) (some ⟨w.heap.size, 0, none⟩) n 4 (opCells (List.replicate n ⟨0, 0, 0, 0⟩)) := by
  obtain ⟨i0, hi1, hi2, hi3, hi4⟩ := info_parts Tryz.infoOpC
  constructor
  · have h := run_makeSlice (P := Tryz.prog) w 33 61 i0 (.agg #[.int .i64 0, .int .i64 0, .int .i64 0, .int .i64 0]) (by kernel_rfl) hi1 hi2 .i64 .i64 (n : Int) (n : Int) (by omega) (Int.le_refl _) (by rw [hi3]; omega) (by rw [hi4]; omega) (by omega)
    rw [hi3, Int.toNat_natCast] at h
    exact h
  · refine ⟨by simp [opCells], fun h0 => ⟨_, 0, rfl, fun i r hi j v hj => ?_⟩⟩
    have hin : i < n := by have := (List.getElem?_eq_some_iff.1 hi).1; simpa [opCells] using this
    have hr : r = [.int .i64 0, .int .i64 0, .int .i64 0, .int .i64 0] := by
      simp [opCells, List.getElem?_replicate, hin, OpR.cells] at hi; exact hi.symm
    subst hr
    have hj4 := (List.getElem?_eq_some_iff.1 hj).1
    simp at hj4
    have hv : v = .int .i64 0 := by
      rcases (by omega : j = 0 ∨ j = 1 ∨ j = 2 ∨ j = 3) with rfl | rfl | rfl | rfl <;> (simp at hj; exact hj.symm)
    subst hv
    have hz : ∀ q, q < 4 → (#[Value.int .i64 0, .int .i64 0, .int .i64 0, .int .i64 0] : Array Value)[q]! = .int .i64 0 := fun q hq => by
      rcases (by omega : q = 0 ∨ q = 1 ∨ q = 2 ∨ q = 3) with rfl | rfl | rfl | rfl <;> rfl
    have hb := Blk.new w (madeCells #[.int .i64 0, .int .i64 0, .int .i64 0, .int .i64 0] (n * 4)).toList 61
    have e : (madeCells #[Value.int .i64 0, .int .i64 0, .int .i64 0, .int .i64 0] (n * 4)).toList.toArray = madeCells #[.int .i64 0, .int .i64 0, .int .i64 0, .int .i64 0] (n * 4) := by simp
    rw [e] at hb
    refine hb.cell _ ?_
    have hlt : i * 4 + j < n * 4 := by omega
    rw [Nat.zero_add]
    simp only [madeCells]
    rw [Array.getElem?_toList, Array.getElem?_map, Array.getElem?_range, if_pos hlt]
    simp only [Option.map_some]
    exact congrArg some (hz _ (Nat.mod_lt _ (by decide)))
set_option maxRecDepth 100000 in
set_option maxHeartbeats 16000000 in
theorem mutatorNone_any (z0 : List Value) (id more : Int) (w : World) (h0 : FlatOk [.int .i64, .int .i64, .int .i64, .int .i64, .int .i64, .int .i64, .int .i64] z0) (_hid : (Lit.int .i64 id).wf = true) (hmo : (Lit.int .u8 more).wf = true) (hL : laidMetH Tryz.prog Rows.mutatorNoneRow.laid w) :
    Calls Tryz.prog 3 #[.agg z0.toArray, .int .i64 id, .int .u8 more] w fun e w' => e = .returned (.bool true) ∧ Keep none_ w w' := by
  have hL' : laidMetH Tryz.prog [("dustpan/config.limits", Rows.laid_dustpan_config_limits), ("dustpan/class.sizes", Rows.laid_dustpan_class_sizes), ("dustpan/op.kinds", Rows.laid_dustpan_op_kinds)] w := hL
  rw [MakeChecks.laidMetH_plain _ _ _ (by kernel_rfl)] at hL'
  have HT := Lib.hid (tabsM_of hL')
  clear hL hL'
  obtain ⟨c, rfl, -⟩ := conf_of h0
  have HRR := Lib.hid (fun W => rRight_any c W)
  have HLI := Lib.hid (fun W => little_any c W)
  obtain ⟨q, hq⟩ : ∃ q, q = c.little := ⟨_, rfl⟩
  rw [← hq] at HLI
  have hqok : q.ok = true := by rw [hq]; exact little_okM c
  have hqb := ok_bounds hqok
  obtain ⟨b, hb⟩ : ∃ b : Nat, q.b = b := ⟨q.b.toNat, by omega⟩
  obtain ⟨ww, hw⟩ : ∃ b : Nat, q.w = b := ⟨q.w.toNat, by omega⟩
  obtain ⟨nc, hc⟩ : ∃ b : Nat, q.c = b := ⟨q.c.toNat, by omega⟩
  obtain ⟨n, hn⟩ : ∃ b : Nat, q.m = b := ⟨q.m.toNat, by omega⟩
  have hn18 : 1 ≤ n ∧ n ≤ 8 := by omega
  have HSQ : Hid (∀ W, Keep none_ w W → Calls Tryz.prog 7 #[.agg q.cells.toArray] W fun e w' => ∃ G : Geo, e = .returned (.tuple #[.pointer (some ⟨G.S, 0, none⟩), .int .i64 0]) ∧ Hid (∃ o : Ow, ShAt o w' G (Sh.new q b ww nc n)) ∧ Hid (Keep none_ W w')) := fun W hW => by
    refine (share_ok q b ww nc n hqok hb hw hc hn W (HT.out.keep hW).t (HT.out.keep hW).s (HT.out.keep hW).g).mono ?_
    rintro e w' ⟨o, G, rfl, h1, _, _, h4⟩
    exact ⟨G, rfl, ⟨o, h1⟩, h4⟩
  have hbl : (Sh.new q b ww nc n).boxes.length = n := by simp [Sh.new]
  -- the mutator of any number
  obtain ⟨f1, hf1⟩ : ∃ f1 : Int, f1 = if 0 ≤ id ∧ id < (n : Int) then 0 else 1 := ⟨_, rfl⟩
  have HN1 : Hid (∀ W G, (∃ o : Ow, ShAt o W G (Sh.new q b ww nc n)) → Calls Tryz.prog 10 #[.pointer (some ⟨G.S, 0, none⟩), .int .i64 id, .slice none 0 0] W fun e w' => (∃ p, e = .returned (.tuple #[.pointer p, .int .i64 f1])) ∧ Hid (Keep none_ W w')) := fun W G ⟨o, hs⟩ => by
    by_cases hv : 0 ≤ id ∧ id < (n : Int)
    · obtain ⟨i, rfl⟩ : ∃ i : Nat, id = (i : Int) := ⟨id.toNat, by omega⟩
      rw [if_pos hv] at hf1
      refine (mutNew_ok hs (by rw [hbl]; omega) i (by rw [hbl]; omega) [] 0 rfl (by decide) none 0 (RecAt.nil _ _) (fun _ => rfl)).mono ?_
      rintro e w' ⟨o', g, rfl, _, _, _, k⟩
      exact ⟨⟨_, by rw [hf1]⟩, k⟩
    · rw [if_neg hv] at hf1
      refine (mutNew_bad hs id (by rw [hbl]; omega) _).mono ?_
      rintro e w' ⟨rfl, rfl⟩
      exact ⟨⟨_, by rw [hf1]⟩, Keep.refl _ _⟩
  -- the mutator of a long program
  obtain ⟨mo, hmo1, hmo2⟩ : ∃ mo : Nat, more = (mo : Int) ∧ mo ≤ 255 := by
    simp [Lit.wf] at hmo
    have h1 : IntKind.u8.min = 0 := by decide
    have h2 : IntKind.u8.max = 255 := by decide
    exact ⟨more.toNat, by omega, by omega⟩
  subst hmo1
  obtain ⟨r12, hr12⟩ : ∃ r12, r12 = mo % 12 := ⟨_, rfl⟩
  have hr11 : r12 < 12 := by omega
  have hrem : (mo : Int).tmod 12 = (r12 : Int) := by rw [hr12]; rfl
  have hrem2 : (mo : Int) % 12 = (r12 : Int) := by rw [hr12]; rfl
  obtain ⟨N, hN⟩ : ∃ N, N = 995 + r12 := ⟨_, rfl⟩
  have hNI : (995 : Int) + (r12 : Int) = (N : Int) := by omega
  have hN2 : N ≤ 1006 := by omega
  have hmk : ∀ w : World, (Instr.makeSlice 33 (.int .i64 (N : Int)) (.int .i64 (N : Int))).run Tryz.prog w = .ok (.slice (some ⟨w.heap.size, 0, none⟩) N N) (w.alloc (.cells (madeCells #[.int .i64 0, .int .i64 0, .int .i64 0, .int .i64 0] (N * 4)) 61)) := fun w => (zero_ops N w (by omega)).1
  obtain ⟨f3, hf3⟩ : ∃ f3 : Int, f3 = if 1000 < N then 3 else 0 := ⟨_, rfl⟩
  have HN3 : Hid (∀ W G, (∃ o : Ow, ShAt o W G (Sh.new q b ww nc n)) → Calls Tryz.prog 10 #[.pointer (some ⟨G.S, 0, none⟩), .int .i64 0, .slice (some ⟨W.heap.size, 0, none⟩) N N] (W.alloc (.cells (madeCells #[.int .i64 0, .int .i64 0, .int .i64 0, .int .i64 0] (N * 4)) 61)) fun e w' => (∃ p, e = .returned (.tuple #[.pointer p, .int .i64 f3])) ∧ Hid (Keep none_ W w')) := fun W G ⟨o, hs⟩ => by
    have ka : Keep none_ W (W.alloc (.cells (madeCells #[.int .i64 0, .int .i64 0, .int .i64 0, .int .i64 0] (N * 4)) 61)) := (Keep.refl _ _).alloc _
    have hs' := hs.still ka (by rw [hbl]; omega)
    by_cases hv : 1000 < N
    · rw [if_pos hv] at hf3
      refine (mutNew_long hs' 0 (by rw [hbl]; omega) _ N N hv).mono ?_
      rintro e w' ⟨rfl, rfl⟩
      exact ⟨⟨_, by rw [hf3]⟩, ka⟩
    · rw [if_neg hv] at hf3
      refine (mutNew_ok hs' (by rw [hbl]; omega) 0 (by rw [hbl]; omega) (List.replicate N ⟨0, 0, 0, 0⟩) N (by simp) (by omega) _ N (zero_ops N W (by omega)).2 (fun e => by cases e)).mono ?_
      rintro e w' ⟨o', g, rfl, _, _, _, k⟩
      exact ⟨⟨_, by rw [hf3]⟩, ka.trans k⟩
  have HST : Hid (∀ W W' G, (∃ o : Ow, ShAt o W G (Sh.new q b ww nc n)) → Keep none_ W W' → ∃ o : Ow, ShAt o W' G (Sh.new q b ww nc n)) := fun W W' G ⟨o, hs⟩ k => ⟨o, hs.still k (by rw [hbl]; omega)⟩
  have HAW : Hid (∀ W, Keep none_ w W → Calls Tryz.prog 21 #[] W fun e w' => e = .returned (.bool true) ∧ Hid (Keep none_ W w')) := fun W hW => (awake20_any W (HT.out.keep hW))
  obtain ⟨W0, hW0⟩ : ∃ W', W' = w.alloc (.cells c.cells.toArray 23) := ⟨_, rfl⟩
  have hk0 : Keep none_ w W0 := by rw [hW0]; exact (Keep.refl _ _).alloc _
  have hb0 : Blk W0 w.heap.size c.cells 23 := by rw [hW0]; exact Blk.new w _ _
  have HCB : Hid (∀ W, Keep none_ W0 W → Blk W w.heap.size c.cells 23) := fun W hW => hW.blk hb0 (fun f => f)
  have HK0 := Lib.hid hk0
  -- Share of the config as it came
  have HS1 : Hid (∀ W, Keep none_ w W → Calls Tryz.prog 7 #[.agg c.cells.toArray] W fun e w' => ((c.ok = false ∧ e = .returned (.tuple #[.pointer none, .int .i64 1])) ∨ (c.ok = true ∧ ∃ p, e = .returned (.tuple #[.pointer p, .int .i64 0]))) ∧ Hid (Keep none_ W w')) := fun W hW => by
    cases hok : c.ok with
    | false =>
      refine (share_no c hok W (HT.out.keep hW).t).mono ?_
      rintro e w' ⟨rfl, k⟩
      exact ⟨.inl ⟨rfl, rfl⟩, k⟩
    | true =>
      have hcb := ok_bounds hok
      refine (share_ok c c.b.toNat c.w.toNat c.c.toNat c.m.toNat hok (by omega) (by omega) (by omega) (by omega) W (HT.out.keep hW).t (HT.out.keep hW).s (HT.out.keep hW).g).mono ?_
      rintro e w' ⟨o, G, rfl, _, _, _, k⟩
      exact ⟨.inr ⟨rfl, _, rfl⟩, k⟩
  have hqm : q.cells.toArray = #[.int .i64 q.b, .int .i64 q.w, .int .i64 (n : Int), .int .i64 q.r, .int .i64 q.c, .int .i64 q.l, .int .i64 q.s] := by simp [Conf.cells, hn]
  rw [hqm] at HSQ HLI
  generalize q.cells = qq at *
  generalize q.b = q0 at *
  generalize q.w = q1 at *
  generalize q.r = q3 at *
  generalize q.c = q4 at *
  generalize q.l = q5 at *
  generalize q.s = q6 at *
  generalize Sh.new q b ww nc n = sh0 at *
  obtain ⟨c0, c1, c2, c3, c4, c5, c6⟩ := c
  simp only [Conf.cells] at HRR HLI HCB HS1 hW0 ⊢
  have HW0 := Lib.hid hW0
  have HF1 := Lib.hid hf1
  have HF3 := Lib.hid hf3
  have HNN := Lib.hid hN
  have HBLO := Lib.hid hbl
  clear h0 hq hqok hqb hb hw hc hn hn18 hbl hf1 hmo2 hr12 hN hf3 hW0 hk0 hb0 hqm
  have hfld := field_muts q0 q1 (n : Int) q3 q4 q5 q6
  go_enter Tryz.func3, Tryz.ntmps3
  go_wp2_with fail
  rw [← HW0.out]
  refine (HS1.out W0 HK0.out).mono ?_
  rintro e w1 ⟨hsh, hk1⟩
  have HCB1 : Hid (∀ W, Keep none_ w1 W → Blk W w.heap.size [.int .i64 c0, .int .i64 c1, .int .i64 c2, .int .i64 c3, .int .i64 c4, .int .i64 c5, .int .i64 c6] 23) := fun W hW => HCB.out W (hk1.out.trans hW)
  have HKF1 : Hid (Keep none_ w w1) := HK0.out.trans hk1.out
  have HRR1 := Lib.hid (HRR.out w1)
  rcases hsh with ⟨hok, rfl⟩ | ⟨hok, p1, rfl⟩
  all_goals
    rw [hok] at HRR1
    have hcb1 := HCB1.out w1 (Keep.refl _ _)
    have y0 := hcb1.cell 0 rfl; have y1 := hcb1.cell 1 rfl; have y2 := hcb1.cell 2 rfl; have y3 := hcb1.cell 3 rfl; have y4 := hcb1.cell 4 rfl; have y5 := hcb1.cell 5 rfl; have y6 := hcb1.cell 6 rfl
    clear hcb1 hok
    go_wp2_with fail
    refine HRR1.out.mono ?_
    rintro e w2 ⟨rfl, k2⟩
    have hcb2 := HCB1.out w2 k2
    clear y0 y1 y2 y3 y4 y5 y6
    have y0 := hcb2.cell 0 rfl; have y1 := hcb2.cell 1 rfl; have y2 := hcb2.cell 2 rfl; have y3 := hcb2.cell 3 rfl; have y4 := hcb2.cell 4 rfl; have y5 := hcb2.cell 5 rfl; have y6 := hcb2.cell 6 rfl
    have HK2 := Lib.hid k2
    clear hcb2 k2
    go_wp2_with fail
    refine (HLI.out w2).mono ?_
    rintro e w3 ⟨rfl, k3⟩
    have HK3 := Lib.hid (HK2.out.trans k3)
    clear k3 y0 y1 y2 y3 y4 y5 y6
    go_wp2_with fail
    refine (HSQ.out w3 (HKF1.out.trans HK3.out)).mono ?_
    rintro e w4 ⟨G, rfl, hS, k4⟩
    have HK4 := Lib.hid (HK3.out.trans k4.out)
    have hcb4 := HCB1.out w4 HK4.out
    have y0 := hcb4.cell 0 rfl; have y1 := hcb4.cell 1 rfl; have y2 := hcb4.cell 2 rfl; have y3 := hcb4.cell 3 rfl; have y4 := hcb4.cell 4 rfl; have y5 := hcb4.cell 5 rfl; have y6 := hcb4.cell 6 rfl
    clear hcb4 k4
    go_wp2_with fail
    refine (HLI.out w4).mono ?_
    rintro e w5 ⟨rfl, k5⟩
    have HK5 := Lib.hid (HK4.out.trans k5)
    have hS5 := Lib.hid (HST.out w4 w5 G hS.out k5)
    clear k5 hS y0 y1 y2 y3 y4 y5 y6
    go_wp2_with fail
    refine (HN1.out w5 G hS5.out).mono ?_
    rintro e w6 ⟨⟨p6, rfl⟩, k6⟩
    have HK6 := Lib.hid (HKF1.out.trans (HK5.out.trans k6.out))
    have hS6 := Lib.hid (HST.out w5 w6 G hS5.out k6.out)
    clear k6 hS5
    have HFIN : Hid (∀ W, Keep none_ w6 W → Keep none_ w W) := fun W hW => HK6.out.trans hW
    have hw1 : IntKind.i64.wrap ((r12 : Int)) = (r12 : Int) := IntWalk.i64_in _ (by omega)
    have hw2 : IntKind.i64.wrap ((995 : Int) + (r12 : Int)) = (N : Int) := by rw [hNI]; exact IntWalk.i64_in _ (by omega)
    have hw3 : IntKind.u8.wrap ((r12 : Int)) = (r12 : Int) := by
      have : IntKind.u8.wrap (r12 : Int) = (r12 : Int) := by
        rcases (by omega : r12 = 0 ∨ r12 = 1 ∨ r12 = 2 ∨ r12 = 3 ∨ r12 = 4 ∨ r12 = 5 ∨ r12 = 6 ∨ r12 = 7 ∨ r12 = 8 ∨ r12 = 9 ∨ r12 = 10 ∨ r12 = 11) with rfl | rfl | rfl | rfl | rfl | rfl | rfl | rfl | rfl | rfl | rfl | rfl <;> decide
      exact this
    have hsp : (f1 = 0 ∧ decide (0 ≤ id) = true ∧ decide (id < (n : Int)) = true) ∨ (f1 = 1 ∧ decide (0 ≤ id) = false) ∨ (f1 = 1 ∧ decide (0 ≤ id) = true ∧ decide (id < (n : Int)) = false) := by
      rw [HF1.out]
      by_cases h0 : 0 ≤ id
      · by_cases h1 : id < (n : Int)
        · rw [if_pos ⟨h0, h1⟩]; exact .inl ⟨rfl, decide_eq_true h0, decide_eq_true h1⟩
        · rw [if_neg (fun h => h1 h.2)]; exact .inr (.inr ⟨rfl, decide_eq_true h0, decide_eq_false h1⟩)
      · rw [if_neg (fun h => h0 h.1)]; exact .inr (.inl ⟨rfl, decide_eq_false h0⟩)
    rcases hsp with ⟨rfl, hd0, hd1⟩ | ⟨rfl, hd0⟩ | ⟨rfl, hd0, hd1⟩
    all_goals
      go_wp2_with fail
      refine (mutNew_nil 0 _ _).mono ?_
      rintro e w7 ⟨rfl, rfl⟩
      go_wp2_with fail
      refine (HN3.out w6 G hS6.out).mono ?_
      rintro e w7 ⟨⟨p7, rfl⟩, k7⟩
      have hkF : Keep none_ w w7 := HFIN.out w7 k7.out
      have hsp3 : (f3 = 3 ∧ (1000 : Int) < (N : Int) ∧ decide ((1000 : Int) < (N : Int)) = true ∧ decide ((N : Int) ≤ 1000) = false) ∨ (f3 = 0 ∧ ¬ (1000 : Int) < (N : Int) ∧ decide ((1000 : Int) < (N : Int)) = false ∧ decide ((N : Int) ≤ 1000) = true) := by
        rw [HF3.out]
        by_cases h : 1000 < N
        · rw [if_pos h]; exact .inl ⟨rfl, by omega, decide_eq_true (by omega), decide_eq_false (by omega)⟩
        · rw [if_neg h]; exact .inr ⟨rfl, by omega, decide_eq_false (by omega), decide_eq_true (by omega)⟩
      clear k7 hd0
      rcases hsp3 with ⟨rfl, hn0, hn1, hn2⟩ | ⟨rfl, hn0, hn1, hn2⟩
      all_goals
        go_wp2_with fail
        refine (mPick_nil _).mono ?_
        rintro e w8 ⟨rfl, k8⟩
        have hkF := hkF.trans k8
        clear k8
        go_wp2_with (first
          | (go_at_call 12; refine (mMost_nil _).mono ?_; rintro e w9 ⟨rfl, rfl⟩; have hkF := hkF.alloc (.cells zero6 35))
          | (go_at_call 13; refine (mRegs_nil _).mono ?_; rintro e w9 ⟨rfl, rfl⟩)
          | (go_at_call 14; refine (mHeld_nil _).mono ?_; rintro e w9 ⟨rfl, rfl⟩)
          | (go_at_call 15; refine (mMode_nil _).mono ?_; rintro e w9 ⟨rfl, rfl⟩)
          | (go_at_call 16; refine (mColor_nil _).mono ?_; rintro e w9 ⟨rfl, rfl⟩)
          | (go_at_call 17; refine (mLogged_nil _).mono ?_; rintro e w9 ⟨rfl, rfl⟩)
          | (go_at_call 18; refine (mResults_nil _).mono ?_; rintro e w9 ⟨rfl, rfl⟩)
          | (go_at_call 19; refine (mBusy_nil _).mono ?_; rintro e w9 ⟨rfl, rfl⟩)
          | (go_at_call 20; refine (mDone_nil _).mono ?_; rintro e w9 ⟨rfl, k9⟩; have hkF := hkF.trans k9; clear k9)
          | (go_at_call 21; refine (HAW.out _ hkF).mono ?_; rintro e w9 ⟨rfl, k9⟩; have hkF := hkF.trans k9.out; clear k9))
        go_ret
        exact ⟨rfl, hkF⟩
end Go.Proofs.YtjdnkhljgnjkcaaGreatDoor
