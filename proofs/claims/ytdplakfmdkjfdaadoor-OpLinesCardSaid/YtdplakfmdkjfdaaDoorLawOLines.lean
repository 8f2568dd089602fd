/- OpLines: any operation's line, parsed again; what it uses. -/
import Derived.Test.YtdplakfmdkjfdaaDoorNumPlain
import Derived.Test.YtdplakfmdkjfdaaDoorLawORegs
namespace Go.Proofs.YtdplakfmdkjfdaaDoor
open Go.RowKit Go.Sort

set_option maxRecDepth 4000 in
set_option maxHeartbeats 8000000 in
theorem opLines_any (z0 : List Value) (w : World) (h0 : FlatOk [.int .i64, .int .i64, .int .i64, .int .i64] z0) (hL : laidMetH Tryd.prog Rows.opLinesRow.laid w) (hS : w.ShapedOpen Tryd.prog) :
    Calls Tryd.prog 13 #[.agg z0.toArray] w fun e w' => e = .returned (.bool true) ∧ Keep none_ w w' := by
  have HT := Lib.hid (opT_of hL hS)
  clear hL hS
  obtain ⟨o, rfl, hwf⟩ := op_of h0
  clear h0
  obtain ⟨W0, hW0⟩ : ∃ W', W' = w.alloc (.cells o.cells.toArray 35) := ⟨_, rfl⟩
  have HK0 : Hid (Keep none_ w W0) := by rw [hW0]; exact (Keep.refl _ _).alloc _
  have HO0 : Hid (Blk W0 w.heap.size o.cells 35) := by rw [hW0]; exact Blk.new w _ _
  have HBA := Lib.hid (fun W (hk : Keep none_ w W) => bare_any o W (HT.out.keep hk).tabs)
  have HRB := Lib.hid (fun W => rBare_any o W)
  have HLN := Lib.hid (fun W (hk : Keep none_ w W) => line_any o W hwf (HT.out.keep hk).tabs (HT.out.keep hk).tab)
  have HRL := Lib.hid (fun W => rLine_any o W hwf)
  have HNM : Hid (∀ W, Keep none_ w W → Calls Tryd.prog 42 #[.int .i64 o.k] W fun e w' => e = .returned (.string (bs (wordL o.k))) ∧ Keep none_ W w') := fun W hk => (name_any o.k W (HT.out.keep hk).tabs).mono (fun _ _ h => ⟨h.1, by rw [h.2]; exact Keep.refl _ _⟩)
  have HWD : Hid (∀ W, Calls Tryd.prog 43 #[.int .i64 o.k] W fun e w' => e = .returned (.string (bs (wordL o.k))) ∧ Keep none_ W w') := fun W => (rWord_any o.k W).mono (fun _ _ h => ⟨h.1, by rw [h.2]; exact Keep.refl _ _⟩)
  have HUN : Hid (∀ W, Keep none_ w W → Calls Tryd.prog 39 #[.int .i64 o.k] W fun e w' => e = .returned (.int .i64 ((useL o.k).length : Int)) ∧ Keep none_ W w') := fun W hk => (usesN_any o.k W (HT.out.keep hk).tabs).mono (fun _ _ h => ⟨h.1, by rw [h.2]; exact Keep.refl _ _⟩)
  have HUR : Hid (∀ W, Calls Tryd.prog 44 #[.int .i64 o.k] W fun e w' => e = .returned (.int .i64 ((useL o.k).length : Int)) ∧ Keep none_ W w') := fun W => (rUses_any o.k W).mono (fun _ _ h => ⟨h.1, by rw [h.2]; exact Keep.refl _ _⟩)
  have HWD2 : Hid (∀ W, Calls Tryd.prog 43 #[.int .i64 o.k] W fun e w' => e = .returned (.string (bs (wordL o.k))) ∧ W = w') := fun W => rWord_any o.k W
  have HAW := Lib.hid (fun W (hk : Keep none_ w W) => awake17_any W (HT.out.keep hk))
  have HPA : Hid (isKind o.k = true → ∀ W, Keep none_ w W → Calls Tryd.prog 33 #[.string (bs (lineL o))] W fun e w' => e = .returned (.tuple #[.agg (bareP o).cells.toArray, .int .i64 0]) ∧ Keep none_ W w') := fun hk W hkw => by
    have hl : (bs (lineL o)).size ≤ 1000 := by
      have h1 := lineN_len hwf (useL o.k).length
      have h2 := useL_len o.k
      show (lineL o).toArray.size ≤ 1000
      unfold lineL
      simp
      omega
    have h := parse_any (bs (lineL o)) W hl (HT.out.keep hkw)
    rw [parse_line hk hwf] at h
    exact h
  have hwn : isKind o.k = true → ((bs (wordL o.k)).toList).isEmpty = false := fun h => wordL_some h
  have hw0 : isKind o.k = false → bs (wordL o.k) = ⟨#[]⟩ := fun h => by rw [wordL_none h]; rfl
  clear hwf
  obtain ⟨ls, hls⟩ : ∃ ls, ls = (if isKind o.k then lineL o else []) := ⟨_, rfl⟩
  obtain ⟨er, her⟩ : ∃ er : Int, er = (if isKind o.k then 0 else 1) := ⟨_, rfl⟩
  rw [← hls, ← her] at HLN
  have hs0 : isKind o.k = false → ls = [] ∧ er = 1 := fun h => by rw [hls, her, h]; exact ⟨rfl, rfl⟩
  have hs1 : isKind o.k = true → ls = lineL o ∧ er = 0 := fun h => by rw [hls, her, h]; exact ⟨rfl, rfl⟩
  clear hls her
  generalize bareP o = q at *
  generalize (useL o.k).length = u at *
  generalize hln : lineL o = ln at *
  clear hln
  generalize bs (wordL o.k) = wd at *
  obtain ⟨ok, oa, ob, oc⟩ := o
  obtain ⟨qk, qa, qb, qc⟩ := q
  simp only [OpR.cells] at HO0 hW0 HBA HRB HLN HRL HNM HWD HWD2 HUN HUR HPA hwn hw0 hs0 hs1 ⊢
  have y0 := HO0.out.cell 0 rfl; have y1 := HO0.out.cell 1 rfl; have y2 := HO0.out.cell 2 rfl; have y3 := HO0.out.cell 3 rfl
  go_enter Tryd.func13, Tryd.ntmps13
  go_wp2_with fail
  rw [← hW0]
  clear hW0
  refine (HLN.out W0 HK0.out).mono ?_
  rintro e w1 ⟨rfl, hk1⟩
  have HO1 := Lib.hid (hk1.blk HO0.out (fun f => f))
  have HK1 := Lib.hid (HK0.out.trans hk1)
  have x0 := HO1.out.cell 0 rfl; have x1 := HO1.out.cell 1 rfl; have x2 := HO1.out.cell 2 rfl; have x3 := HO1.out.cell 3 rfl
  clear y0 y1 y2 y3 HK0 HO0 hk1 HLN
  go_wp2_with fail
  refine (HRB.out w1).mono ?_
  rintro e w2 ⟨rfl, hk2⟩
  obtain ⟨W3, hW3⟩ : ∃ W', W' = w2.alloc (.cells #[.int .i64 qk, .int .i64 qa, .int .i64 qb, .int .i64 qc] 35) := ⟨_, rfl⟩
  have hk3 : Keep none_ w2 W3 := by rw [hW3]; exact (Keep.refl _ _).alloc _
  have HB3 : Hid (Blk W3 w2.heap.size [.int .i64 qk, .int .i64 qa, .int .i64 qb, .int .i64 qc] 35) := by rw [hW3]; exact Blk.new w2 _ _
  have HO3 := Lib.hid ((hk2.trans hk3).blk HO1.out (fun f => f))
  have HK3 := Lib.hid (HK1.out.trans (hk2.trans hk3))
  clear hk2 hk3 x0 x1 x2 x3 HO1 HK1 HRB
  go_wp2_with fail
  rw [← hW3]
  clear hW3
  generalize w2.heap.size = B at *
  generalize w.heap.size = C at *
  have b0 := cell_regrown (HO3.out.cell 0 rfl); have b1 := cell_regrown (HO3.out.cell 1 rfl); have b2 := cell_regrown (HO3.out.cell 2 rfl); have b3 := cell_regrown (HO3.out.cell 3 rfl)
  have d0 := cell_regrown (HB3.out.cell 0 rfl); have d1 := cell_regrown (HB3.out.cell 1 rfl); have d2 := cell_regrown (HB3.out.cell 2 rfl); have d3 := cell_regrown (HB3.out.cell 3 rfl)
  refine wp_region_quiet_below (by kernel_rfl) (by kernel_rfl) ?_
  quiet_step (fail)
  quiet_step (fail)
  refine wpQuiet_step (fun K hK => ?_)
  go_simp
  apply Exists.intro
  refine ⟨fun _ => ?_, hK _ ?_⟩
  · exact calls_regrown (HNM.out _ (HK3.out.trans (keep_regrown _ _ _)))
  clear hK K
  quiet_step (fail)
  quiet_step (fail)
  refine wpQuiet_step (fun K hK => ?_)
  go_simp
  apply Exists.intro
  refine ⟨fun _ => ?_, hK _ ?_⟩
  · exact calls_regrown (HWD.out _)
  clear hK K
  quiet_step (fail)
  quiet_step (fail)
  quiet_step (fail)
  quiet_step (fail)
  refine wpQuiet_step (fun K hK => ?_)
  go_simp
  apply Exists.intro
  refine ⟨fun _ => ?_, hK _ ?_⟩
  · exact calls_regrown (HUN.out _ (HK3.out.trans (keep_regrown _ _ _)))
  clear hK K
  quiet_step (fail)
  quiet_step (fail)
  refine wpQuiet_step (fun K hK => ?_)
  go_simp
  apply Exists.intro
  refine ⟨fun _ => ?_, hK _ ?_⟩
  · exact calls_regrown (HUR.out _)
  clear hK K
  quiet_step (fail)
  quiet_step (fail)
  quiet_step (fail)
  quiet_step (fail)
  refine wpQuiet_step (fun K hK => ?_)
  go_simp
  apply Exists.intro
  refine ⟨fun _ => ?_, hK _ ?_⟩
  · exact calls_regrown (HBA.out _ (HK3.out.trans (keep_regrown _ _ _)))
  clear hK K
  repeat (quiet_step (fail))
  refine wpQuiet_nil ?_
  intro _ hw9
  obtain ⟨⟨dq, osq⟩, hw8⟩ := hw9
  subst hw8
  have hk4 := keep_regrown W3 dq osq
  generalize grow (redrawn W3 dq) osq = w4 at hk4 ⊢
  have HK4 := Lib.hid (HK3.out.trans hk4)
  have HO4 := Lib.hid (hk4.blk HO3.out (fun f => f))
  have HB4 := Lib.hid (hk4.blk HB3.out (fun f => f))
  clear b0 b1 b2 b3 d0 d1 d2 d3 hk4 HK3 HO3 HB3
  have x0 := HO4.out.cell 0 rfl; have x1 := HO4.out.cell 1 rfl; have x2 := HO4.out.cell 2 rfl; have x3 := HO4.out.cell 3 rfl
  cases hik : isKind ok with
  | false =>
    have hw := hw0 hik
    subst hw
    obtain ⟨rfl, rfl⟩ := hs0 hik
    have HA4 := Lib.hid (HAW.out w4 HK4.out)
    clear hwn hw0 hs0 hs1 HPA hik
    go_wp2_with (first | (go_at_call 43; refine (HWD2.out _).mono ?_; rintro e w1 ⟨rfl, rfl⟩) | (go_at_call 32; refine HA4.out.mono ?_; rintro e w1 ⟨rfl, hk5⟩))
    go_ret
    exact ⟨rfl, HK4.out.trans hk5⟩
  | true =>
    have hw := hwn hik
    have HPP := Lib.hid (HPA.out hik)
    obtain ⟨rfl, rfl⟩ := hs1 hik
    clear hwn hw0 hs0 hs1 HPA hik
    go_wp2_with (go_at_call 43; refine (HWD2.out _).mono ?_; rintro e w1 ⟨rfl, rfl⟩)
    refine (HPP.out w4 HK4.out).mono ?_
    rintro e w5 ⟨rfl, hk5⟩
    obtain ⟨W6, hW6⟩ : ∃ W', W' = w5.alloc (.cells #[.int .i64 qk, .int .i64 qa, .int .i64 qb, .int .i64 qc] 35) := ⟨_, rfl⟩
    have hk6 : Keep none_ w5 W6 := by rw [hW6]; exact (Keep.refl _ _).alloc _
    have HX6 : Hid (Blk W6 w5.heap.size [.int .i64 qk, .int .i64 qa, .int .i64 qb, .int .i64 qc] 35) := by rw [hW6]; exact Blk.new w5 _ _
    have HO6 := Lib.hid ((hk5.trans hk6).blk HO4.out (fun f => f))
    have HB6 := Lib.hid ((hk5.trans hk6).blk HB4.out (fun f => f))
    have HK6 := Lib.hid (HK4.out.trans (hk5.trans hk6))
    have v0 : (w5.alloc (.cells #[.int .i64 qk, .int .i64 qa, .int .i64 qb, .int .i64 qc] 35)).cell? ⟨C + 1 - 1, 0, none⟩ = some (.int .i64 ok) := by rw [← hW6]; exact HO6.out.cell 0 rfl
    have v1 : (w5.alloc (.cells #[.int .i64 qk, .int .i64 qa, .int .i64 qb, .int .i64 qc] 35)).cell? ⟨C, 1, none⟩ = some (.int .i64 oa) := by rw [← hW6]; exact HO6.out.cell 1 rfl
    have v2 : (w5.alloc (.cells #[.int .i64 qk, .int .i64 qa, .int .i64 qb, .int .i64 qc] 35)).cell? ⟨C, 2, none⟩ = some (.int .i64 ob) := by rw [← hW6]; exact HO6.out.cell 2 rfl
    have v3 : (w5.alloc (.cells #[.int .i64 qk, .int .i64 qa, .int .i64 qb, .int .i64 qc] 35)).cell? ⟨C, 3, none⟩ = some (.int .i64 oc) := by rw [← hW6]; exact HO6.out.cell 3 rfl
    rw [Nat.add_sub_cancel] at v0
    clear hk5 hk6 x0 x1 x2 x3 HO4 HB4 HK4 HPP
    go_wp2_with fail
    rw [← hW6]
    clear hW6 v0 v1 v2 v3
    generalize w5.heap.size = X at *
    refine (HRL.out W6).mono ?_
    rintro e w7 ⟨rfl, hk7⟩
    have HB7 := Lib.hid (hk7.blk HB6.out (fun f => f))
    have HX7 := Lib.hid (hk7.blk HX6.out (fun f => f))
    have HK7 := Lib.hid (HK6.out.trans hk7)
    have HA7 := Lib.hid (HAW.out w7 HK7.out)
    have d0 := HB7.out.cell 0 rfl; have d1 := HB7.out.cell 1 rfl; have d2 := HB7.out.cell 2 rfl; have d3 := HB7.out.cell 3 rfl
    have x0 := HX7.out.cell 0 rfl; have x1 := HX7.out.cell 1 rfl; have x2 := HX7.out.cell 2 rfl; have x3 := HX7.out.cell 3 rfl
    clear hk7 HB6 HX6 HK6 HO6
    go_wp2_with (go_at_call 32; refine HA7.out.mono ?_; rintro e w1 ⟨rfl, hk8⟩)
    go_ret
    exact ⟨rfl, HK7.out.trans hk8⟩
end Go.Proofs.YtdplakfmdkjfdaaDoor
