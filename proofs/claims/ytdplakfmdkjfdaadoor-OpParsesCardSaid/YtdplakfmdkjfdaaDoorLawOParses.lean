/- OpParses: any text's operation, or that there is none. -/
import Derived.Test.YtdplakfmdkjfdaaDoorOpRParse
import Derived.Test.YtdplakfmdkjfdaaDoorLawORegs
namespace Go.Proofs.YtdplakfmdkjfdaaDoor
open Go.RowKit Go.Sort

set_option maxRecDepth 4000 in
set_option maxHeartbeats 8000000 in
theorem opParses_any (s : ByteArray) (w : World) (hs : s.size ≤ maxLen) (hL : laidMetH Tryd.prog Rows.opParsesRow.laid w) (hS : w.ShapedOpen Tryd.prog) :
    Calls Tryd.prog 9 #[.string s] w fun e w' => e = .returned (.bool true) ∧ Keep none_ w w' := by
  have HT := Lib.hid (opT_of hL hS)
  clear hL hS
  unfold maxLen at hs
  have HAW := Lib.hid (fun W (hk : Keep none_ w W) => awake17_any W (HT.out.keep hk))
  by_cases h200 : s.size ≤ 200
  · have hI : (s.size : Int) ≤ 200 := by omega
    have HPA := Lib.hid (parse_any s w (by omega) HT.out)
    have HRP := Lib.hid (fun W => rParse_any s W (by omega))
    have HRF := Lib.hid (fun o ok (h : RP (sp s.data.toList) o ok) => parse_ref h)
    clear HT hs
    go_enter Tryd.func9, Tryd.ntmps9
    go_wp2_with fail
    refine HPA.out.mono ?_
    rintro e w1 ⟨rfl, hk1⟩
    obtain ⟨⟨⟨qk, qa, qb, qc⟩, er⟩, hq⟩ : ∃ q, q = parseP s := ⟨_, rfl⟩
    rw [← hq] at HRF ⊢
    clear hq HPA
    simp only [OpR.cells]
    obtain ⟨W2, hW2⟩ : ∃ W', W' = w1.alloc (.cells #[.int .i64 qk, .int .i64 qa, .int .i64 qb, .int .i64 qc] 35) := ⟨_, rfl⟩
    have hk2 : Keep none_ w1 W2 := by rw [hW2]; exact (Keep.refl _ _).alloc _
    have HB2 : Hid (Blk W2 w1.heap.size [.int .i64 qk, .int .i64 qa, .int .i64 qb, .int .i64 qc] 35) := by rw [hW2]; exact Blk.new w1 _ _
    have HK2 := Lib.hid (hk1.trans hk2)
    clear hk1 hk2
    go_wp2_with fail
    rw [← hW2]
    clear hW2
    generalize w1.heap.size = B at *
    refine (HRP.out W2).mono ?_
    rintro e w3 ⟨o, ok, hrp, rfl, hk3⟩
    have hq := HRF.out o ok hrp
    obtain ⟨rk, ra, rb, rc⟩ := o
    simp only [Prod.mk.injEq, OpR.mk.injEq] at hq
    obtain ⟨⟨rfl, rfl, rfl, rfl⟩, rfl⟩ := hq
    simp only [OpR.cells]
    obtain ⟨W4, hW4⟩ : ∃ W', W' = w3.alloc (.cells #[.int .i64 qk, .int .i64 qa, .int .i64 qb, .int .i64 qc] 35) := ⟨_, rfl⟩
    have hk4 : Keep none_ w3 W4 := by rw [hW4]; exact (Keep.refl _ _).alloc _
    have HB4 : Hid (Blk W4 w3.heap.size [.int .i64 qk, .int .i64 qa, .int .i64 qb, .int .i64 qc] 35) := by rw [hW4]; exact Blk.new w3 _ _
    have HK4 := Lib.hid (HK2.out.trans (hk3.trans hk4))
    have HB3 := Lib.hid ((hk3.trans hk4).blk HB2.out (fun f => f))
    clear hk3 hk4 HRF hrp HRP HK2 HB2
    have d0 := HB3.out.cell 0 rfl; have d1 := HB3.out.cell 1 rfl; have d2 := HB3.out.cell 2 rfl; have d3 := HB3.out.cell 3 rfl
    have x0 := HB4.out.cell 0 rfl; have x1 := HB4.out.cell 1 rfl; have x2 := HB4.out.cell 2 rfl; have x3 := HB4.out.cell 3 rfl
    have HA := Lib.hid (HAW.out W4 HK4.out)
    have HW4 := Lib.hid hW4
    rw [hW4] at HA d0 d1 d2 d3 x0 x1 x2 x3
    clear hW4 HAW
    cases ok with
    | true =>
      go_wp2_with (go_at_call 32; refine HA.out.mono ?_; rintro e w1 ⟨rfl, hk5⟩)
      rw [← HW4.out] at hk5
      go_ret
      exact ⟨rfl, HK4.out.trans hk5⟩
    | false =>
      go_wp2_with (go_at_call 32; refine HA.out.mono ?_; rintro e w1 ⟨rfl, hk5⟩)
      rw [← HW4.out] at hk5
      go_ret
      exact ⟨rfl, HK4.out.trans hk5⟩
  · have hI : 200 < (s.size : Int) := by omega
    have HA := Lib.hid (HAW.out w (Keep.refl _ _))
    go_enter Tryd.func9, Tryd.ntmps9
    go_wp2_with (go_at_call 32; refine HA.out.mono ?_; rintro e w1 ⟨rfl, hk5⟩)
    go_ret
    exact ⟨rfl, hk5⟩
end Go.Proofs.YtdplakfmdkjfdaaDoor
