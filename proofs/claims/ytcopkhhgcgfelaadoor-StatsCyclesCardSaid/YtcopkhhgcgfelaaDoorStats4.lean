/- A cycle's line: stats.Line's and the document's. -/
import Derived.Test.YtcopkhhgcgfelaaDoorStats3
import Derived.Deep.RegionHeld3
namespace Go.Proofs.YtcopkhhgcgfelaaDoor
open Go.RowKit

/-- A cycle's line, of its numbers' texts. -/
def lineL (a b c d e : List UInt8) : List UInt8 :=
  [99, 121, 99, 108, 101, 32] ++ a ++ [32, 115, 116, 97, 114, 116, 32] ++ b ++ [32, 109, 97, 114, 107, 101, 100, 32] ++ c ++ [32, 114, 101, 115, 116, 101, 100, 32] ++ d ++ [32, 102, 114, 101, 101, 100, 32] ++ e
def lineOf (c : Cy) : List UInt8 := lineL (Lib.itoa c.number) (Lib.itoa c.start) (Lib.itoa c.marked) (Lib.itoa c.rested) (Lib.itoa c.freed)
/-- Two strings joined, under a name. -/
theorem cat2 {P : Program} (x y : List UInt8) (hx : x.length ≤ 1000000) (hy : y.length ≤ 1000000) : ∃ l : List UInt8, (∀ w, (Op.stringOp .add ⟨x.toArray⟩ ⟨y.toArray⟩).run P w = .ok (.string ⟨l.toArray⟩) w) ∧ Hid (l = x ++ y) ∧ l.length ≤ x.length + y.length :=
  ⟨x ++ y, fun w => run_string_add_lists w x y (by omega) (by omega), rfl, by simp⟩
theorem itoa_len {n : Int} (hn : (Lit.int .i64 n).wf = true) : (Lib.itoa n).length ≤ 21 := by
  have hb := bounds_i64 hn
  exact Lib.itoa_length_le n (by omega) (by omega)

set_option maxRecDepth 100000 in
set_option maxHeartbeats 4000000 in
theorem lLine_any (c : Cy) (w : World) (hc : c.wf) : Calls Tryd.prog 14 #[.agg #[.int .i64 c.number, .int .i64 c.start, .int .i64 c.marked, .int .i64 c.rested, .int .i64 c.freed]] w fun e w' => e = .returned (.string ⟨(lineOf c).toArray⟩) ∧ Keep none_ w w' := by
  obtain ⟨c0, c1, c2, c3, c4⟩ := c
  obtain ⟨h0, h1, h2, h3, h4⟩ := hc
  simp only at h0 h1 h2 h3 h4
  have l0 := itoa_len h0; have l1 := itoa_len h1; have l2 := itoa_len h2; have l3 := itoa_len h3; have l4 := itoa_len h4
  obtain ⟨L1, q1, E1, b1⟩ := cat2 (P := Tryd.prog) [99, 121, 99, 108, 101, 32] (Lib.itoa c0) (by decide) (by omega)
  have b1 : L1.length ≤ 6 + (Lib.itoa c0).length := b1
  obtain ⟨L2, q2, E2, b2⟩ := cat2 (P := Tryd.prog) L1 [32, 115, 116, 97, 114, 116, 32] (by omega) (by decide)
  have b2 : L2.length ≤ L1.length + 7 := b2
  obtain ⟨L3, q3, E3, b3⟩ := cat2 (P := Tryd.prog) L2 (Lib.itoa c1) (by omega) (by omega)
  have b3 : L3.length ≤ L2.length + (Lib.itoa c1).length := b3
  obtain ⟨L4, q4, E4, b4⟩ := cat2 (P := Tryd.prog) L3 [32, 109, 97, 114, 107, 101, 100, 32] (by omega) (by decide)
  have b4 : L4.length ≤ L3.length + 8 := b4
  obtain ⟨L5, q5, E5, b5⟩ := cat2 (P := Tryd.prog) L4 (Lib.itoa c2) (by omega) (by omega)
  have b5 : L5.length ≤ L4.length + (Lib.itoa c2).length := b5
  obtain ⟨L6, q6, E6, b6⟩ := cat2 (P := Tryd.prog) L5 [32, 114, 101, 115, 116, 101, 100, 32] (by omega) (by decide)
  have b6 : L6.length ≤ L5.length + 8 := b6
  obtain ⟨L7, q7, E7, b7⟩ := cat2 (P := Tryd.prog) L6 (Lib.itoa c3) (by omega) (by omega)
  have b7 : L7.length ≤ L6.length + (Lib.itoa c3).length := b7
  obtain ⟨L8, q8, E8, b8⟩ := cat2 (P := Tryd.prog) L7 [32, 102, 114, 101, 101, 100, 32] (by omega) (by decide)
  have b8 : L8.length ≤ L7.length + 7 := b8
  obtain ⟨L9, q9, E9, b9⟩ := cat2 (P := Tryd.prog) L8 (Lib.itoa c4) (by omega) (by omega)
  have b9 : L9.length ≤ L8.length + (Lib.itoa c4).length := b9
  go_enter Tryd.func14, Tryd.ntmps14
  go_wp2_with fail
  obtain ⟨W0, hW0⟩ : ∃ W0, W0 = w.alloc (.cells #[.int .i64 c0, .int .i64 c1, .int .i64 c2, .int .i64 c3, .int .i64 c4] 25) := ⟨_, rfl⟩
  have hb : Blk W0 w.heap.size [.int .i64 c0, .int .i64 c1, .int .i64 c2, .int .i64 c3, .int .i64 c4] 25 := by rw [hW0]; exact Blk.new _ _ _
  have g0 := hb.cell 0 rfl; have g1 := hb.cell 1 rfl; have g2 := hb.cell 2 rfl; have g3 := hb.cell 3 rfl; have g4 := hb.cell 4 rfl
  have hkd : Keep none_ w W0.drew := by rw [hW0]; exact ((Keep.refl _ _).alloc _).drew
  rw [← hW0]
  clear hW0 hb
  go_region_held3 (fun w' => w'.cell? ⟨w.heap.size, 0, none⟩ = some (.int .i64 c0) ∧ w'.cell? ⟨w.heap.size, 1, none⟩ = some (.int .i64 c1) ∧ w'.cell? ⟨w.heap.size, 2, none⟩ = some (.int .i64 c2) ∧ w'.cell? ⟨w.heap.size, 3, none⟩ = some (.int .i64 c3) ∧ w'.cell? ⟨w.heap.size, 4, none⟩ = some (.int .i64 c4))
    ((refine ⟨?_, ?_, ?_, ?_, ?_⟩ <;> first | assumption | exact hk.still (by first | assumption | exact And.left (by assumption) | exact And.left (And.right (by assumption)) | exact And.left (And.right (And.right (by assumption))) | exact And.left (And.right (And.right (And.right (by assumption)))) | exact And.right (And.right (And.right (And.right (by assumption)))))))
    ((go_at_call 19; refine (rInt_any _ _ ?_).mono ?_; assumption; rintro e w' ⟨rfl, hk⟩))
  go_wp2_with fail
  go_ret
  refine ⟨?_, ?_⟩
  · rw [E9.out, E8.out, E7.out, E6.out, E5.out, E4.out, E3.out, E2.out, E1.out]
    simp [lineOf, lineL]
  · repeat (first | exact hkd | refine Keep.trans ?_ (by assumption))

set_option maxRecDepth 100000 in
set_option maxHeartbeats 4000000 in
theorem sLine_any (c : Cy) (w : World) (hc : c.wf) (ht : Tab w) : Calls Tryd.prog 13 #[.agg #[.int .i64 c.number, .int .i64 c.start, .int .i64 c.marked, .int .i64 c.rested, .int .i64 c.freed]] w fun e w' => e = .returned (.string ⟨(lineOf c).toArray⟩) ∧ Keep none_ w w' := by
  obtain ⟨n0, n1, n2, n3, n4⟩ := c
  obtain ⟨h0, h1, h2, h3, h4⟩ := hc
  simp only at h0 h1 h2 h3 h4
  have l0 := itoa_len h0; have l1 := itoa_len h1; have l2 := itoa_len h2; have l3 := itoa_len h3; have l4 := itoa_len h4
  obtain ⟨L0, q0, E0, b0⟩ := cat2 (P := Tryd.prog) [99, 121, 99, 108, 101, 32] (Lib.itoa n0) (by decide) (by omega)
  have b0 : L0.length ≤ 6 + (Lib.itoa n0).length := b0
  obtain ⟨A1, qa1, EA1, ba1⟩ := cat2 (P := Tryd.prog) [32] [115, 116, 97, 114, 116] (by decide) (by decide)
  have ba1 : A1.length ≤ 1 + 5 := ba1
  obtain ⟨B1, qb1, EB1, bb1⟩ := cat2 (P := Tryd.prog) A1 [32] (by omega) (by decide)
  have bb1 : B1.length ≤ A1.length + 1 := bb1
  obtain ⟨C1, qc1, EC1, bc1⟩ := cat2 (P := Tryd.prog) B1 (Lib.itoa n1) (by omega) (by omega)
  obtain ⟨L1, q1, E1, b1⟩ := cat2 (P := Tryd.prog) L0 C1 (by omega) (by omega)
  obtain ⟨A2, qa2, EA2, ba2⟩ := cat2 (P := Tryd.prog) [32] [109, 97, 114, 107, 101, 100] (by decide) (by decide)
  have ba2 : A2.length ≤ 1 + 6 := ba2
  obtain ⟨B2, qb2, EB2, bb2⟩ := cat2 (P := Tryd.prog) A2 [32] (by omega) (by decide)
  have bb2 : B2.length ≤ A2.length + 1 := bb2
  obtain ⟨C2, qc2, EC2, bc2⟩ := cat2 (P := Tryd.prog) B2 (Lib.itoa n2) (by omega) (by omega)
  obtain ⟨L2, q2, E2, b2⟩ := cat2 (P := Tryd.prog) L1 C2 (by omega) (by omega)
  obtain ⟨A3, qa3, EA3, ba3⟩ := cat2 (P := Tryd.prog) [32] [114, 101, 115, 116, 101, 100] (by decide) (by decide)
  have ba3 : A3.length ≤ 1 + 6 := ba3
  obtain ⟨B3, qb3, EB3, bb3⟩ := cat2 (P := Tryd.prog) A3 [32] (by omega) (by decide)
  have bb3 : B3.length ≤ A3.length + 1 := bb3
  obtain ⟨C3, qc3, EC3, bc3⟩ := cat2 (P := Tryd.prog) B3 (Lib.itoa n3) (by omega) (by omega)
  obtain ⟨L3, q3, E3, b3⟩ := cat2 (P := Tryd.prog) L2 C3 (by omega) (by omega)
  obtain ⟨A4, qa4, EA4, ba4⟩ := cat2 (P := Tryd.prog) [32] [102, 114, 101, 101, 100] (by decide) (by decide)
  have ba4 : A4.length ≤ 1 + 5 := ba4
  obtain ⟨B4, qb4, EB4, bb4⟩ := cat2 (P := Tryd.prog) A4 [32] (by omega) (by decide)
  have bb4 : B4.length ≤ A4.length + 1 := bb4
  obtain ⟨C4, qc4, EC4, bc4⟩ := cat2 (P := Tryd.prog) B4 (Lib.itoa n4) (by omega) (by omega)
  obtain ⟨L4, q4, E4, b4⟩ := cat2 (P := Tryd.prog) L3 C4 (by omega) (by omega)
  have HT := Lib.hid ht
  clear ht
  have x0 : ∀ w, (Instr.index 55 (.agg #[.string ⟨#[115, 116, 97, 114, 116]⟩, .string ⟨#[109, 97, 114, 107, 101, 100]⟩, .string ⟨#[114, 101, 115, 116, 101, 100]⟩, .string ⟨#[102, 114, 101, 101, 100]⟩]) (.int .i64 0)).run Tryd.prog w = .ok (.string ⟨#[115, 116, 97, 114, 116]⟩) w := fun _ => by kernel_rfl
  have x1 : ∀ w, (Instr.index 55 (.agg #[.string ⟨#[115, 116, 97, 114, 116]⟩, .string ⟨#[109, 97, 114, 107, 101, 100]⟩, .string ⟨#[114, 101, 115, 116, 101, 100]⟩, .string ⟨#[102, 114, 101, 101, 100]⟩]) (.int .i64 1)).run Tryd.prog w = .ok (.string ⟨#[109, 97, 114, 107, 101, 100]⟩) w := fun _ => by kernel_rfl
  have x2 : ∀ w, (Instr.index 55 (.agg #[.string ⟨#[115, 116, 97, 114, 116]⟩, .string ⟨#[109, 97, 114, 107, 101, 100]⟩, .string ⟨#[114, 101, 115, 116, 101, 100]⟩, .string ⟨#[102, 114, 101, 101, 100]⟩]) (.int .i64 2)).run Tryd.prog w = .ok (.string ⟨#[114, 101, 115, 116, 101, 100]⟩) w := fun _ => by kernel_rfl
  have x3 : ∀ w, (Instr.index 55 (.agg #[.string ⟨#[115, 116, 97, 114, 116]⟩, .string ⟨#[109, 97, 114, 107, 101, 100]⟩, .string ⟨#[114, 101, 115, 116, 101, 100]⟩, .string ⟨#[102, 114, 101, 101, 100]⟩]) (.int .i64 3)).run Tryd.prog w = .ok (.string ⟨#[102, 114, 101, 101, 100]⟩) w := fun _ => by kernel_rfl
  have y0 : ∀ w, (Instr.index 56 (.agg #[.int .i64 n1, .int .i64 n2, .int .i64 n3, .int .i64 n4]) (.int .i64 0)).run Tryd.prog w = .ok (.int .i64 n1) w := fun _ => by kernel_rfl
  have y1 : ∀ w, (Instr.index 56 (.agg #[.int .i64 n1, .int .i64 n2, .int .i64 n3, .int .i64 n4]) (.int .i64 1)).run Tryd.prog w = .ok (.int .i64 n2) w := fun _ => by kernel_rfl
  have y2 : ∀ w, (Instr.index 56 (.agg #[.int .i64 n1, .int .i64 n2, .int .i64 n3, .int .i64 n4]) (.int .i64 2)).run Tryd.prog w = .ok (.int .i64 n3) w := fun _ => by kernel_rfl
  have y3 : ∀ w, (Instr.index 56 (.agg #[.int .i64 n1, .int .i64 n2, .int .i64 n3, .int .i64 n4]) (.int .i64 3)).run Tryd.prog w = .ok (.int .i64 n4) w := fun _ => by kernel_rfl
  go_enter Tryd.func13, Tryd.ntmps13
  go_wp2_with fail
  obtain ⟨W0, hW0⟩ : ∃ W0, W0 = w.alloc (.cells #[.int .i64 n0, .int .i64 n1, .int .i64 n2, .int .i64 n3, .int .i64 n4] 25) := ⟨_, rfl⟩
  have hb : Blk W0 w.heap.size [.int .i64 n0, .int .i64 n1, .int .i64 n2, .int .i64 n3, .int .i64 n4] 25 := by rw [hW0]; exact Blk.new _ _ _
  have g1 := hb.cell 1 rfl; have g2 := hb.cell 2 rfl; have g3 := hb.cell 3 rfl; have g4 := hb.cell 4 rfl
  have HK := Lib.hid (show Keep none_ w W0 by rw [hW0]; exact (Keep.refl _ _).alloc _)
  rw [← hW0]
  clear hW0 hb
  refine (itoa_any n0 _ h0 (HT.out.keep HK.out)).mono ?_
  rintro e w1 ⟨rfl, hk1⟩
  have HK1 := Lib.hid (HK.out.trans hk1)
  have g1 := hk1.still g1; have g2 := hk1.still g2; have g3 := hk1.still g3; have g4 := hk1.still g4
  clear hk1
  go_wp2_with fail
  refine wp_loop_rounds 5 ?_
  rw [rounds_succ]
  go_wp2_with fail
  refine (itoa_any n1 _ h1 (HT.out.keep HK1.out)).mono ?_
  rintro e w2 ⟨rfl, hk2⟩
  have HK2 := Lib.hid (HK1.out.trans hk2)
  have g1 := hk2.still g1; have g2 := hk2.still g2; have g3 := hk2.still g3; have g4 := hk2.still g4
  clear hk2
  go_wp2_with fail
  rw [rounds_succ]
  go_wp2_with fail
  refine (itoa_any n2 _ h2 (HT.out.keep HK2.out)).mono ?_
  rintro e w3 ⟨rfl, hk3⟩
  have HK3 := Lib.hid (HK2.out.trans hk3)
  have g1 := hk3.still g1; have g2 := hk3.still g2; have g3 := hk3.still g3; have g4 := hk3.still g4
  clear hk3
  go_wp2_with fail
  rw [rounds_succ]
  go_wp2_with fail
  refine (itoa_any n3 _ h3 (HT.out.keep HK3.out)).mono ?_
  rintro e w4 ⟨rfl, hk4⟩
  have HK4 := Lib.hid (HK3.out.trans hk4)
  have g1 := hk4.still g1; have g2 := hk4.still g2; have g3 := hk4.still g3; have g4 := hk4.still g4
  clear hk4
  go_wp2_with fail
  rw [rounds_succ]
  go_wp2_with fail
  refine (itoa_any n4 _ h4 (HT.out.keep HK4.out)).mono ?_
  rintro e w5 ⟨rfl, hk5⟩
  have HK5 := Lib.hid (HK4.out.trans hk5)
  have g1 := hk5.still g1; have g2 := hk5.still g2; have g3 := hk5.still g3; have g4 := hk5.still g4
  clear hk5
  go_wp2_with fail
  rw [rounds_succ]
  go_wp2_with fail
  go_ret
  refine ⟨?_, HK5.out⟩
  rw [E4.out, EC4.out, EB4.out, EA4.out, E3.out, EC3.out, EB3.out, EA3.out, E2.out, EC2.out, EB2.out, EA2.out, E1.out, EC1.out, EB1.out, EA1.out, E0.out]
  simp [lineOf, lineL]
end Go.Proofs.YtcopkhhgcgfelaaDoor
