/- Line: an operation's line. -/
import Derived.Test.YtdplakfmdkjfdaaDoorOp3
import Derived.Test.YtdplakfmdkjfdaaDoorShelfOp
import Derived.Deep.RegionHeld3
import Derived.Deep.RegionWith
import Derived.Lib.ItoaLen
import Derived.Lib.LaidTab
import Derived.Lib.AppendIntMem
namespace Go.Proofs.YtdplakfmdkjfdaaDoor
open Go.RowKit Go.Sort

/-- The library's table of powers reads as its initialiser lays it. -/
def Tab (w : World) : Prop := Lib.TabIs Tryd.prog w "internal/strconv.uint64pow10" .u64 Lib.pow10Tab
theorem Tab.keep {w w' : World} (h : Tab w) (k : Keep none_ w w') : Tab w' := by
  unfold Tab Lib.TabIs World.var? at *
  cases hg : Tryd.prog.globalNamed "internal/strconv.uint64pow10" with
  | none => rw [hg] at h; cases h
  | some g =>
    rw [hg] at h
    simp only [Option.bind_some] at h ⊢
    have hlt : g < w.heap.size := by
      rcases Nat.lt_or_ge g w.heap.size with hlt | hge
      · exact hlt
      · rw [Array.getElem?_eq_none hge] at h; cases h
    rw [k.block g hlt (fun f => f)]
    exact h
theorem Tab.keepS {S : Nat → Prop} {w0 w w' : World} (h : Tab w) (k : Keep S w w') (h0 : Tab w0) (hs : ∀ g, g < w0.heap.size → ¬ S g) : Tab w' := by
  unfold Tab Lib.TabIs World.var? at *
  cases hg : Tryd.prog.globalNamed "internal/strconv.uint64pow10" with
  | none => rw [hg] at h; cases h
  | some g =>
    rw [hg] at h h0
    simp only [Option.bind_some] at h h0 ⊢
    have hlt : g < w.heap.size := by
      rcases Nat.lt_or_ge g w.heap.size with hlt | hge
      · exact hlt
      · rw [Array.getElem?_eq_none hge] at h; cases h
    have hlt0 : g < w0.heap.size := by
      rcases Nat.lt_or_ge g w0.heap.size with hlt | hge
      · exact hlt
      · rw [Array.getElem?_eq_none hge] at h0; cases h0
    rw [k.block g hlt (hs g hlt0)]
    exact h
theorem Keep.grow_ (w : World) (k : Nat) (os : Array Obj) : Keep none_ w (Sort.grow (w.drewN k) os) := Keep.ofBelow (Lib.below_grow _ w (Nat.le_refl _) k os) none_
theorem itoa_any (n : Int) (w : World) (hn : (Lit.int .i64 n).wf = true) (ht : Tab w) : Calls Tryd.prog 66 #[.int .i64 n] w fun e w' => e = .returned (.string ⟨(Lib.itoa n).toArray⟩) ∧ Keep none_ w w' := by
  have hb := bounds_i64 hn
  refine (Tryd.strconv_Itoa n (by omega) (by omega) w ht).mono ?_
  rintro e w' ⟨rfl, k, os, rfl⟩
  exact ⟨rfl, Keep.grow_ w k os⟩
/-- Two strings joined, under a name. -/
theorem cat2 {P : Program} (x y : List UInt8) (hx : x.length ≤ 1000000) (hy : y.length ≤ 1000000) : ∃ l : List UInt8, (∀ w, (Op.stringOp .add ⟨x.toArray⟩ ⟨y.toArray⟩).run P w = .ok (.string ⟨l.toArray⟩) w) ∧ Hid (l = x ++ y) ∧ l.length ≤ x.length + y.length :=
  ⟨x ++ y, fun w => run_string_add_lists w x y (by omega) (by omega), rfl, by simp⟩
theorem itoa_len {n : Int} (hn : (Lit.int .i64 n).wf = true) : (Lib.itoa n).length ≤ 21 := by
  have hb := bounds_i64 hn
  exact Lib.itoa_length_le n (by omega) (by omega)

def OpR.wf (o : OpR) : Prop := (Lit.int .i64 o.k).wf = true ∧ (Lit.int .i64 o.a).wf = true ∧ (Lit.int .i64 o.b).wf = true ∧ (Lit.int .i64 o.c).wf = true
theorem wfN {o : OpR} (h : o.wf) (j : Nat) : (Lit.int .i64 (numOf o j)).wf = true := by
  unfold numOf
  split
  · exact h.2.1
  · split
    · exact h.2.2.1
    · exact h.2.2.2
def wordL (k : Int) : List UInt8 := if isKind k then kindL.getD (2 * k.toNat) [] else []
def lineN (o : OpR) : Nat → List UInt8
  | 0 => wordL o.k
  | j + 1 => lineN o j ++ 32 :: Lib.itoa (numOf o j)
def lineL (o : OpR) : List UInt8 := lineN o (useL o.k).length
theorem wordL_len (k : Int) : (wordL k).length ≤ 5 := by
  unfold wordL
  split
  · rename_i h
    simp [isKind] at h
    obtain ⟨n, rfl⟩ : ∃ n : Nat, k = n := ⟨k.toNat, by omega⟩
    have hn : n < 9 := by omega
    simp only [Int.toNat_natCast]
    have : ∀ n, n < 9 → (kindL.getD (2 * n) []).length ≤ 5 := by decide
    exact this n hn
  · simp
theorem lineN_len {o : OpR} (h : o.wf) : ∀ j, (lineN o j).length ≤ 5 + 22 * j
  | 0 => wordL_len o.k
  | j + 1 => by
    have h1 := lineN_len h j
    have h2 := itoa_len (wfN h j)
    simp [lineN]
    omega

set_option maxRecDepth 4000 in
set_option maxHeartbeats 4000000 in
theorem line1_any (l : UInt8) (n : Int) (x : List UInt8) (B i O : Nat) (w : World) (hn : w.cell? ⟨B, i, none⟩ = some (.int .i64 n)) (hO : Blk w O [.string ⟨x.toArray⟩] 9) (hx : x.length ≤ 1000) (hwf : (Lit.int .i64 n).wf = true) (hT : Tab w) :
    Calls Tryd.prog 65 #[.int .u8 l.toNat, .pointer (some ⟨B, i, none⟩), .pointer (some ⟨O, 0, none⟩)] w fun e w' => e = .returned (.tuple #[]) ∧ Blk w' O [.string ⟨(x ++ 32 :: Lib.itoa n).toArray⟩] 9 ∧ Keep (only O) w w' := by
  have l0 := itoa_len hwf
  obtain ⟨L1, q1, E1, b1⟩ := cat2 (P := Tryd.prog) [32] (Lib.itoa n) (by decide) (by omega)
  have b1' : L1.length ≤ 1 + (Lib.itoa n).length := b1
  obtain ⟨L2, q2, E2, b2⟩ := cat2 (P := Tryd.prog) x L1 (by omega) (by omega)
  have HI := Lib.hid (itoa_any n w.drew hwf (hT.keep ((Keep.refl _ _).drew)))
  have HO := Lib.hid hO
  have cO : w.cell? ⟨O, 0, none⟩ = some (.string ⟨x.toArray⟩) := hO.cell 0 rfl
  clear hT b1 b1' b2 l0 hO
  generalize Lib.itoa n = it at *
  go_enter Tryd.func65, Tryd.ntmps65
  go_wp2_with fail
  have hk0 : ∀ w1, Keep none_ w.drew w1 → w1.cell? ⟨O, 0, none⟩ = some (.string ⟨x.toArray⟩) ∧ w1.frozen? ⟨O, 0, none⟩ = false := fun w1 h => ⟨h.still cO, (h.blk HO.out.drew (fun f => f)).free 0⟩
  go_region_with (
    (go_at_call 66
     refine HI.out.mono ?_
     rintro e w1 ⟨rfl, hk⟩
     have cO1 := (hk0 w1 hk).1
     have f1 := (hk0 w1 hk).2
     have HB1 := Lib.hid (hk.blk HO.out.drew (fun f => f))
     have HK1 := Lib.hid ((Keep.refl none_ w).drew.trans hk)))
  all_goals go_wp2_with fail
  all_goals go_end0
  all_goals
    have e : L2 = x ++ 32 :: it := by rw [E2.out, E1.out]; rfl
    refine ⟨rfl, ?_, (Keep.mono (T := only O) HK1.out (fun _ _ f => f.elim)).puts (show only O O from rfl) 0 _⟩
    rw [← e]
    exact HB1.out.set 0 (.string ⟨L2.toArray⟩)

structure LnI (o : OpR) (B O : Nat) (j : Nat) (W : World) : Prop where
  hb : Blk W B o.cells 35
  ho : Blk W O [.string ⟨(lineN o j).toArray⟩] 9

set_option maxRecDepth 4000 in
set_option maxHeartbeats 4000000 in
theorem line_any (o : OpR) (w : World) (hwf : o.wf) (hT : Tabs w) (hTab : Tab w) : Calls Tryd.prog 40 #[.agg o.cells.toArray] w fun e w' => e = .returned (.tuple #[.string ⟨(if isKind o.k then lineL o else []).toArray⟩, .int .i64 (if isKind o.k then 0 else 1)]) ∧ Keep none_ w w' := by
  obtain ⟨W0, hW0⟩ : ∃ W', W' = w.alloc (.cells o.cells.toArray 35) := ⟨_, rfl⟩
  have HO0 : Hid (Blk W0 w.heap.size o.cells 35) := by rw [hW0]; exact Blk.new w _ _
  have HK0 : Hid (Keep none_ w W0) := by rw [hW0]; exact (Keep.refl _ _).alloc _
  have HT := Lib.hid (hT.keep HK0.out)
  have HTB := Lib.hid (hTab.keep HK0.out)
  have HIS := Lib.hid ((is_any o.k W0).mono (fun _ _ h => And.intro h.1 h.2.symm))
  have HWF := Lib.hid hwf
  have k0 : W0.cell? ⟨w.heap.size, 0, none⟩ = some (.int .i64 o.k) := HO0.out.cell 0 rfl
  have hoc : o.cells.toArray = #[.int .i64 o.k, .int .i64 o.a, .int .i64 o.b, .int .i64 o.c] := rfl
  rw [hoc] at hW0 ⊢
  clear hoc hT hTab hwf
  cases hik : isKind o.k with
  | false =>
    rw [hik] at HIS
    simp only [Bool.false_eq_true, if_false]
    go_enter Tryd.func40, Tryd.ntmps40
    go_wp2_with fail
    rw [← hW0]
    clear hW0
    refine HIS.out.mono ?_
    rintro e w1 ⟨rfl, rfl⟩
    go_wp2_with fail
    go_ret2
    exact ⟨rfl, HK0.out⟩
  | true =>
    rw [hik] at HIS
    have hI := hik
    simp [isKind] at hI
    obtain ⟨n, hn⟩ : ∃ n : Nat, o.k = n := ⟨o.k.toNat, by omega⟩
    have hn9 : n < 9 := by omega
    have hkl : kindL[2 * n]? = some (wordL o.k) := by
      unfold wordL
      rw [if_pos hik, hn]
      simp only [Int.toNat_natCast]
      have : ∀ n, n < 9 → kindL[2 * n]? = some (kindL.getD (2 * n) []) := by decide
      exact this n hn9
    have hcw := HT.out.kind _ _ hkl
    have HE0 : Hid (lineN o 0 = wordL o.k) := rfl
    simp only [if_true]
    obtain ⟨wd, hwd⟩ : ∃ wd, wd = wordL o.k := ⟨_, rfl⟩
    rw [← hwd] at hcw HE0
    rw [Nat.mul_comm] at hcw
    have hnI : (n : Int) < 9 := by omega
    have hn0 : (0 : Int) ≤ (n : Int) := by omega
    rw [hn] at k0 hW0 ⊢
    have hno : ∀ W : World, W.heap.size = W.heap.size := fun _ => rfl
    clear hno
    go_enter Tryd.func40, Tryd.ntmps40
    go_wp2_with fail
    rw [← hW0]
    rw [hn] at HIS
    refine HIS.out.mono ?_
    rintro e w1 ⟨rfl, rfl⟩
    clear hW0
    go_wp2_with fail
    obtain ⟨W1, hW1⟩ : ∃ W', W' = W0.alloc (.cells #[.string ⟨(wordL (n : Int)).toArray⟩] 9) := ⟨_, rfl⟩
    have hk1 : Keep none_ W0 W1 := by rw [hW1]; exact (Keep.refl _ _).alloc _
    have hI1 : LnI o w.heap.size W0.heap.size 0 W1 := ⟨hk1.blk HO0.out (fun f => f), by rw [hW1]; have h := Blk.new W0 [.string ⟨(wordL (n : Int)).toArray⟩] 9; rw [lineN, hn]; exact h⟩
    have hlt : w.heap.size < W0.heap.size := HO0.out.lt
    have HEACH := Lib.hid (each_any 65 #[.pointer (some ⟨W0.heap.size, 0, none⟩)] (only W0.heap.size) (LnI o w.heap.size W0.heap.size) w.heap.size o.k W1 (HT.out.keep hk1) (hI1.hb.cell 0 rfl) hI1
      (fun args w => by simp [callFunc, Tryd.func65, go_sem]; rfl) (fun j W W' h k => ⟨k.blk h.hb (fun f => f), k.blk h.ho (fun f => f)⟩) (fun i hi => by unfold only at hi; have := hI1.ho.lt; omega)
      (fun j l W hl h k => by
        have hj3 : j < 3 := Nat.lt_of_lt_of_le (List.getElem?_eq_some_iff.1 hl).1 (useL_len o.k)
        have hnn : W.cell? ⟨w.heap.size, j + 1, none⟩ = some (.int .i64 (numOf o j)) := by
          refine h.hb.cell (j + 1) ?_
          rcases (by omega : j = 0 ∨ j = 1 ∨ j = 2) with rfl | rfl | rfl <;> rfl
        refine (line1_any l (numOf o j) (lineN o j) w.heap.size (j + 1) W0.heap.size W hnn h.ho (by have := lineN_len HWF.out j; omega) (wfN HWF.out j) ((HTB.out.keep hk1).keepS k HTB.out (fun g hg he => by unfold only at he; omega))).mono ?_
        rintro e W' ⟨rfl, hb, hk⟩
        exact ⟨rfl, ⟨hk.blk h.hb (by unfold only; omega), hb⟩, hk⟩))
    rw [← hW1]
    have HK1 := Lib.hid (HK0.out.trans hk1)
    have HLT : Hid (w.heap.size ≤ W0.heap.size) := Nat.le_of_lt hlt
    rw [hn] at HEACH
    clear hW1 hk1 hI1 hlt hcw
    refine HEACH.out.mono ?_
    rintro e w3 ⟨rfl, hI3, hk3⟩
    have c3 := hI3.ho.cell 0 rfl
    have hK := HK1.out.trans' hk3 (fun i hi h => absurd hi (by unfold only at h; have := HLT.out; omega))
    have HL : Hid (lineN o (useL (n : Int)).length = lineL o) := by rw [← hn]; rfl
    rw [HL.out] at c3
    clear hI3 hk3
    go_wp2_with fail
    go_ret2
    exact ⟨rfl, hK⟩
end Go.Proofs.YtdplakfmdkjfdaaDoor
