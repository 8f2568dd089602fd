/- The reference's Int, Uses, Bare, Line; op.Name. -/
import Derived.Test.YtdplakfmdkjfdaaDoorOpBare
import Derived.Test.YtdplakfmdkjfdaaDoorRCheck
import Derived.Test.YtdplakfmdkjfdaaDoorOpLine
import Derived.WalkSmall
import Derived.Lib.ItoaLen
namespace Go.Proofs.YtdplakfmdkjfdaaDoor
open Go.RowKit

/-! Int, of a number that isn't below 0 -/
theorem itoa_nat (n : Nat) : Lib.itoa n = Lib.decDigits n := Lib.itoa_nonneg n
/-- What has been written when n is left of N: the rest's digits behind. -/
def dgt (k : Nat) : UInt8 := UInt8.ofNat (48 + k % 10)
theorem dec_step (n : Nat) (h : 10 ≤ n) : Lib.decDigits n = Lib.decDigits (n / 10) ++ [dgt n] := by
  rw [Lib.decDigits, dif_neg (by omega)]; rfl
theorem dec_small (n : Nat) (h : n < 10) : Lib.decDigits n = [dgt n] := by
  rw [Lib.decDigits_one h, dgt, Nat.mod_eq_of_lt h]
theorem cat_one (d : UInt8) (t : List UInt8) : (⟨#[d]⟩ ++ ⟨t.toArray⟩ : ByteArray) = ⟨(d :: t).toArray⟩ := by
  apply ByteArray.ext
  rw [ByteArray.data_append]
  simp
theorem dgt_nat (k : Nat) : (dgt k).toNat = 48 + k % 10 := by
  unfold dgt
  rw [UInt8.toNat_ofNat']
  omega
theorem digit_cell (k : Nat) : ((dgt k).toNat : Int) = 48 + (k : Int) % 10 := by
  rw [dgt_nat]; omega
theorem run_digit (k : Nat) (w : World) : (convert 113 9 (.slice (some ⟨w.heap.size, 0, none⟩) 1 1)).run Tryd.prog (w.alloc (.cells #[.int .u8 (48 + (k : Int) % 10)] 5)) = .ok (.string ⟨[dgt k].toArray⟩) (w.alloc (.cells #[.int .u8 (48 + (k : Int) % 10)] 5)) := by
  refine run_convert_bytes_back (P := Tryd.prog) _ 113 9 5 ⟨w.heap.size, 0, none⟩ 1 [dgt k] Tryd.underlying113 Tryd.underlying5 Tryd.underlying9 (fun j hj => ?_)
  have hj0 : j = 0 := by simpa using hj
  subst hj0
  have := (Blk.new w [.int .u8 (48 + (k : Int) % 10)] 5).cell 0 rfl
  simp only [List.getElem_cons_zero, digit_cell]
  exact this
set_option maxHeartbeats 1000000 in
theorem rInt_nat (N : Nat) (w : World) (hN : N ≤ 9223372036854775807) : Calls Tryd.prog 67 #[.int .i64 N] w fun e w' => e = .returned (.string ⟨(Lib.decDigits N).toArray⟩) ∧ Keep none_ w w' := by
  have h1 : ((N : Int) == -9223372036854775808) = false := beq_eq_false_iff_ne.2 (by omega)
  go_enter Tryd.func67, Tryd.ntmps67
  go_wp2
  go_loopg [0, 3] (2 * N + 1) (fun g n s wr => ∃ (k : Nat) (t : List UInt8), n = .int .i64 k ∧ s = .string ⟨t.toArray⟩ ∧ g = 2 * k + (if t = [] then 1 else 0) ∧ k ≤ N ∧ Hid ((t = [] ∧ k = N) ∨ (t ≠ [] ∧ Lib.decDigits N = (if k = 0 then [] else Lib.decDigits k) ++ t)) ∧ Hid (Keep none_ w wr))
  case atStart => exact ⟨N, [], rfl, rfl, by simp, Nat.le_refl _, .inl ⟨rfl, rfl⟩, Keep.refl _ _⟩
  case round =>
    obtain ⟨k, t, rfl, rfl, hg, hk, HT, HK⟩ := hrel
    have hcv := run_digit k
    have HA : Hid (∀ o, Keep none_ w (wr.alloc o)) := fun o => HK.out.alloc o
    have HD : Hid (∀ u, (if k / 10 = 0 then [] else Lib.decDigits (k / 10)) ++ dgt k :: u = Lib.decDigits k ++ u) := fun u => by
      by_cases h : k < 10
      · rw [if_pos (by omega), dec_small k h]; rfl
      · rw [if_neg (by omega), dec_step k (by omega)]; simp
    cases t with
    | nil =>
      have HC := Lib.hid (cat_one (dgt k) [])
      go_wp2
      go_roundg (2 * (k / 10))
      case measure => simp at hg; omega
      case rel => exact ⟨k / 10, [dgt k], by go_num, congrArg Value.string HC.out, by simp, by omega, .inr ⟨by simp, by
        rcases HT.out with ⟨_, h⟩ | ⟨h, _⟩
        · rw [HD.out, ← h]; simp
        · exact absurd rfl h⟩, HA.out _⟩
    | cons d t =>
      have HC := Lib.hid (cat_one (dgt k) (d :: t))
      have HE : Hid (Lib.decDigits N = (if k = 0 then [] else Lib.decDigits k) ++ d :: t) := by
        rcases HT.out with ⟨h, _⟩ | ⟨_, h⟩
        · cases h
        · exact h
      have hlen : t.length ≤ 100 := by
        have h1 := congrArg List.length HE.out
        have h2 := Lib.itoa_length_le N (by omega) (by omega)
        rw [itoa_nat] at h2
        simp at h1
        omega
      by_cases h0 : 0 < k
      · go_wp2
        go_roundg (2 * (k / 10))
        case measure => simp at hg; omega
        case rel => exact ⟨k / 10, dgt k :: d :: t, by go_num, congrArg Value.string HC.out, by simp, by omega, .inr ⟨by simp, by rw [HD.out, HE.out, if_neg (by omega)]⟩, HA.out _⟩
      · obtain rfl : k = 0 := by omega
        go_wp2
        go_ret
        exact ⟨by rw [HE.out]; rfl, HK.out⟩

/-! Int, of any number -/
set_option maxHeartbeats 1000000 in
theorem rInt_any (n : Int) (w : World) (hn : (Lit.int .i64 n).wf = true) : Calls Tryd.prog 67 #[.int .i64 n] w fun e w' => e = .returned (.string ⟨(Lib.itoa n).toArray⟩) ∧ Keep none_ w w' := by
  have hb := bounds_i64 hn
  rcases Int.lt_or_le n 0 with h | h
  · by_cases hm : n = -9223372036854775808
    · subst hm
      have HE : Hid ((.string ⟨#[45, 57, 50, 50, 51, 51, 55, 50, 48, 51, 54, 56, 53, 52, 55, 55, 53, 56, 48, 56]⟩ : Value) = .string ⟨(Lib.itoa (-9223372036854775808)).toArray⟩) := by
        unfold Hid; exact congrArg (fun l : List UInt8 => Value.string ⟨l.toArray⟩) (by decide +kernel)
      go_enter Tryd.func67, Tryd.ntmps67
      go_wp2
      go_ret
      exact ⟨congrArg Ending.returned HE.out, Keep.refl _ _⟩
    · obtain ⟨u, rfl⟩ : ∃ u : Nat, n = -(u : Int) := ⟨n.natAbs, by omega⟩
      have h1 : (-(u : Int) == -9223372036854775808) = false := beq_eq_false_iff_ne.2 hm
      have HE := Lib.hid (Lib.itoa_neg u (by omega))
      have hlen : (Lib.decDigits u).length ≤ 100 := by
        have h2 := Lib.itoa_length_le (-(u : Int)) (by omega) (by omega)
        rw [HE.out] at h2
        simp at h2
        omega
      have hu : u ≤ 9223372036854775807 := by omega
      have hu1 : 1 ≤ u := by omega
      have HC := Lib.hid (cat_one 45 (Lib.decDigits u))
      clear hm hb hn
      go_enter Tryd.func67, Tryd.ntmps67
      go_wp2_with fail
      refine (rInt_nat u _ hu).mono ?_
      rintro e w1 ⟨rfl, hk⟩
      generalize Lib.decDigits u = l at *
      go_wp2_with fail
      go_ret
      exact ⟨by rw [HE.out]; exact congrArg (fun s => Ending.returned (Value.string s)) HC.out, hk⟩
  · obtain ⟨u, rfl⟩ : ∃ u : Nat, n = (u : Int) := ⟨n.toNat, by omega⟩
    rw [itoa_nat]
    exact rInt_nat u w (by omega)

set_option maxRecDepth 4000 in
set_option maxHeartbeats 1000000 in
theorem rUses_any (k : Int) (w : World) : Calls Tryd.prog 44 #[.int .i64 k] w fun e w' => e = .returned (.int .i64 ((useL k).length : Nat)) ∧ w = w' := by
  cases h : isKind k with
  | false =>
    have HE : Hid ((useL k).length = 0) := by simp [Hid, useL, h]
    obtain ⟨h1, h2, h3, h4, h5, h6, h7, h8⟩ := not_kind h
    rw [HE.out]
    clear h
    go_enter Tryd.func44, Tryd.ntmps44
    go_wp2_with fail
    go_ret
    exact ⟨rfl, rfl⟩
  | true =>
    rcases kind_cases h with rfl | rfl | rfl | rfl | rfl | rfl | rfl | rfl
    all_goals
      go_enter Tryd.func44, Tryd.ntmps44
      go_wp2_with fail
      go_ret
      exact ⟨rfl, rfl⟩

set_option maxRecDepth 4000 in
set_option maxHeartbeats 1000000 in
theorem name_any (k : Int) (w : World) (hT : Tabs w) : Calls Tryd.prog 42 #[.int .i64 k] w fun e w' => e = .returned (.string ⟨(wordL k).toArray⟩) ∧ w = w' := by
  have HIS := Lib.hid (fun w => (is_any k w).mono (fun _ _ h => And.intro h.1 h.2.symm))
  cases hk : isKind k with
  | false =>
    have HE : Hid (wordL k = []) := by simp [Hid, wordL, hk]
    rw [hk] at HIS
    rw [HE.out]
    clear hk hT
    go_enter Tryd.func42, Tryd.ntmps42
    go_wp2_with (go_at_call 54; refine (HIS.out _).mono ?_; rintro e w1 ⟨rfl, rfl⟩)
    go_ret
    exact ⟨rfl, rfl⟩
  | true =>
    have hk' := hk
    simp [isKind] at hk'
    obtain ⟨n, rfl⟩ : ∃ n : Nat, k = n := ⟨k.toNat, by omega⟩
    have hlt : 2 * n < kindL.length := by simp [kindL]; omega
    have hc := hT.kind (2 * n) _ (List.getElem?_eq_getElem hlt)
    have HE : Hid (wordL (n : Int) = kindL[2 * n]) := by
      simp only [Hid, wordL, hk, if_true]
      simp [hlt]
    rw [HE.out]
    generalize kindL[2 * n] = s at *
    have hc2 : w.cell? ⟨0, n * 2, none⟩ = some (.string ⟨s.toArray⟩) := by rw [Nat.mul_comm]; exact hc
    rw [hk] at HIS
    clear hk hT HE hc
    have hn : (n : Int) < 9 := by omega
    have hn2 : n < 9 := by omega
    clear hk'
    go_enter Tryd.func42, Tryd.ntmps42
    go_wp2_with (go_at_call 54; refine (HIS.out _).mono ?_; rintro e w1 ⟨rfl, rfl⟩)
    go_ret
    exact ⟨rfl, rfl⟩

set_option maxRecDepth 4000 in
set_option maxHeartbeats 4000000 in
theorem rLine_any (o : OpR) (w : World) (hwf : o.wf) : Calls Tryd.prog 45 #[.agg o.cells.toArray] w fun e w' => e = .returned (.string ⟨(lineL o).toArray⟩) ∧ Keep none_ w w' := by
  obtain ⟨W0, hW0⟩ : ∃ W', W' = w.alloc (.cells o.cells.toArray 35) := ⟨_, rfl⟩
  have HO0 : Hid (Blk W0 w.heap.size o.cells 35) := by rw [hW0]; exact Blk.new w _ _
  have HK0 : Hid (Keep none_ w W0) := by rw [hW0]; exact (Keep.refl _ _).alloc _
  have HWD := Lib.hid (fun W => rWord_any o.k W)
  have HUS := Lib.hid (fun W => rUses_any o.k W)
  have HINT := Lib.hid (fun j W => rInt_any (numOf o j) W (wfN hwf j))
  have HLEN := Lib.hid (fun j => lineN_len hwf j)
  have HIL := Lib.hid (fun j => itoa_len (wfN hwf j))
  have hul := useL_len o.k
  have hoc : o.cells.toArray = #[.int .i64 o.k, .int .i64 o.a, .int .i64 o.b, .int .i64 o.c] := rfl
  rw [hoc] at hW0 ⊢
  have HL0 : Hid (wordL o.k = lineN o 0) := rfl
  have HL1 : Hid (lineL o = lineN o (useL o.k).length) := rfl
  rw [HL1.out]
  rw [HL0.out] at HWD
  clear hoc hwf
  have k0 : W0.cell? ⟨w.heap.size, 0, none⟩ = some (.int .i64 o.k) := HO0.out.cell 0 rfl
  have k1 : W0.cell? ⟨w.heap.size, 1, none⟩ = some (.int .i64 o.a) := HO0.out.cell 1 rfl
  have k2 : W0.cell? ⟨w.heap.size, 2, none⟩ = some (.int .i64 o.b) := HO0.out.cell 2 rfl
  have k3 : W0.cell? ⟨w.heap.size, 3, none⟩ = some (.int .i64 o.c) := HO0.out.cell 3 rfl
  generalize (useL o.k).length = u at *
  go_enter Tryd.func45, Tryd.ntmps45
  go_wp2_with fail
  rw [← hW0]
  clear hW0
  go_wp2_with (go_at_call 43; refine (HWD.out _).mono ?_; rintro e w1 ⟨rfl, rfl⟩)
  obtain ⟨W1, hW1⟩ : ∃ W', W' = W0.alloc (.cells #[.int .i64 o.a, .int .i64 o.b, .int .i64 o.c] 3) := ⟨_, rfl⟩
  have hk1 : Keep none_ W0 W1 := by rw [hW1]; exact (Keep.refl _ _).alloc _
  have HN1 : Hid (Blk W1 W0.heap.size [.int .i64 o.a, .int .i64 o.b, .int .i64 o.c] 3) := by rw [hW1]; exact Blk.new W0 _ _
  have HO1 := Lib.hid (hk1.blk HO0.out (fun f => f))
  have HK1 := Lib.hid (HK0.out.trans hk1)
  rw [← hW1]
  clear hW1 hk1 k0 k1 k2 k3 HO0 HK0 HWD
  generalize W0.heap.size = N at *
  generalize w.heap.size = B at *
  go_loopg [3, 5] u (fun g s i wr => ∃ (j : Nat) (t : List UInt8), g + j = u ∧ i = .int .i64 j ∧ s = .string ⟨t.toArray⟩ ∧ Hid (t = lineN o j) ∧ Hid (Keep none_ W1 wr))
  case atStart => exact ⟨0, _, rfl, rfl, rfl, rfl, Keep.refl _ _⟩
  case round =>
    obtain ⟨j, t, hg, rfl, rfl, HT, HK⟩ := hrel
    have k0 := (HK.out.blk HO1.out (fun f => f)).cell 0 rfl
    by_cases hlt : j < u
    · have hj3 : j < 3 := by omega
      have hju : (j : Int) < (u : Int) := by omega
      have hj3z : (j : Int) < 3 := by omega
      have hj0 : (0 : Int) ≤ (j : Int) := by omega
      have cn : wr.cell? ⟨N, j, none⟩ = some (.int .i64 (numOf o j)) := by
        refine (HK.out.blk HN1.out (fun f => f)).cell j ?_
        rcases (by omega : j = 0 ∨ j = 1 ∨ j = 2) with rfl | rfl | rfl <;> rfl
      have hl := HLEN.out j
      rw [← HT.out] at hl
      have hi := HIL.out j
      have HIN := Lib.hid (HINT.out j wr)
      have HE : Hid (lineN o (j + 1) = t ++ 32 :: Lib.itoa (numOf o j)) := by rw [HT.out]; rfl
      generalize numOf o j = nj at *
      obtain ⟨L1, q1, E1, b1⟩ := cat2 (P := Tryd.prog) t [32] (by omega) (by decide)
      obtain ⟨L2, q2, E2, b2⟩ := cat2 (P := Tryd.prog) L1 (Lib.itoa nj) (by simp at b1; omega) (by omega)
      have HE2 : Hid (L2 = lineN o (j + 1)) := by rw [HE.out]; unfold Hid; rw [E2.out, E1.out]; simp
      generalize Lib.itoa nj = it at *
      clear hl hi b1 b2 HE
      go_wp2_with (go_at_call 44; refine (HUS.out _).mono ?_; rintro e w1 ⟨rfl, rfl⟩)
      refine HIN.out.mono ?_
      rintro e w2 ⟨rfl, hk2⟩
      have HK2 := Lib.hid (HK.out.trans hk2)
      clear hk2 cn k0 HIN
      go_wp2_with fail
      go_roundg (gk - 1)
      case measure => omega
      case rel => exact ⟨j + 1, L2, by omega, by go_num, rfl, HE2, HK2⟩
    · obtain rfl : j = u := by omega
      go_wp2_with (go_at_call 44; refine (HUS.out _).mono ?_; rintro e w1 ⟨rfl, rfl⟩)
      go_ret
      exact ⟨by rw [HT.out]; rfl, HK1.out.trans HK.out⟩

theorem wordL_some {k : Int} (h : isKind k = true) : ((⟨(wordL k).toArray⟩ : ByteArray).toList).isEmpty = false := by
  rcases kind_cases h with rfl | rfl | rfl | rfl | rfl | rfl | rfl | rfl <;> kernel_rfl
theorem wordL_none {k : Int} (h : isKind k = false) : wordL k = [] := by simp [wordL, h]

/-- What lies in memory at Bare, behind j numbers. -/
structure BrI (o : OpR) (w : World) (j : Nat) (W : World) : Prop where
  ho : Blk W w.heap.size o.cells 35
  hr : Blk W (w.heap.size + 1) [.int .i64 0, .int .i64 0, .int .i64 0, .int .i64 0] 35
  hx : Blk W (w.heap.size + 1 + 1) (bareN o j).cells 35
  hk : Keep none_ w W
theorem BrI.step {o : OpR} {w : World} {j : Nat} {W : World} (h : BrI o w j W) (hj : j < 3) : BrI o w (j + 1) (W.setCell ⟨w.heap.size + 1 + 1, j + 1, none⟩ (.int .i64 (numOf o j))) := by
  refine ⟨h.ho.other (by simp only [ne_eq]; omega) _, h.hr.other (by simp only [ne_eq]; omega) _, ?_, h.hk.putNew (by omega) _ _⟩
  have h1 := h.hx.set (j + 1) (.int .i64 (numOf o j))
  rw [bareN_step o hj] at h1
  exact h1

set_option maxRecDepth 4000 in
set_option maxHeartbeats 4000000 in
theorem rBare_any (o : OpR) (w : World) : Calls Tryd.prog 41 #[.agg o.cells.toArray] w fun e w' => e = .returned (.agg (bareP o).cells.toArray) ∧ Keep none_ w w' := by
  obtain ⟨W0, hW0⟩ : ∃ W', W' = ((w.alloc (.cells o.cells.toArray 35)).alloc (.cells #[.int .i64 0, .int .i64 0, .int .i64 0, .int .i64 0] 35)).alloc (.cells #[.int .i64 0, .int .i64 0, .int .i64 0, .int .i64 0] 35) := ⟨_, rfl⟩
  have HO0 : Hid (Blk W0 w.heap.size o.cells 35) := by rw [hW0]; exact ((Blk.new w _ _).alloc _).alloc _
  have HR0 : Hid (Blk W0 (w.heap.size + 1) [.int .i64 0, .int .i64 0, .int .i64 0, .int .i64 0] 35) := by rw [hW0]; have h := Blk.new (w.alloc (.cells o.cells.toArray 35)) [.int .i64 0, .int .i64 0, .int .i64 0, .int .i64 0] 35; simp only [World.size_alloc] at h; exact h.alloc _
  have HX0 : Hid (Blk W0 (w.heap.size + 1 + 1) [.int .i64 0, .int .i64 0, .int .i64 0, .int .i64 0] 35) := by rw [hW0]; have h := Blk.new ((w.alloc (.cells o.cells.toArray 35)).alloc (.cells #[.int .i64 0, .int .i64 0, .int .i64 0, .int .i64 0] 35)) [.int .i64 0, .int .i64 0, .int .i64 0, .int .i64 0] 35; simp only [World.size_alloc] at h; exact h
  have HK0 : Hid (Keep none_ w W0) := by rw [hW0]; exact (((Keep.refl _ _).alloc _).alloc _).alloc _
  have HWD := Lib.hid (fun W => rWord_any o.k W)
  have HUS := Lib.hid (fun W => rUses_any o.k W)
  obtain ⟨q, hq⟩ : ∃ q, q = bareP o := ⟨_, rfl⟩
  rw [← hq]
  have hoc : o.cells.toArray = #[.int .i64 o.k, .int .i64 o.a, .int .i64 o.b, .int .i64 o.c] := rfl
  rw [hoc] at hW0 ⊢
  clear hoc
  have v0 := HO0.out.cell 0 rfl; have v1 := HO0.out.cell 1 rfl; have v2 := HO0.out.cell 2 rfl; have v3 := HO0.out.cell 3 rfl
  have x0 := HX0.out.cell 0 rfl; have x1 := HX0.out.cell 1 rfl; have x2 := HX0.out.cell 2 rfl; have x3 := HX0.out.cell 3 rfl
  have r0 := HR0.out.cell 0 rfl; have r1 := HR0.out.cell 1 rfl; have r2 := HR0.out.cell 2 rfl; have r3 := HR0.out.cell 3 rfl
  have f0 := HR0.out.free 0; have f1 := HR0.out.free 1; have f2 := HR0.out.free 2; have f3 := HR0.out.free 3
  have g0 := HX0.out.free 0; have g1 := HX0.out.free 1; have g2 := HX0.out.free 2; have g3 := HX0.out.free 3
  cases hik : isKind o.k with
  | false =>
    have HQ : Hid (q = ⟨0, 0, 0, 0⟩) := by unfold Hid; rw [hq]; unfold bareP; rw [hik]; rfl
    rw [wordL_none hik] at HWD
    clear hq hik
    go_enter Tryd.func41, Tryd.ntmps41
    go_wp2_with fail
    rw [← hW0]
    clear hW0
    go_wp2_with (go_at_call 43; refine (HWD.out _).mono ?_; rintro e w1 ⟨rfl, rfl⟩)
    have hR2 := ((((HR0.out.set 0 (.int .i64 0)).set 1 (.int .i64 0)).set 2 (.int .i64 0)).set 3 (.int .i64 0))
    have hk2 := (((HK0.out.putNew (B := w.heap.size + 1) (by omega) 0 (.int .i64 0)).putNew (B := w.heap.size + 1) (by omega) 1 (.int .i64 0)).putNew (B := w.heap.size + 1) (by omega) 2 (.int .i64 0)).putNew (B := w.heap.size + 1) (by omega) 3 (.int .i64 0)
    have k0 := hR2.cell 0 rfl; have k1 := hR2.cell 1 rfl; have k2 := hR2.cell 2 rfl; have k3 := hR2.cell 3 rfl
    refine bodyPost_ret (v := .agg #[.int .i64 0, .int .i64 0, .int .i64 0, .int .i64 0]) (by simp [results, Tryd.f41, go_sem, k0, k1, k2, k3]) rfl ⟨?_, hk2⟩
    rw [HQ.out]; rfl
  | true =>
    have HQ : Hid (q = bareN o (useL o.k).length) := by unfold Hid; rw [hq]; unfold bareP; rw [hik]; rfl
    have hwd := wordL_some hik
    have hul := useL_len o.k
    generalize (⟨(wordL o.k).toArray⟩ : ByteArray) = wd at *
    generalize (useL o.k).length = u at *
    clear hq hik
    obtain ⟨W1, hW1⟩ : ∃ W', W' = W0.setCell ⟨w.heap.size + 1 + 1, 0, none⟩ (.int .i64 o.k) := ⟨_, rfl⟩
    have HB1 : Hid (BrI o w 0 W1) := by
      rw [hW1]
      exact ⟨HO0.out.other (a := ⟨w.heap.size + 1 + 1, 0, none⟩) (by simp only [ne_eq]; omega) _, HR0.out.other (a := ⟨w.heap.size + 1 + 1, 0, none⟩) (by simp only [ne_eq]; omega) _, HX0.out.set 0 _, HK0.out.putNew (B := w.heap.size + 1 + 1) (by omega) 0 _⟩
    have HK1 := HB1.out.ho.cell 0 rfl
    clear HO0 HR0 HX0 HK0
    go_enter Tryd.func41, Tryd.ntmps41
    go_wp2_with fail
    rw [← hW0]
    clear hW0
    go_wp2_with (go_at_call 43; refine (HWD.out _).mono ?_; rintro e w1 ⟨rfl, rfl⟩)
    rw [← hW1]
    clear hW1 v0 v1 v2 v3 x0 x1 x2 x3 r0 r1 r2 r3 f0 f1 f2 f3 g0 g1 g2 g3 hwd HWD HK1
    have hu4 : u = 0 ∨ u = 1 ∨ u = 2 ∨ u = 3 := by omega
    rcases hu4 with rfl | rfl | rfl | rfl
    · refine (HUS.out _).mono ?_
      rintro e w1 ⟨rfl, rfl⟩
      have a0 : W1.cell? ⟨w.heap.size, 0, none⟩ = some (.int .i64 o.k) := HB1.out.ho.cell 0 rfl
      go_wp2_with fail
      clear a0
      refine (HUS.out _).mono ?_
      rintro e w1 ⟨rfl, rfl⟩
      have a1 : W1.cell? ⟨w.heap.size, 0, none⟩ = some (.int .i64 o.k) := HB1.out.ho.cell 0 rfl
      go_wp2_with fail
      clear a1
      refine (HUS.out _).mono ?_
      rintro e w1 ⟨rfl, rfl⟩
      have a2 : W1.cell? ⟨w.heap.size, 0, none⟩ = some (.int .i64 o.k) := HB1.out.ho.cell 0 rfl
      have hb : Blk W1 (w.heap.size + 1 + 1) q.cells 35 := by rw [HQ.out]; exact HB1.out.hx
      have HR := HB1.out.hr
      have HK := HB1.out.hk
      have HR := Lib.hid HR
      have HK := Lib.hid HK
      have x0 := hb.cell 0 rfl; have x1 := hb.cell 1 rfl; have x2 := hb.cell 2 rfl; have x3 := hb.cell 3 rfl
      have r0 := HR.out.cell 0 rfl; have r1 := HR.out.cell 1 rfl; have r2 := HR.out.cell 2 rfl; have r3 := HR.out.cell 3 rfl
      have z0 := HR.out.free 0; have z1 := HR.out.free 1; have z2 := HR.out.free 2; have z3 := HR.out.free 3
      clear hb
      go_wp2_with fail
      have hR2 := ((((HR.out.set 0 (.int .i64 q.k)).set 1 (.int .i64 q.a)).set 2 (.int .i64 q.b)).set 3 (.int .i64 q.c))
      have hk2 := (((HK.out.putNew (B := w.heap.size + 1) (by omega) 0 (.int .i64 q.k)).putNew (B := w.heap.size + 1) (by omega) 1 (.int .i64 q.a)).putNew (B := w.heap.size + 1) (by omega) 2 (.int .i64 q.b)).putNew (B := w.heap.size + 1) (by omega) 3 (.int .i64 q.c)
      have k0 := hR2.cell 0 rfl; have k1 := hR2.cell 1 rfl; have k2 := hR2.cell 2 rfl; have k3 := hR2.cell 3 rfl
      exact bodyPost_ret (v := .agg #[.int .i64 q.k, .int .i64 q.a, .int .i64 q.b, .int .i64 q.c]) (by simp [results, Tryd.f41, go_sem, k0, k1, k2, k3]) rfl ⟨rfl, hk2⟩
    · refine (HUS.out _).mono ?_
      rintro e w1 ⟨rfl, rfl⟩
      have HB2 : Hid (BrI o w 1 (W1.setCell ⟨w.heap.size + 1 + 1, 1, none⟩ (.int .i64 o.a))) := HB1.out.step (by omega)
      have a0 : W1.cell? ⟨w.heap.size, 1, none⟩ = some (.int .i64 o.a) := HB1.out.ho.cell 1 rfl
      have b0 : W1.cell? ⟨w.heap.size, 0, none⟩ = some (.int .i64 o.k) := HB1.out.ho.cell 0 rfl
      have c0 := HB1.out.hx.cell 1 rfl
      have d0 := HB1.out.hx.free 1
      have e0 := HB2.out.ho.cell 0 rfl
      have f0 : W1.cell? ⟨w.heap.size, 1, none⟩ = some (.int .i64 o.a) := HB1.out.ho.cell 1 rfl
      go_wp2_with fail
      generalize W1.setCell ⟨w.heap.size + 1 + 1, 1, none⟩ (.int .i64 o.a) = W2 at HB2 ⊢
      clear a0 b0 c0 d0 e0 f0 HB1
      refine (HUS.out _).mono ?_
      rintro e w1 ⟨rfl, rfl⟩
      have a1 : W2.cell? ⟨w.heap.size, 0, none⟩ = some (.int .i64 o.k) := HB2.out.ho.cell 0 rfl
      go_wp2_with fail
      clear a1
      refine (HUS.out _).mono ?_
      rintro e w1 ⟨rfl, rfl⟩
      have a2 : W2.cell? ⟨w.heap.size, 0, none⟩ = some (.int .i64 o.k) := HB2.out.ho.cell 0 rfl
      have hb : Blk W2 (w.heap.size + 1 + 1) q.cells 35 := by rw [HQ.out]; exact HB2.out.hx
      have HR := HB2.out.hr
      have HK := HB2.out.hk
      have HR := Lib.hid HR
      have HK := Lib.hid HK
      have x0 := hb.cell 0 rfl; have x1 := hb.cell 1 rfl; have x2 := hb.cell 2 rfl; have x3 := hb.cell 3 rfl
      have r0 := HR.out.cell 0 rfl; have r1 := HR.out.cell 1 rfl; have r2 := HR.out.cell 2 rfl; have r3 := HR.out.cell 3 rfl
      have z0 := HR.out.free 0; have z1 := HR.out.free 1; have z2 := HR.out.free 2; have z3 := HR.out.free 3
      clear hb
      go_wp2_with fail
      have hR2 := ((((HR.out.set 0 (.int .i64 q.k)).set 1 (.int .i64 q.a)).set 2 (.int .i64 q.b)).set 3 (.int .i64 q.c))
      have hk2 := (((HK.out.putNew (B := w.heap.size + 1) (by omega) 0 (.int .i64 q.k)).putNew (B := w.heap.size + 1) (by omega) 1 (.int .i64 q.a)).putNew (B := w.heap.size + 1) (by omega) 2 (.int .i64 q.b)).putNew (B := w.heap.size + 1) (by omega) 3 (.int .i64 q.c)
      have k0 := hR2.cell 0 rfl; have k1 := hR2.cell 1 rfl; have k2 := hR2.cell 2 rfl; have k3 := hR2.cell 3 rfl
      exact bodyPost_ret (v := .agg #[.int .i64 q.k, .int .i64 q.a, .int .i64 q.b, .int .i64 q.c]) (by simp [results, Tryd.f41, go_sem, k0, k1, k2, k3]) rfl ⟨rfl, hk2⟩
    · refine (HUS.out _).mono ?_
      rintro e w1 ⟨rfl, rfl⟩
      have HB2 : Hid (BrI o w 1 (W1.setCell ⟨w.heap.size + 1 + 1, 1, none⟩ (.int .i64 o.a))) := HB1.out.step (by omega)
      have a0 : W1.cell? ⟨w.heap.size, 1, none⟩ = some (.int .i64 o.a) := HB1.out.ho.cell 1 rfl
      have b0 : W1.cell? ⟨w.heap.size, 0, none⟩ = some (.int .i64 o.k) := HB1.out.ho.cell 0 rfl
      have c0 := HB1.out.hx.cell 1 rfl
      have d0 := HB1.out.hx.free 1
      have e0 := HB2.out.ho.cell 0 rfl
      have f0 : W1.cell? ⟨w.heap.size, 1, none⟩ = some (.int .i64 o.a) := HB1.out.ho.cell 1 rfl
      go_wp2_with fail
      generalize W1.setCell ⟨w.heap.size + 1 + 1, 1, none⟩ (.int .i64 o.a) = W2 at HB2 ⊢
      clear a0 b0 c0 d0 e0 f0 HB1
      refine (HUS.out _).mono ?_
      rintro e w1 ⟨rfl, rfl⟩
      have HB3 : Hid (BrI o w 2 (W2.setCell ⟨w.heap.size + 1 + 1, 2, none⟩ (.int .i64 o.b))) := HB2.out.step (by omega)
      have a1 : W2.cell? ⟨w.heap.size, 2, none⟩ = some (.int .i64 o.b) := HB2.out.ho.cell 2 rfl
      have b1 : W2.cell? ⟨w.heap.size, 0, none⟩ = some (.int .i64 o.k) := HB2.out.ho.cell 0 rfl
      have c1 := HB2.out.hx.cell 2 rfl
      have d1 := HB2.out.hx.free 2
      have e1 := HB3.out.ho.cell 0 rfl
      have f1 : W2.cell? ⟨w.heap.size, 2, none⟩ = some (.int .i64 o.b) := HB2.out.ho.cell 2 rfl
      go_wp2_with fail
      generalize W2.setCell ⟨w.heap.size + 1 + 1, 2, none⟩ (.int .i64 o.b) = W3 at HB3 ⊢
      clear a1 b1 c1 d1 e1 f1 HB2
      refine (HUS.out _).mono ?_
      rintro e w1 ⟨rfl, rfl⟩
      have a2 : W3.cell? ⟨w.heap.size, 0, none⟩ = some (.int .i64 o.k) := HB3.out.ho.cell 0 rfl
      have hb : Blk W3 (w.heap.size + 1 + 1) q.cells 35 := by rw [HQ.out]; exact HB3.out.hx
      have HR := HB3.out.hr
      have HK := HB3.out.hk
      have HR := Lib.hid HR
      have HK := Lib.hid HK
      have x0 := hb.cell 0 rfl; have x1 := hb.cell 1 rfl; have x2 := hb.cell 2 rfl; have x3 := hb.cell 3 rfl
      have r0 := HR.out.cell 0 rfl; have r1 := HR.out.cell 1 rfl; have r2 := HR.out.cell 2 rfl; have r3 := HR.out.cell 3 rfl
      have z0 := HR.out.free 0; have z1 := HR.out.free 1; have z2 := HR.out.free 2; have z3 := HR.out.free 3
      clear hb
      go_wp2_with fail
      have hR2 := ((((HR.out.set 0 (.int .i64 q.k)).set 1 (.int .i64 q.a)).set 2 (.int .i64 q.b)).set 3 (.int .i64 q.c))
      have hk2 := (((HK.out.putNew (B := w.heap.size + 1) (by omega) 0 (.int .i64 q.k)).putNew (B := w.heap.size + 1) (by omega) 1 (.int .i64 q.a)).putNew (B := w.heap.size + 1) (by omega) 2 (.int .i64 q.b)).putNew (B := w.heap.size + 1) (by omega) 3 (.int .i64 q.c)
      have k0 := hR2.cell 0 rfl; have k1 := hR2.cell 1 rfl; have k2 := hR2.cell 2 rfl; have k3 := hR2.cell 3 rfl
      exact bodyPost_ret (v := .agg #[.int .i64 q.k, .int .i64 q.a, .int .i64 q.b, .int .i64 q.c]) (by simp [results, Tryd.f41, go_sem, k0, k1, k2, k3]) rfl ⟨rfl, hk2⟩
    · refine (HUS.out _).mono ?_
      rintro e w1 ⟨rfl, rfl⟩
      have HB2 : Hid (BrI o w 1 (W1.setCell ⟨w.heap.size + 1 + 1, 1, none⟩ (.int .i64 o.a))) := HB1.out.step (by omega)
      have a0 : W1.cell? ⟨w.heap.size, 1, none⟩ = some (.int .i64 o.a) := HB1.out.ho.cell 1 rfl
      have b0 : W1.cell? ⟨w.heap.size, 0, none⟩ = some (.int .i64 o.k) := HB1.out.ho.cell 0 rfl
      have c0 := HB1.out.hx.cell 1 rfl
      have d0 := HB1.out.hx.free 1
      have e0 := HB2.out.ho.cell 0 rfl
      have f0 : W1.cell? ⟨w.heap.size, 1, none⟩ = some (.int .i64 o.a) := HB1.out.ho.cell 1 rfl
      go_wp2_with fail
      generalize W1.setCell ⟨w.heap.size + 1 + 1, 1, none⟩ (.int .i64 o.a) = W2 at HB2 ⊢
      clear a0 b0 c0 d0 e0 f0 HB1
      refine (HUS.out _).mono ?_
      rintro e w1 ⟨rfl, rfl⟩
      have HB3 : Hid (BrI o w 2 (W2.setCell ⟨w.heap.size + 1 + 1, 2, none⟩ (.int .i64 o.b))) := HB2.out.step (by omega)
      have a1 : W2.cell? ⟨w.heap.size, 2, none⟩ = some (.int .i64 o.b) := HB2.out.ho.cell 2 rfl
      have b1 : W2.cell? ⟨w.heap.size, 0, none⟩ = some (.int .i64 o.k) := HB2.out.ho.cell 0 rfl
      have c1 := HB2.out.hx.cell 2 rfl
      have d1 := HB2.out.hx.free 2
      have e1 := HB3.out.ho.cell 0 rfl
      have f1 : W2.cell? ⟨w.heap.size, 2, none⟩ = some (.int .i64 o.b) := HB2.out.ho.cell 2 rfl
      go_wp2_with fail
      generalize W2.setCell ⟨w.heap.size + 1 + 1, 2, none⟩ (.int .i64 o.b) = W3 at HB3 ⊢
      clear a1 b1 c1 d1 e1 f1 HB2
      refine (HUS.out _).mono ?_
      rintro e w1 ⟨rfl, rfl⟩
      have HB4 : Hid (BrI o w 3 (W3.setCell ⟨w.heap.size + 1 + 1, 3, none⟩ (.int .i64 o.c))) := HB3.out.step (by omega)
      have a2 : W3.cell? ⟨w.heap.size, 3, none⟩ = some (.int .i64 o.c) := HB3.out.ho.cell 3 rfl
      have b2 : W3.cell? ⟨w.heap.size, 0, none⟩ = some (.int .i64 o.k) := HB3.out.ho.cell 0 rfl
      have c2 := HB3.out.hx.cell 3 rfl
      have d2 := HB3.out.hx.free 3
      have e2 := HB4.out.ho.cell 0 rfl
      have f2 : W3.cell? ⟨w.heap.size, 3, none⟩ = some (.int .i64 o.c) := HB3.out.ho.cell 3 rfl
      have hb : Blk (W3.setCell ⟨w.heap.size + 1 + 1, 3, none⟩ (.int .i64 o.c)) (w.heap.size + 1 + 1) q.cells 35 := by rw [HQ.out]; exact HB4.out.hx
      have HR := HB4.out.hr
      have HK := HB4.out.hk
      have HR := Lib.hid HR
      have HK := Lib.hid HK
      have x0 := hb.cell 0 rfl; have x1 := hb.cell 1 rfl; have x2 := hb.cell 2 rfl; have x3 := hb.cell 3 rfl
      have r0 := HR.out.cell 0 rfl; have r1 := HR.out.cell 1 rfl; have r2 := HR.out.cell 2 rfl; have r3 := HR.out.cell 3 rfl
      have z0 := HR.out.free 0; have z1 := HR.out.free 1; have z2 := HR.out.free 2; have z3 := HR.out.free 3
      clear hb
      go_wp2_with fail
      have hR2 := ((((HR.out.set 0 (.int .i64 q.k)).set 1 (.int .i64 q.a)).set 2 (.int .i64 q.b)).set 3 (.int .i64 q.c))
      have hk2 := (((HK.out.putNew (B := w.heap.size + 1) (by omega) 0 (.int .i64 q.k)).putNew (B := w.heap.size + 1) (by omega) 1 (.int .i64 q.a)).putNew (B := w.heap.size + 1) (by omega) 2 (.int .i64 q.b)).putNew (B := w.heap.size + 1) (by omega) 3 (.int .i64 q.c)
      have k0 := hR2.cell 0 rfl; have k1 := hR2.cell 1 rfl; have k2 := hR2.cell 2 rfl; have k3 := hR2.cell 3 rfl
      exact bodyPost_ret (v := .agg #[.int .i64 q.k, .int .i64 q.a, .int .i64 q.b, .int .i64 q.c]) (by simp [results, Tryd.f41, go_sem, k0, k1, k2, k3]) rfl ⟨rfl, hk2⟩
end Go.Proofs.YtdplakfmdkjfdaaDoor
