/- Numbers as text: the library's Itoa, the document's Int; a cycle's line. -/
import Derived.Test.YtcopkhhgcgfelaaDoorStats2
import Derived.Test.YtcopkhhgcgfelaaDoorShelf
import Derived.Lib.LaidTab
import Derived.Lib.ItoaLen
import Derived.Lib.AppendIntMem
import Derived.WalkSmall
import Derived.LaidLaws
import Derived.MakeChecks
import Derived.Deep.QuietTactic
import Derived.BigQuiet
namespace Go.Proofs.YtcopkhhgcgfelaaDoor
open Go.RowKit

/-- The library's table of powers reads as its initialiser lays it. -/
def Tab (w : World) : Prop := Lib.TabIs Tryd.prog w "internal/strconv.uint64pow10" .u64 Lib.pow10Tab
theorem Tab.keep {w w' : World} (h : Tab w) (k : Keep none_ w w') : Tab w' := by
  unfold Tab Lib.TabIs World.var? at *
  cases hg : Tryd.prog.globalNamed "internal/strconv.uint64pow10" with
  | none => rw [hg] at h; cases h
  | some g =>
    rw [hg] at h
    simp only [Option.bind_some] at h ⊢
    have hlt : g < w.heap.size := by
      rcases Nat.lt_or_ge g w.heap.size with hlt | hge
      · exact hlt
      · rw [Array.getElem?_eq_none hge] at h; cases h
    rw [k.block g hlt (fun f => f)]
    exact h
theorem Keep.grow_ (w : World) (k : Nat) (os : Array Obj) : Keep none_ w (Sort.grow (w.drewN k) os) := Keep.ofBelow (Lib.below_grow _ w (Nat.le_refl _) k os) none_

theorem itoa_any (n : Int) (w : World) (hn : (Lit.int .i64 n).wf = true) (ht : Tab w) : Calls Tryd.prog 18 #[.int .i64 n] w fun e w' => e = .returned (.string ⟨(Lib.itoa n).toArray⟩) ∧ Keep none_ w w' := by
  have hb := bounds_i64 hn
  refine (Tryd.strconv_Itoa n (by omega) (by omega) w ht).mono ?_
  rintro e w' ⟨rfl, k, os, rfl⟩
  exact ⟨rfl, Keep.grow_ w k os⟩

/-! Int, of a number that isn't below 0 -/
theorem itoa_nat (n : Nat) : Lib.itoa n = Lib.decDigits n := Lib.itoa_nonneg n
/-- What has been written when n is left of N: the rest's digits behind. -/
def dgt (k : Nat) : UInt8 := UInt8.ofNat (48 + k % 10)
theorem dec_step (n : Nat) (h : 10 ≤ n) : Lib.decDigits n = Lib.decDigits (n / 10) ++ [dgt n] := by
  rw [Lib.decDigits, dif_neg (by omega)]; rfl
theorem dec_small (n : Nat) (h : n < 10) : Lib.decDigits n = [dgt n] := by
  rw [Lib.decDigits_one h, dgt, Nat.mod_eq_of_lt h]
theorem cat_one (d : UInt8) (t : List UInt8) : (⟨#[d]⟩ ++ ⟨t.toArray⟩ : ByteArray) = ⟨(d :: t).toArray⟩ := by
  apply ByteArray.ext
  rw [ByteArray.data_append]
  simp
theorem dgt_nat (k : Nat) : (dgt k).toNat = 48 + k % 10 := by
  unfold dgt
  rw [UInt8.toNat_ofNat']
  omega
theorem digit_cell (k : Nat) : ((dgt k).toNat : Int) = 48 + (k : Int) % 10 := by
  rw [dgt_nat]; omega
theorem run_digit (k : Nat) (w : World) : (convert 59 9 (.slice (some ⟨w.heap.size, 0, none⟩) 1 1)).run Tryd.prog (w.alloc (.cells #[.int .u8 (48 + (k : Int) % 10)] 5)) = .ok (.string ⟨[dgt k].toArray⟩) (w.alloc (.cells #[.int .u8 (48 + (k : Int) % 10)] 5)) := by
  refine run_convert_bytes_back (P := Tryd.prog) _ 59 9 5 ⟨w.heap.size, 0, none⟩ 1 [dgt k] Tryd.underlying59 Tryd.underlying5 Tryd.underlying9 (fun j hj => ?_)
  have hj0 : j = 0 := by simpa using hj
  subst hj0
  have := (Blk.new w [.int .u8 (48 + (k : Int) % 10)] 5).cell 0 rfl
  simp only [List.getElem_cons_zero, digit_cell]
  exact this
set_option maxHeartbeats 1000000 in
theorem rInt_nat (N : Nat) (w : World) (hN : N ≤ 9223372036854775807) : Calls Tryd.prog 19 #[.int .i64 N] w fun e w' => e = .returned (.string ⟨(Lib.decDigits N).toArray⟩) ∧ Keep none_ w w' := by
  have h1 : ((N : Int) == -9223372036854775808) = false := beq_eq_false_iff_ne.2 (by omega)
  go_enter Tryd.func19, Tryd.ntmps19
  go_wp2
  go_loopg [0, 3] (2 * N + 1) (fun g n s wr => ∃ (k : Nat) (t : List UInt8), n = .int .i64 k ∧ s = .string ⟨t.toArray⟩ ∧ g = 2 * k + (if t = [] then 1 else 0) ∧ k ≤ N ∧ Hid ((t = [] ∧ k = N) ∨ (t ≠ [] ∧ Lib.decDigits N = (if k = 0 then [] else Lib.decDigits k) ++ t)) ∧ Hid (Keep none_ w wr))
  case atStart => exact ⟨N, [], rfl, rfl, by simp, Nat.le_refl _, .inl ⟨rfl, rfl⟩, Keep.refl _ _⟩
  case round =>
    obtain ⟨k, t, rfl, rfl, hg, hk, HT, HK⟩ := hrel
    have hcv := run_digit k
    have HA : Hid (∀ o, Keep none_ w (wr.alloc o)) := fun o => HK.out.alloc o
    have HD : Hid (∀ u, (if k / 10 = 0 then [] else Lib.decDigits (k / 10)) ++ dgt k :: u = Lib.decDigits k ++ u) := fun u => by
      by_cases h : k < 10
      · rw [if_pos (by omega), dec_small k h]; rfl
      · rw [if_neg (by omega), dec_step k (by omega)]; simp
    cases t with
    | nil =>
      have HC := Lib.hid (cat_one (dgt k) [])
      go_wp2
      go_roundg (2 * (k / 10))
      case measure => simp at hg; omega
      case rel => exact ⟨k / 10, [dgt k], by go_num, congrArg Value.string HC.out, by simp, by omega, .inr ⟨by simp, by
        rcases HT.out with ⟨_, h⟩ | ⟨h, _⟩
        · rw [HD.out, ← h]; simp
        · exact absurd rfl h⟩, HA.out _⟩
    | cons d t =>
      have HC := Lib.hid (cat_one (dgt k) (d :: t))
      have HE : Hid (Lib.decDigits N = (if k = 0 then [] else Lib.decDigits k) ++ d :: t) := by
        rcases HT.out with ⟨h, _⟩ | ⟨_, h⟩
        · cases h
        · exact h
      have hlen : t.length ≤ 100 := by
        have h1 := congrArg List.length HE.out
        have h2 := Lib.itoa_length_le N (by omega) (by omega)
        rw [itoa_nat] at h2
        simp at h1
        omega
      by_cases h0 : 0 < k
      · go_wp2
        go_roundg (2 * (k / 10))
        case measure => simp at hg; omega
        case rel => exact ⟨k / 10, dgt k :: d :: t, by go_num, congrArg Value.string HC.out, by simp, by omega, .inr ⟨by simp, by rw [HD.out, HE.out, if_neg (by omega)]⟩, HA.out _⟩
      · obtain rfl : k = 0 := by omega
        go_wp2
        go_ret
        exact ⟨by rw [HE.out]; rfl, HK.out⟩

/-! Int, of any number -/
set_option maxHeartbeats 1000000 in
theorem rInt_any (n : Int) (w : World) (hn : (Lit.int .i64 n).wf = true) : Calls Tryd.prog 19 #[.int .i64 n] w fun e w' => e = .returned (.string ⟨(Lib.itoa n).toArray⟩) ∧ Keep none_ w w' := by
  have hb := bounds_i64 hn
  rcases Int.lt_or_le n 0 with h | h
  · by_cases hm : n = -9223372036854775808
    · subst hm
      have HE : Hid ((.string ⟨#[45, 57, 50, 50, 51, 51, 55, 50, 48, 51, 54, 56, 53, 52, 55, 55, 53, 56, 48, 56]⟩ : Value) = .string ⟨(Lib.itoa (-9223372036854775808)).toArray⟩) := by
        unfold Hid; exact congrArg (fun l : List UInt8 => Value.string ⟨l.toArray⟩) (by decide +kernel)
      go_enter Tryd.func19, Tryd.ntmps19
      go_wp2
      go_ret
      exact ⟨congrArg Ending.returned HE.out, Keep.refl _ _⟩
    · obtain ⟨u, rfl⟩ : ∃ u : Nat, n = -(u : Int) := ⟨n.natAbs, by omega⟩
      have h1 : (-(u : Int) == -9223372036854775808) = false := beq_eq_false_iff_ne.2 hm
      have HE := Lib.hid (Lib.itoa_neg u (by omega))
      have hlen : (Lib.decDigits u).length ≤ 100 := by
        have h2 := Lib.itoa_length_le (-(u : Int)) (by omega) (by omega)
        rw [HE.out] at h2
        simp at h2
        omega
      have hu : u ≤ 9223372036854775807 := by omega
      have hu1 : 1 ≤ u := by omega
      have HC := Lib.hid (cat_one 45 (Lib.decDigits u))
      clear hm hb hn
      go_enter Tryd.func19, Tryd.ntmps19
      go_wp2_with fail
      refine (rInt_nat u _ hu).mono ?_
      rintro e w1 ⟨rfl, hk⟩
      generalize Lib.decDigits u = l at *
      go_wp2_with fail
      go_ret
      exact ⟨by rw [HE.out]; exact congrArg (fun s => Ending.returned (Value.string s)) HC.out, hk⟩
  · obtain ⟨u, rfl⟩ : ∃ u : Nat, n = (u : Int) := ⟨n.toNat, by omega⟩
    rw [itoa_nat]
    exact rInt_nat u w (by omega)
end Go.Proofs.YtcopkhhgcgfelaaDoor
