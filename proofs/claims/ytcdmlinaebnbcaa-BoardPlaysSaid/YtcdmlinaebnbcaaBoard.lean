/- What board's functions do, each said once. -/
import Derived.Test.YtcdmlinaebnbcaaRows
import Derived.Test.YtcdmlinaebnbcaaMem
import Derived.WalkKit
import Derived.WalkSpells
import Derived.WalkLawsBesides
import Derived.Deep.QuietTactic
import Derived.BigQuiet
import Derived.Lib.Hide
namespace Go.Proofs.Ytcdmlinaebnbcaa
open Go.RowKit

structure Bd where
  muts : Int
  kind : Int
  count : Int
  os : List Bool

def Bd.cells (b : Bd) : List Value := .int .i64 b.muts :: .int .i64 b.kind :: .int .i64 b.count :: b.os.map Value.bool
structure BdAt (w : World) (B : Nat) (b : Bd) : Prop where
  blk : Blk w B b.cells 76
  len : b.os.length = 8
  lo : 1 ≤ b.muts
  hi : b.muts ≤ 8

theorem BdAt.keep {S w w' B b} (h : BdAt w B b) (k : Keep S w w') (hs : ¬ S B) : BdAt w' B b := ⟨k.blk h.blk hs, h.len, h.lo, h.hi⟩

def Bd.is (b : Bd) (m : Int) : Bool := decide (0 ≤ m) && decide (m < b.muts)
def Bd.isOpen (b : Bd) (m : Int) : Bool := b.os.getD m.toNat false
def Bd.pend (b : Bd) (m : Int) : Bool := b.is m && b.isOpen m
def Bd.pendK (b : Bd) (m : Int) : Int := if b.pend m then b.kind else 0

set_option maxHeartbeats 400000 in
theorem is_nil (m : Int) (w : World) :
    Calls Try.prog 44 #[.pointer none, .int .i64 m] w fun e w' => e = .returned (.bool false) ∧ w = w' := by
  go_enter Try.func44, Try.ntmps44
  go_wp2
  go_ret
  exact ⟨rfl, rfl⟩

set_option maxHeartbeats 400000 in
theorem is_any (B : Nat) (b : Bd) (m : Int) (w : World) (hb : BdAt w B b) :
    Calls Try.prog 44 #[.pointer (some ⟨B, 0, none⟩), .int .i64 m] w fun e w' => e = .returned (.bool (b.is m)) ∧ w = w' := by
  have hc := hb.blk.cell 0 (v := .int .i64 b.muts) rfl
  clear hb
  go_enter Try.func44, Try.ntmps44
  go_wp2
  · go_ret
    exact ⟨by simp [Bd.is, *], rfl⟩
  · go_ret
    have : ¬ (0 ≤ m) := by omega
    exact ⟨by simp [Bd.is, *], rfl⟩

theorem is_yes (B : Nat) (b : Bd) (m : Int) (w : World) (hb : BdAt w B b) (h : b.is m = true) :
    Calls Try.prog 44 #[.pointer (some ⟨B, 0, none⟩), .int .i64 m] w fun e w' => e = .returned (.bool true) ∧ w = w' := by
  rw [← h]; exact is_any B b m w hb
theorem is_no (B : Nat) (b : Bd) (m : Int) (w : World) (hb : BdAt w B b) (h : b.is m = false) :
    Calls Try.prog 44 #[.pointer (some ⟨B, 0, none⟩), .int .i64 m] w fun e w' => e = .returned (.bool false) ∧ w = w' := by
  rw [← h]; exact is_any B b m w hb

theorem BdAt.openCell {w B b} (hb : BdAt w B b) {m : Int} (h : b.is m = true) : w.cell? ⟨B, 3 + m.toNat, none⟩ = some (.bool (b.isOpen m)) := by
  have hl := hb.len; have := hb.hi
  simp [Bd.is] at h
  refine hb.blk.cell _ ?_
  rw [Nat.add_comm]
  simp [Bd.cells, Bd.isOpen, List.getD_eq_getElem?_getD]
  rw [List.getElem?_eq_getElem (by omega)]; simp

set_option maxHeartbeats 400000 in
theorem pending_nil (m : Int) (w : World) :
    Calls Try.prog 23 #[.pointer none, .int .i64 m] w fun e w' => e = .returned (.tuple #[.int .i64 0, .bool false]) ∧ w = w' := by
  go_enter Try.func23, Try.ntmps23
  go_wp2_with (go_at_call 44; refine (is_nil _ _).mono ?_; rintro e w' ⟨rfl, rfl⟩)
  go_ret2
  exact ⟨rfl, rfl⟩

set_option maxHeartbeats 400000 in
theorem pending_any (B : Nat) (b : Bd) (m : Int) (w : World) (hb : BdAt w B b) :
    Calls Try.prog 23 #[.pointer (some ⟨B, 0, none⟩), .int .i64 m] w fun e w' => e = .returned (.tuple #[.int .i64 (b.pendK m), .bool (b.pend m)]) ∧ w = w' := by
  cases h : b.is m with
  | false =>
    have hp : b.pend m = false := by simp [Bd.pend, h]
    have HP := Lib.hid hp; clear hp
    go_enter Try.func23, Try.ntmps23
    go_wp2_with (go_at_call 44; refine (is_no B b m _ hb h).mono ?_; rintro e w' ⟨rfl, rfl⟩)
    go_ret2
    simp [HP.out, Bd.pendK]
  | true =>
    have hco := hb.openCell h
    have hc1 := hb.blk.cell 1 (v := .int .i64 b.kind) rfl
    have hm1 : 0 ≤ m := by simp [Bd.is] at h; exact h.1
    have hm2 : m < 8 := by have := hb.hi; simp [Bd.is] at h; omega
    have hp : b.pend m = b.isOpen m := by simp [Bd.pend, h]
    have HP := Lib.hid hp; clear hp
    cases ho : b.isOpen m with
    | false =>
      rw [ho] at hco
      go_enter Try.func23, Try.ntmps23
      go_wp2_with (go_at_call 44; refine (is_yes B b m _ hb h).mono ?_; rintro e w' ⟨rfl, rfl⟩)
      go_ret2
      simp [HP.out, ho, Bd.pendK]
    | true =>
      rw [ho] at hco
      go_enter Try.func23, Try.ntmps23
      go_wp2_with (go_at_call 44; refine (is_yes B b m _ hb h).mono ?_; rintro e w' ⟨rfl, rfl⟩)
      go_ret2
      simp [HP.out, ho, Bd.pendK]


set_option maxHeartbeats 400000 in
theorem answered_any (B : Nat) (b : Bd) (m : Int) (w : World) (hb : BdAt w B b) :
    Calls Try.prog 27 #[.pointer (some ⟨B, 0, none⟩), .int .i64 m] w fun e w' => e = .returned (.bool (b.is m && !b.isOpen m)) ∧ w = w' := by
  cases h : b.is m with
  | false =>
    go_enter Try.func27, Try.ntmps27
    go_wp2_with (go_at_call 44; refine (is_no B b m _ hb h).mono ?_; rintro e w' ⟨rfl, rfl⟩)
    go_ret
    exact ⟨rfl, rfl⟩
  | true =>
    have hco := hb.openCell h
    have hm1 : 0 ≤ m := by simp [Bd.is] at h; exact h.1
    have hm2 : m < 8 := by have := hb.hi; simp [Bd.is] at h; omega
    go_enter Try.func27, Try.ntmps27
    go_wp2_with (go_at_call 44; refine (is_yes B b m _ hb h).mono ?_; rintro e w' ⟨rfl, rfl⟩)
    go_ret
    exact ⟨rfl, rfl⟩

set_option maxHeartbeats 400000 in
theorem answered_nil (m : Int) (w : World) :
    Calls Try.prog 27 #[.pointer none, .int .i64 m] w fun e w' => e = .returned (.bool false) ∧ w = w' := by
  go_enter Try.func27, Try.ntmps27
  go_wp2_with (go_at_call 44; refine (is_nil _ _).mono ?_; rintro e w' ⟨rfl, rfl⟩)
  go_ret
  exact ⟨rfl, rfl⟩

set_option maxHeartbeats 400000 in
theorem count_nil (w : World) :
    Calls Try.prog 22 #[.pointer none] w fun e w' => e = .returned (.int .i64 0) ∧ w = w' := by
  go_enter Try.func22, Try.ntmps22
  go_wp2
  go_ret
  exact ⟨rfl, rfl⟩

set_option maxHeartbeats 400000 in
theorem count_any (B : Nat) (b : Bd) (w : World) (hb : BdAt w B b) :
    Calls Try.prog 22 #[.pointer (some ⟨B, 0, none⟩)] w fun e w' => e = .returned (.int .i64 b.count) ∧ w = w' := by
  have hc := hb.blk.cell 2 (v := .int .i64 b.count) rfl
  clear hb
  go_enter Try.func22, Try.ntmps22
  go_wp2
  go_ret
  exact ⟨rfl, rfl⟩

def firstTrue : List Bool → Int → Int
  | [], _ => -1
  | x :: l, i => if x then i else firstTrue l (i + 1)
def anyTrue (l : List Bool) : Bool := l.any id
theorem firstTrue_ge (l : List Bool) (i : Int) (hi : 0 ≤ i) : decide (0 ≤ firstTrue l i) = anyTrue l := by
  induction l generalizing i with
  | nil => simp [firstTrue, anyTrue]
  | cons x l ih =>
    cases x
    · simpa [firstTrue, anyTrue] using ih (i + 1) (by omega)
    · simp [firstTrue, anyTrue, hi]

set_option maxHeartbeats 400000 in
theorem all1_any (x : Bool) (w : World) :
    Calls Try.prog 46 #[.bool x] w fun e w' => e = .returned (.bool x) ∧ w = w' := by
  go_enter Try.func46, Try.ntmps46
  go_wp2
  go_ret
  exact ⟨rfl, rfl⟩

set_option maxHeartbeats 400000 in
theorem idxB_any (B off : Nat) (l : List Bool) (w : World) (hc : ∀ i, (h : i < l.length) → w.cell? ⟨B, off + i, none⟩ = some (.bool l[i])) (hl : l.length ≤ 1000) :
    Calls Try.prog 54 #[.slice (some ⟨B, off, none⟩) l.length l.length, .func (.func 46) #[] #[]] w fun e w' => e = .returned (.int .i64 (firstTrue l 0)) ∧ w = w' := by
  go_enter Try.func54, Try.ntmps54
  go_wp2
  go_outline
  go_loop [8] (fun i => ∃ k : Nat, k ≤ l.length ∧ i = .int .i64 k ∧ firstTrue l 0 = firstTrue (l.drop k) k) (fun i => l.length - (intOf i).toNat)
  case atStart => exact ⟨0, Nat.zero_le _, rfl, rfl⟩
  case round =>
    obtain ⟨k, hk, rfl, hr⟩ := hrel
    have HR := Lib.hid hr; clear hr
    by_cases hlt : k < l.length
    · have hk1 := hc k hlt
      have e1 : l.drop k = l[k] :: l.drop (k + 1) := by simp
      cases hx : l[k] with
      | true =>
        rw [hx] at hk1
        rw [hx] at e1
        have HE := Lib.hid e1; clear e1 hx hc
        go_wp2_with (go_at_call 46; refine (all1_any _ _).mono ?_; rintro e w' ⟨rfl, rfl⟩)
        go_ret
        refine ⟨?_, rfl⟩
        rw [HR.out, HE.out]; rfl
      | false =>
        rw [hx] at hk1
        rw [hx] at e1
        have HE := Lib.hid e1; clear e1 hx hc
        go_wp2_with (go_at_call 46; refine (all1_any _ _).mono ?_; rintro e w' ⟨rfl, rfl⟩)
        go_round
        case rel => exact ⟨k + 1, by omega, by go_num, by rw [HR.out, HE.out]; rfl⟩
        case measure => simp [intOf]; omega
    · have : l.drop k = [] := List.drop_of_length_le (by omega)
      have HE := Lib.hid this; clear this hc
      go_wp2
      go_ret
      refine ⟨?_, rfl⟩
      rw [HR.out, HE.out]; rfl

end Go.Proofs.Ytcdmlinaebnbcaa
