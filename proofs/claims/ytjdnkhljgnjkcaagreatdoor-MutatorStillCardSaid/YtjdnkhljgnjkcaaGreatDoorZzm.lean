/- Parts of a walk, put together by a small program of mine from texts of their own: BdX QuX Op1 Op2. -/
import Derived.Test.YtjdnkhljgnjkcaaGreatDoorRows
import Derived.Test.YtjdnkhljgnjkcaaGreatDoorZza
import Derived.WalkKit
import Derived.WalkSpells
import Derived.WalkLawsBesides
import Derived.Deep.QuietTactic
import Derived.BigQuiet
import Derived.Lib.Hide
import Derived.Test.YtjdnkhljgnjkcaaGreatDoorZzi
import Derived.RegionTactic
import Derived.Laws.CopyOwn
import Derived.BigRegion
import Derived.Deep.LoopGhost
import Derived.Test.YtjdnkhljgnjkcaaGreatDoorZzb
import Derived.Laws.IdiomStrings
/- What a board's functions do (for seats that hold more than the board). -/

namespace Go.Proofs.YtjdnkhljgnjkcaaGreatDoor
open Go.RowKit

structure Bd where
  muts : Int
  kind : Int
  count : Int
  os : List Bool

def Bd.cells (b : Bd) : List Value := .int .i64 b.muts :: .int .i64 b.kind :: .int .i64 b.count :: b.os.map Value.bool
structure BdAt (w : World) (B : Nat) (b : Bd) : Prop where
  blk : Blk w B b.cells 124
  len : b.os.length = 8
  lo : 1 ≤ b.muts
  hi : b.muts ≤ 8

theorem BdAt.keep {S w w' B b} (h : BdAt w B b) (k : Keep S w w') (hs : ¬ S B) : BdAt w' B b := ⟨k.blk h.blk hs, h.len, h.lo, h.hi⟩

def Bd.is (b : Bd) (m : Int) : Bool := decide (0 ≤ m) && decide (m < b.muts)
def Bd.isOpen (b : Bd) (m : Int) : Bool := b.os.getD m.toNat false
def Bd.pend (b : Bd) (m : Int) : Bool := b.is m && b.isOpen m
def Bd.pendK (b : Bd) (m : Int) : Int := if b.pend m then b.kind else 0

set_option maxHeartbeats 400000 in
theorem bd_is_nil (m : Int) (w : World) :
    Calls Tryz.prog 128 #[.pointer none, .int .i64 m] w fun e w' => e = .returned (.bool false) ∧ w = w' := by
  go_enter Tryz.func128, Tryz.ntmps128
  go_wp2
  go_ret
  exact ⟨rfl, rfl⟩

set_option maxHeartbeats 400000 in
theorem bd_is_any (B : Nat) (b : Bd) (m : Int) (w : World) (hb : BdAt w B b) :
    Calls Tryz.prog 128 #[.pointer (some ⟨B, 0, none⟩), .int .i64 m] w fun e w' => e = .returned (.bool (b.is m)) ∧ w = w' := by
  have hc := hb.blk.cell 0 (v := .int .i64 b.muts) rfl
  clear hb
  go_enter Tryz.func128, Tryz.ntmps128
  go_wp2
  · go_ret
    exact ⟨by simp [Bd.is, *], rfl⟩
  · go_ret
    have : ¬ (0 ≤ m) := by omega
    exact ⟨by simp [Bd.is, *], rfl⟩

theorem bd_is_yes (B : Nat) (b : Bd) (m : Int) (w : World) (hb : BdAt w B b) (h : b.is m = true) :
    Calls Tryz.prog 128 #[.pointer (some ⟨B, 0, none⟩), .int .i64 m] w fun e w' => e = .returned (.bool true) ∧ w = w' := by
  rw [← h]; exact bd_is_any B b m w hb
theorem bd_is_no (B : Nat) (b : Bd) (m : Int) (w : World) (hb : BdAt w B b) (h : b.is m = false) :
    Calls Tryz.prog 128 #[.pointer (some ⟨B, 0, none⟩), .int .i64 m] w fun e w' => e = .returned (.bool false) ∧ w = w' := by
  rw [← h]; exact bd_is_any B b m w hb

theorem BdAt.openCell {w B b} (hb : BdAt w B b) {m : Int} (h : b.is m = true) : w.cell? ⟨B, 3 + m.toNat, none⟩ = some (.bool (b.isOpen m)) := by
  have hl := hb.len; have := hb.hi
  simp [Bd.is] at h
  refine hb.blk.cell _ ?_
  rw [Nat.add_comm]
  simp [Bd.cells, Bd.isOpen, List.getD_eq_getElem?_getD]
  rw [List.getElem?_eq_getElem (by omega)]; simp

set_option maxHeartbeats 400000 in
theorem bd_pending_nil (m : Int) (w : World) :
    Calls Tryz.prog 93 #[.pointer none, .int .i64 m] w fun e w' => e = .returned (.tuple #[.int .i64 0, .bool false]) ∧ w = w' := by
  go_enter Tryz.func93, Tryz.ntmps93
  go_wp2_with (go_at_call 128; refine (bd_is_nil _ _).mono ?_; rintro e w' ⟨rfl, rfl⟩)
  go_ret2
  exact ⟨rfl, rfl⟩

set_option maxHeartbeats 400000 in
theorem bd_pending_any (B : Nat) (b : Bd) (m : Int) (w : World) (hb : BdAt w B b) :
    Calls Tryz.prog 93 #[.pointer (some ⟨B, 0, none⟩), .int .i64 m] w fun e w' => e = .returned (.tuple #[.int .i64 (b.pendK m), .bool (b.pend m)]) ∧ w = w' := by
  cases h : b.is m with
  | false =>
    have hp : b.pend m = false := by simp [Bd.pend, h]
    have HP := Lib.hid hp; clear hp
    go_enter Tryz.func93, Tryz.ntmps93
    go_wp2_with (go_at_call 128; refine (bd_is_no B b m _ hb h).mono ?_; rintro e w' ⟨rfl, rfl⟩)
    go_ret2
    simp [HP.out, Bd.pendK]
  | true =>
    have hco := hb.openCell h
    have hc1 := hb.blk.cell 1 (v := .int .i64 b.kind) rfl
    have hm1 : 0 ≤ m := by simp [Bd.is] at h; exact h.1
    have hm2 : m < 8 := by have := hb.hi; simp [Bd.is] at h; omega
    have hp : b.pend m = b.isOpen m := by simp [Bd.pend, h]
    have HP := Lib.hid hp; clear hp
    cases ho : b.isOpen m with
    | false =>
      rw [ho] at hco
      go_enter Tryz.func93, Tryz.ntmps93
      go_wp2_with (go_at_call 128; refine (bd_is_yes B b m _ hb h).mono ?_; rintro e w' ⟨rfl, rfl⟩)
      go_ret2
      simp [HP.out, ho, Bd.pendK]
    | true =>
      rw [ho] at hco
      go_enter Tryz.func93, Tryz.ntmps93
      go_wp2_with (go_at_call 128; refine (bd_is_yes B b m _ hb h).mono ?_; rintro e w' ⟨rfl, rfl⟩)
      go_ret2
      simp [HP.out, ho, Bd.pendK]


def firstTrue : List Bool → Int → Int
  | [], _ => -1
  | x :: l, i => if x then i else firstTrue l (i + 1)
def anyTrue (l : List Bool) : Bool := l.any id
theorem bd_firstTrue_ge (l : List Bool) (i : Int) (hi : 0 ≤ i) : decide (0 ≤ firstTrue l i) = anyTrue l := by
  induction l generalizing i with
  | nil => simp [firstTrue, anyTrue]
  | cons x l ih =>
    cases x
    · simpa [firstTrue, anyTrue] using ih (i + 1) (by omega)
    · simp [firstTrue, anyTrue, hi]

set_option maxHeartbeats 400000 in
theorem bd_all1_any (x : Bool) (w : World) :
    Calls Tryz.prog 69 #[.bool x] w fun e w' => e = .returned (.bool x) ∧ w = w' := by
  go_enter Tryz.func69, Tryz.ntmps69
  go_wp2
  go_ret
  exact ⟨rfl, rfl⟩

set_option maxHeartbeats 400000 in
theorem bd_idxB_any (B off : Nat) (l : List Bool) (w : World) (hc : ∀ i, (h : i < l.length) → w.cell? ⟨B, off + i, none⟩ = some (.bool l[i])) (hl : l.length ≤ 1000) :
    Calls Tryz.prog 113 #[.slice (some ⟨B, off, none⟩) l.length l.length, .func (.func 69) #[] #[]] w fun e w' => e = .returned (.int .i64 (firstTrue l 0)) ∧ w = w' := by
  go_enter Tryz.func113, Tryz.ntmps113
  go_wp2
  go_outline
  go_loop [8] (fun i => ∃ k : Nat, k ≤ l.length ∧ i = .int .i64 k ∧ firstTrue l 0 = firstTrue (l.drop k) k) (fun i => l.length - (intOf i).toNat)
  case atStart => exact ⟨0, Nat.zero_le _, rfl, rfl⟩
  case round =>
    obtain ⟨k, hk, rfl, hr⟩ := hrel
    have HR := Lib.hid hr; clear hr
    by_cases hlt : k < l.length
    · have hk1 := hc k hlt
      have e1 : l.drop k = l[k] :: l.drop (k + 1) := by simp
      cases hx : l[k] with
      | true =>
        rw [hx] at hk1
        rw [hx] at e1
        have HE := Lib.hid e1; clear e1 hx hc
        go_wp2_with (go_at_call 69; refine (bd_all1_any _ _).mono ?_; rintro e w' ⟨rfl, rfl⟩)
        go_ret
        refine ⟨?_, rfl⟩
        rw [HR.out, HE.out]; rfl
      | false =>
        rw [hx] at hk1
        rw [hx] at e1
        have HE := Lib.hid e1; clear e1 hx hc
        go_wp2_with (go_at_call 69; refine (bd_all1_any _ _).mono ?_; rintro e w' ⟨rfl, rfl⟩)
        go_round
        case rel => exact ⟨k + 1, by omega, by go_num, by rw [HR.out, HE.out]; rfl⟩
        case measure => simp [intOf]; omega
    · have : l.drop k = [] := List.drop_of_length_le (by omega)
      have HE := Lib.hid this; clear this hc
      go_wp2
      go_ret
      refine ⟨?_, rfl⟩
      rw [HR.out, HE.out]; rfl


theorem BdAt.openAt {w B b} (hb : BdAt w B b) (i : Nat) (h : i < b.os.length) : w.cell? ⟨B, 3 + i, none⟩ = some (.bool b.os[i]) := by
  refine hb.blk.cell _ ?_
  rw [Nat.add_comm]
  simp [Bd.cells, h]

set_option maxHeartbeats 400000 in
theorem bd_contB_any (B off : Nat) (l : List Bool) (w : World) (hc : ∀ i, (h : i < l.length) → w.cell? ⟨B, off + i, none⟩ = some (.bool l[i])) (hl : l.length ≤ 1000) :
    Calls Tryz.prog 68 #[.slice (some ⟨B, off, none⟩) l.length l.length, .func (.func 69) #[] #[]] w fun e w' => e = .returned (.bool (anyTrue l)) ∧ w = w' := by
  have hge := bd_firstTrue_ge l 0 (by omega)
  have HC := Lib.hid hc; have HG := Lib.hid hge; clear hc hge
  go_enter Tryz.func68, Tryz.ntmps68
  go_wp2_with (go_at_call 113; refine (bd_idxB_any _ _ _ _ HC.out hl).mono ?_; rintro e w' ⟨rfl, rfl⟩)
  go_ret
  exact ⟨by rw [← HG.out]; rfl, rfl⟩

set_option maxHeartbeats 400000 in
theorem bd_all_nil (w : World) :
    Calls Tryz.prog 28 #[.pointer none] w fun e w' => e = .returned (.bool false) ∧ w = w' := by
  go_enter Tryz.func28, Tryz.ntmps28
  go_wp2
  go_ret
  exact ⟨rfl, rfl⟩

def Bd.all (b : Bd) : Bool := !anyTrue b.os

set_option maxHeartbeats 400000 in
theorem bd_all_any (B : Nat) (b : Bd) (w : World) (hb : BdAt w B b) :
    Calls Tryz.prog 28 #[.pointer (some ⟨B, 0, none⟩)] w fun e w' => e = .returned (.bool b.all) ∧ w = w' := by
  have hc := hb.openAt
  have hl := hb.len
  have HC := Lib.hid hc; have HL := Lib.hid hl; clear hc hl hb
  have key : ∀ w0, w0 = w → Calls Tryz.prog 68 #[.slice (some ⟨B, 3, none⟩) 8 8, .func (.func 69) #[] #[]] w0 fun e w' => e = .returned (.bool (anyTrue b.os)) ∧ w0 = w' := by
    intro w0 h0
    subst h0
    have := bd_contB_any B 3 b.os w0 HC.out (by rw [HL.out]; omega)
    rw [HL.out] at this; exact this
  have KEY := Lib.hid key; clear key
  go_enter Tryz.func28, Tryz.ntmps28
  go_wp2_with (go_at_call 68; refine (KEY.out _ rfl).mono ?_; rintro e w' ⟨rfl, rfl⟩)
  go_ret
  exact ⟨rfl, rfl⟩

set_option maxHeartbeats 400000 in
theorem bd_answer_nil (m : Int) (w : World) :
    Calls Tryz.prog 132 #[.pointer none, .int .i64 m] w fun e w' => e = .returned (.int .i64 11) ∧ w = w' := by
  go_enter Tryz.func132, Tryz.ntmps132
  go_wp2
  go_ret
  exact ⟨rfl, rfl⟩

def Bd.close (b : Bd) (m : Int) : Bd := { b with os := b.os.set m.toNat false }
/-- What Answer tells, and the board behind it. -/
def Bd.ansE (b : Bd) (m : Int) : Int := if b.is m then (if b.isOpen m then 0 else 11) else 4
def Bd.ansB (b : Bd) (m : Int) : Bd := if b.pend m then b.close m else b

theorem BdAt.close {w B b} (hb : BdAt w B b) (m : Int) : BdAt (w.setCell ⟨B, 3 + m.toNat, none⟩ (.bool false)) B (b.close m) := by
  refine ⟨?_, by simp [Bd.close, hb.len], hb.lo, hb.hi⟩
  have := hb.blk.set (3 + m.toNat) (.bool false)
  rw [Nat.add_comm] at this ⊢
  simpa [Bd.cells, Bd.close, List.map_set] using this

set_option maxHeartbeats 400000 in
theorem bd_answer_any (B : Nat) (b : Bd) (m : Int) (w : World) (hb : BdAt w B b) :
    Calls Tryz.prog 132 #[.pointer (some ⟨B, 0, none⟩), .int .i64 m] w fun e w' => e = .returned (.int .i64 (b.ansE m)) ∧ BdAt w' B (b.ansB m) ∧ Keep (only B) w w' := by
  cases h : b.is m with
  | false =>
    have HE : Hid (b.ansE m = 4 ∧ b.ansB m = b) := by simp [Hid, Bd.ansE, Bd.ansB, Bd.pend, h]
    go_enter Tryz.func132, Tryz.ntmps132
    go_wp2_with (go_at_call 128; refine (bd_is_no B b m _ hb h).mono ?_; rintro e w' ⟨rfl, rfl⟩)
    go_ret
    rw [HE.out.1, HE.out.2]
    exact ⟨rfl, hb, Keep.refl _ _⟩
  | true =>
    have hco := hb.openCell h
    have hm1 : 0 ≤ m := by simp [Bd.is] at h; exact h.1
    have hm2 : m < 8 := by have := hb.hi; simp [Bd.is] at h; omega
    cases ho : b.isOpen m with
    | false =>
      have HE : Hid (b.ansE m = 11 ∧ b.ansB m = b) := by simp [Hid, Bd.ansE, Bd.ansB, Bd.pend, h, ho]
      rw [ho] at hco
      go_enter Tryz.func132, Tryz.ntmps132
      go_wp2_with (go_at_call 128; refine (bd_is_yes B b m _ hb h).mono ?_; rintro e w' ⟨rfl, rfl⟩)
      go_ret
      rw [HE.out.1, HE.out.2]
      exact ⟨rfl, hb, Keep.refl _ _⟩
    | true =>
      have HE : Hid (b.ansE m = 0 ∧ b.ansB m = b.close m) := by simp [Hid, Bd.ansE, Bd.ansB, Bd.pend, h, ho]
      have hfz := hb.blk.free (3 + m.toNat)
      have HB := Lib.hid (hb.close m)
      rw [ho] at hco
      go_enter Tryz.func132, Tryz.ntmps132
      go_wp2_with (go_at_call 128; refine (bd_is_yes B b m _ hb h).mono ?_; rintro e w' ⟨rfl, rfl⟩)
      go_ret
      rw [HE.out.1, HE.out.2]
      exact ⟨rfl, HB.out, (Keep.refl (only B) _).put _ _⟩

set_option maxHeartbeats 400000 in
theorem bd_new_no (m : Int) (w : World) (h : m < 1 ∨ 8 < m) :
    Calls Tryz.prog 45 #[.int .i64 m] w fun e w' => e = .returned (.tuple #[.pointer none, .int .i64 4]) ∧ w = w' := by
  rcases h with h | h
  · go_enter Tryz.func45, Tryz.ntmps45
    go_wp2
    go_ret2
    exact ⟨rfl, rfl⟩
  · have h' : ¬ m < 1 := by omega
    go_enter Tryz.func45, Tryz.ntmps45
    go_wp2
    go_ret2
    exact ⟨rfl, rfl⟩

def Bd.new (m : Int) : Bd := ⟨m, 0, 0, List.replicate 8 false⟩

set_option maxHeartbeats 400000 in
theorem bd_new_yes (m : Int) (w : World) (h : 1 ≤ m) (h8 : m ≤ 8) :
    Calls Tryz.prog 45 #[.int .i64 m] w fun e w' => e = .returned (.tuple #[.pointer (some ⟨w.heap.size, 0, none⟩), .int .i64 0]) ∧ BdAt w' w.heap.size (Bd.new m) ∧ Keep none_ w w' := by
  have HN : ∀ w : World, Hid (BdAt (w.alloc (.cells (Bd.new m).cells.toArray 124)) w.heap.size (Bd.new m)) := fun w => ⟨Blk.new w (Bd.new m).cells 124, rfl, h, h8⟩
  go_enter Tryz.func45, Tryz.ntmps45
  go_wp2
  go_ret2
  exact ⟨rfl, (HN w).out, (Keep.refl _ _).alloc _⟩


def setTrue : Nat → List Bool → List Bool
  | 0, l => l
  | k + 1, l => (setTrue k l).set k true
theorem bd_setTrue_len (k : Nat) (l : List Bool) : (setTrue k l).length = l.length := by
  induction k with
  | zero => rfl
  | succ k ih => simp [setTrue, ih]
def Bd.asked (b : Bd) (kind : Int) (k : Nat) : Bd := ⟨b.muts, kind, b.count + 1, setTrue k b.os⟩
/-- What Ask tells, and the board behind it. -/
def Bd.askE (b : Bd) : Int := if b.all then 0 else 11
def Bd.askB (b : Bd) (kind : Int) : Bd := if b.all then b.asked kind b.muts.toNat else b

theorem BdAt.asked0 {w B b} (hb : BdAt w B b) (kind : Int) : BdAt ((w.setCell ⟨B, 1, none⟩ (.int .i64 kind)).setCell ⟨B, 2, none⟩ (.int .i64 (b.count + 1))) B (b.asked kind 0) :=
  ⟨by simpa [Bd.cells, Bd.asked, setTrue] using (hb.blk.set 1 (.int .i64 kind)).set 2 (.int .i64 (b.count + 1)), hb.len, hb.lo, hb.hi⟩
theorem BdAt.askedS {w B b kind k} (hb : BdAt w B (Bd.asked b kind k)) : BdAt (w.setCell ⟨B, 3 + k, none⟩ (.bool true)) B (b.asked kind (k + 1)) := by
  refine ⟨?_, by have := hb.len; simp [Bd.asked, setTrue] at *; exact this, hb.lo, hb.hi⟩
  have := hb.blk.set (3 + k) (.bool true)
  rw [Nat.add_comm] at this ⊢
  simpa [Bd.cells, Bd.asked, setTrue, List.map_set] using this

set_option maxHeartbeats 400000 in
theorem bd_ask_nil (m : Int) (w : World) :
    Calls Tryz.prog 27 #[.pointer none, .int .i64 m] w fun e w' => e = .returned (.int .i64 11) ∧ w = w' := by
  go_enter Tryz.func27, Tryz.ntmps27
  go_wp2_with (go_at_call 28; refine (bd_all_nil _).mono ?_; rintro e w' ⟨rfl, rfl⟩)
  go_ret
  exact ⟨rfl, rfl⟩

set_option maxHeartbeats 400000 in
theorem bd_ask_any (B : Nat) (b : Bd) (kind : Int) (w : World) (hb : BdAt w B b) (hk0 : 0 ≤ b.count) (hk1 : b.count ≤ 1000000000) :
    Calls Tryz.prog 27 #[.pointer (some ⟨B, 0, none⟩), .int .i64 kind] w fun e w' => e = .returned (.int .i64 b.askE) ∧ BdAt w' B (b.askB kind) ∧ Keep (only B) w w' := by
  cases h : b.all with
  | false =>
    have HE : Hid (b.askE = 11 ∧ b.askB kind = b) := by simp [Hid, Bd.askE, Bd.askB, h]
    have key : Calls Tryz.prog 28 #[.pointer (some ⟨B, 0, none⟩)] w fun e w' => e = .returned (.bool false) ∧ w = w' := by
      rw [← h]; exact bd_all_any B b w hb
    have KEY := Lib.hid key; clear key
    go_enter Tryz.func27, Tryz.ntmps27
    go_wp2_with (go_at_call 28; refine KEY.out.mono ?_; rintro e w' ⟨rfl, rfl⟩)
    go_ret
    rw [HE.out.1, HE.out.2]
    exact ⟨rfl, hb, Keep.refl _ _⟩
  | true =>
    have HE : Hid (b.askE = 0 ∧ b.askB kind = b.asked kind b.muts.toNat) := by simp [Hid, Bd.askE, Bd.askB, h]
    have key : Calls Tryz.prog 28 #[.pointer (some ⟨B, 0, none⟩)] w fun e w' => e = .returned (.bool true) ∧ w = w' := by
      rw [← h]; exact bd_all_any B b w hb
    have KEY := Lib.hid key; clear key
    have hc0 := hb.blk.cell 0 (v := .int .i64 b.muts) rfl
    have hc1 := hb.blk.cell 1 (v := .int .i64 b.kind) rfl
    have hc2 := hb.blk.cell 2 (v := .int .i64 b.count) rfl
    have hf1 := hb.blk.free 1
    have hf2 := hb.blk.free 2
    have hmu := hb.hi
    have hml := hb.lo
    have H0 := Lib.hid (hb.asked0 kind)
    go_enter Tryz.func27, Tryz.ntmps27
    go_wp2_with (go_at_call 28; refine KEY.out.mono ?_; rintro e w' ⟨rfl, rfl⟩)
    go_loopw [24] (fun i wr => ∃ k : Nat, k ≤ b.muts.toNat ∧ i = .int .i64 k ∧ BdAt wr B (b.asked kind k) ∧ Keep (only B) w wr) (fun i _ => b.muts.toNat - (intOf i).toNat)
    case atStart => exact ⟨0, Nat.zero_le _, rfl, H0.out, ((Keep.refl (only B) _).put _ _).put _ _⟩
    case round =>
      obtain ⟨k, hk, rfl, hbk, hkeep⟩ := hrel
      by_cases hlt : (k : Int) < b.muts
      · have hfz := hbk.blk.free (3 + k)
        have hcl : wr.cell? ⟨B, 3 + k, none⟩ = some (.bool (b.asked kind k).os[k]!) := by
          have hl := hbk.len
          rw [hbk.openAt k (by omega)]
          rw [getElem!_pos _ _ (by omega)]
        have HB := Lib.hid hbk.askedS
        go_wp2
        go_roundw
        case rel => exact ⟨k + 1, by omega, by go_num, HB.out, hkeep.put _ _⟩
        case measure => simp [intOf]; omega
      · have e1 : k = b.muts.toNat := by omega
        have HK := Lib.hid e1; clear e1
        go_wp2
        go_ret
        rw [HE.out.1, HE.out.2, ← HK.out]
        exact ⟨rfl, hbk, hkeep⟩

/-! The same, with what is told under a name of its own. -/
theorem bd_pending_is {B : Nat} {b : Bd} {m : Int} {w : World} {p : Bool} {k : Int} (hb : BdAt w B b) (h1 : b.pend m = p) (h2 : b.pendK m = k) :
    Calls Tryz.prog 93 #[.pointer (some ⟨B, 0, none⟩), .int .i64 m] w fun e w' => e = .returned (.tuple #[.int .i64 k, .bool p]) ∧ w = w' := by
  rw [← h1, ← h2]; exact bd_pending_any B b m w hb
theorem bd_all_is {B : Nat} {b : Bd} {w : World} {p : Bool} (hb : BdAt w B b) (h1 : b.all = p) :
    Calls Tryz.prog 28 #[.pointer (some ⟨B, 0, none⟩)] w fun e w' => e = .returned (.bool p) ∧ w = w' := by
  rw [← h1]; exact bd_all_any B b w hb

theorem bd_answer_is {B : Nat} {b b' : Bd} {m : Int} {w : World} {c : Int} (hb : BdAt w B b) (h1 : b.ansE m = c) (h2 : b.ansB m = b') :
    Calls Tryz.prog 132 #[.pointer (some ⟨B, 0, none⟩), .int .i64 m] w fun e w' => e = .returned (.int .i64 c) ∧ BdAt w' B b' ∧ Keep (only B) w w' := by
  rw [← h1, ← h2]; exact bd_answer_any B b m w hb
theorem bd_ask_is {B : Nat} {b b' : Bd} {kind : Int} {w : World} {c : Int} (hb : BdAt w B b) (hk : 0 ≤ b.count ∧ b.count ≤ 1000000000) (h1 : b.askE = c) (h2 : b.askB kind = b') :
    Calls Tryz.prog 27 #[.pointer (some ⟨B, 0, none⟩), .int .i64 kind] w fun e w' => e = .returned (.int .i64 c) ∧ BdAt w' B b' ∧ Keep (only B) w w' := by
  rw [← h1, ← h2]; exact bd_ask_any B b kind w hb hk.1 hk.2

end Go.Proofs.YtjdnkhljgnjkcaaGreatDoor

/- What a queue's functions do, its rows being nobody's to write (for seats that hold more than the queue). -/
namespace Go.Proofs.YtjdnkhljgnjkcaaGreatDoor
open Go.RowKit

theorem RowO.keepB {o : Ow} {w w' : World} {T : TypeId} {v : Value} {xs : List Value} {B : Nat} (h : RowO o w T v xs) (k : Keep (only B) w w') (ho : o B ≠ 0) : RowO o w' T v xs := h.keep k (fun b hb e => by unfold only at e; subst e; exact ho hb)

structure Qu where
  rows : List (List Int)
  opn : Nat

structure QuAt (o : Ow) (w : World) (B : Nat) (q : Qu) : Prop where
  own : o B ≠ 0
  len : q.rows.length = 4
  blk : ∃ vs : List Value, vs.length = 4 ∧ Blk w B (vs ++ [.int .i64 q.opn]) 153 ∧ ∀ (i : Nat) (v : Value) (zs : List Int), vs[i]? = some v → q.rows[i]? = some zs → RowO o w 3 v (zs.map (Value.int .i64))

def cls (k : Int) : Bool := decide (0 ≤ k) && decide (k < 4)

set_option maxHeartbeats 400000 in
theorem cIs_any (k : Int) (w : World) : Calls Tryz.prog 152 #[.int .i64 k] w fun e w' => e = .returned (.bool (cls k)) ∧ w = w' := by
  go_enter Tryz.func152, Tryz.ntmps152
  go_wp2
  · go_ret
    exact ⟨by simp [cls, *], rfl⟩
  · go_ret
    have : ¬ 0 ≤ k := by omega
    exact ⟨by simp [cls, *], rfl⟩
theorem cIs_is {k : Int} {w : World} {p : Bool} (h : cls k = p) : Calls Tryz.prog 152 #[.int .i64 k] w fun e w' => e = .returned (.bool p) ∧ w = w' := by
  rw [← h]; exact cIs_any k w

set_option maxHeartbeats 400000 in
theorem qNew_any (o : Ow) (w : World) (hB : o w.heap.size ≠ 0) : Calls Tryz.prog 46 #[] w fun e w' => e = .returned (.pointer (some ⟨w.heap.size, 0, none⟩)) ∧ QuAt o w' w.heap.size ⟨[[], [], [], []], 0⟩ ∧ Keep none_ w w' := by
  have HN : Hid (QuAt o (w.alloc (.cells #[.slice none 0 0, .slice none 0 0, .slice none 0 0, .slice none 0 0, .int .i64 0] 153)) w.heap.size ⟨[[], [], [], []], 0⟩) := by
    refine ⟨hB, rfl, [.slice none 0 0, .slice none 0 0, .slice none 0 0, .slice none 0 0], rfl, Blk.new w _ 153, fun i v zs h1 h2 => ?_⟩
    match i with
    | 0 => simp at h1 h2; subst h1 h2; exact RowO.nil _ _ _
    | 1 => simp at h1 h2; subst h1 h2; exact RowO.nil _ _ _
    | 2 => simp at h1 h2; subst h1 h2; exact RowO.nil _ _ _
    | 3 => simp at h1 h2; subst h1 h2; exact RowO.nil _ _ _
    | n + 4 => simp at h1
  go_enter Tryz.func46, Tryz.ntmps46
  go_wp2
  go_ret
  exact ⟨rfl, HN.out, (Keep.refl _ _).alloc _⟩

/-! A queue that isn't there. -/
set_option maxHeartbeats 400000 in
theorem qTake_nil (k : Int) (w : World) : Calls Tryz.prog 228 #[.pointer none, .int .i64 k] w fun e w' => e = .returned (.tuple #[.int .i64 0, .int .i64 11]) ∧ w = w' := by
  go_enter Tryz.func228, Tryz.ntmps228
  go_wp2
  go_ret2
  exact ⟨rfl, rfl⟩
set_option maxHeartbeats 400000 in
theorem qDone_nil (w : World) : Calls Tryz.prog 235 #[.pointer none] w fun e w' => e = .returned (.int .i64 11) ∧ w = w' := by
  go_enter Tryz.func235, Tryz.ntmps235
  go_wp2
  go_ret
  exact ⟨rfl, rfl⟩
def Qu.row (q : Qu) (k : Int) : List Int := q.rows.getD k.toNat []
def Qu.len (q : Qu) (k : Int) : Int := if cls k then (q.row k).length else 0

/-- The class's row, as it lies. -/
theorem QuAt.at_ {o : Ow} {w B q} (h : QuAt o w B q) {k : Int} (hk : cls k = true) : ∃ a n c, w.cell? ⟨B, k.toNat, none⟩ = some (.slice a n c) ∧ RowO o w 3 (.slice a n c) ((q.row k).map (Value.int .i64)) ∧ n = (q.row k).length := by
  obtain ⟨ho, hl, vs, hv, hb, hr⟩ := h
  have hk' : k.toNat < 4 := by simp [cls] at hk; omega
  have h1 : vs[k.toNat]? = some (vs[k.toNat]'(by omega)) := List.getElem?_eq_getElem _
  have h2 : q.rows[k.toNat]? = some (q.row k) := by
    rw [Qu.row, List.getD_eq_getElem?_getD, List.getElem?_eq_getElem (by omega)]; rfl
  have hrow := hr _ _ _ h1 h2
  obtain ⟨a, c, e, h3⟩ := id hrow
  refine ⟨a, _, c, ?_, e ▸ hrow, by simp⟩
  rw [← e]
  refine hb.cell _ ?_
  rw [List.getElem?_append_left (by omega)]; exact h1

theorem QuAt.open_ {o : Ow} {w B q} (h : QuAt o w B q) : w.cell? ⟨B, 4, none⟩ = some (.int .i64 q.opn) := by
  obtain ⟨ho, hl, vs, hv, hb, hr⟩ := h
  refine hb.cell _ ?_
  rw [List.getElem?_append_right (by omega), hv]; rfl
theorem QuAt.free {o : Ow} {w B q} (h : QuAt o w B q) (i : Nat) : w.frozen? ⟨B, i, none⟩ = false := by
  obtain ⟨ho, hl, vs, hv, hb, hr⟩ := h
  exact hb.free i

def Qu.setOpn (q : Qu) (n : Nat) : Qu := { q with opn := n }
theorem QuAt.setOpn {o : Ow} {w B q} (h : QuAt o w B q) (n : Nat) : QuAt o (w.setCell ⟨B, 4, none⟩ (.int .i64 n)) B (q.setOpn n) := by
  obtain ⟨ho, hl, vs, hv, hb, hr⟩ := h
  refine ⟨ho, hl, vs, hv, ?_, fun i v zs h1 h2 => (hr i v zs h1 h2).keepB ((Keep.refl (only B) _).put _ _) ho⟩
  have := hb.set 4 (.int .i64 n)
  rw [List.set_append_right _ _ (by omega), hv] at this
  exact this
def Qu.doneE (q : Qu) : Int := if q.opn = 0 then 11 else 0
def Qu.doneQ (q : Qu) : Qu := q.setOpn (q.opn - 1)

set_option maxHeartbeats 400000 in
theorem qDone_any {o : Ow} (B : Nat) (q : Qu) (w : World) (h : QuAt o w B q) (hm : q.opn ≤ 1000000000) : Calls Tryz.prog 235 #[.pointer (some ⟨B, 0, none⟩)] w fun e w' => e = .returned (.int .i64 q.doneE) ∧ QuAt o w' B q.doneQ ∧ Keep (only B) w w' := by
  have hc := h.open_
  have hf := h.free 4
  by_cases h0 : q.opn = 0
  · have HE : Hid (q.doneE = 11 ∧ q.doneQ = q) := by
      refine ⟨by simp [Qu.doneE, h0], ?_⟩
      obtain ⟨r, o⟩ := q
      simp at h0; subst h0; rfl
    rw [h0] at hc
    clear h0
    go_enter Tryz.func235, Tryz.ntmps235
    go_wp2
    go_ret
    rw [HE.out.1, HE.out.2]
    exact ⟨rfl, h, Keep.refl _ _⟩
  · have HE : Hid (q.doneE = 0) := by simp [Hid, Qu.doneE, h0]
    have hne : ((q.opn : Int) == 0) = false := by simp; omega
    have h1 : (1 : Int) ≤ q.opn := by omega
    have hs := h.setOpn (q.opn - 1)
    have e : ((q.opn - 1 : Nat) : Int) = (q.opn : Int) - 1 := by omega
    rw [e] at hs
    have HS := Lib.hid hs
    clear hs e h0
    go_enter Tryz.func235, Tryz.ntmps235
    go_wp2
    go_ret
    rw [HE.out]
    exact ⟨rfl, HS.out, (Keep.refl (only B) _).put _ _⟩

/-! Put -/
def Qu.put (q : Qu) (k b : Int) : Qu := { q with rows := q.rows.set k.toNat (q.row k ++ [b]) }
def putOk (k b : Int) : Bool := cls k && decide (0 ≤ b)

theorem QuAt.setRow {o : Ow} {w B q} (h : QuAt o w B q) {k : Int} (hk : cls k = true) {v : Value} {zs : List Int} (hv : RowO o w 3 v (zs.map (Value.int .i64))) :
    QuAt o (w.setCell ⟨B, k.toNat, none⟩ v) B { q with rows := q.rows.set k.toNat zs } := by
  obtain ⟨ho, hl, vs, hvl, hb, hr⟩ := h
  have hk' : k.toNat < 4 := by simp [cls] at hk; omega
  have hkeep : ∀ u, Keep (only B) w (w.setCell ⟨B, k.toNat, none⟩ u) := fun u => (Keep.refl (only B) _).put _ _
  refine ⟨ho, by simpa using hl, vs.set k.toNat v, by simpa using hvl, ?_, fun i u zs' h1 h2 => ?_⟩
  · have := hb.set k.toNat v
    rw [List.set_append_left _ _ (by omega)] at this
    exact this
  · by_cases e : k.toNat = i
    · subst e
      rw [List.getElem?_set_self (by omega)] at h1 h2
      simp at h1 h2
      subst h1 h2
      exact hv.keepB (hkeep _) ho
    · rw [List.getElem?_set_ne e] at h1 h2
      exact (hr i u zs' h1 h2).keepB (hkeep _) ho
theorem QuAt.still {o : Ow} {w w' B q} (h : QuAt o w B q) (k : Keep none_ w w') : QuAt o w' B q := by
  obtain ⟨ho, hl, vs, hv, hb, hr⟩ := h
  exact ⟨ho, hl, vs, hv, k.blk hb (fun f => f), fun i v zs h1 h2 => (hr i v zs h1 h2).still k⟩

theorem Tryz.sizeInt : (Tryz.prog.info? 3).map (·.size) = some 1 := by kernel_rfl

theorem QuAt.drew {o : Ow} {w B q} (h : QuAt o w B q) : QuAt o w.drew B q := ⟨h.own, h.len, h.blk⟩
/-! Take -/
def Qu.take (q : Qu) (k : Int) : Qu := { rows := q.rows.set k.toNat ((q.row k).drop 1), opn := q.opn + 1 }

set_option maxHeartbeats 400000 in
theorem qTake_no (B : Nat) (q : Qu) (k : Int) (w : World) (h : cls k = false) : Calls Tryz.prog 228 #[.pointer (some ⟨B, 0, none⟩), .int .i64 k] w fun e w' => e = .returned (.tuple #[.int .i64 0, .int .i64 1]) ∧ w = w' := by
  have _ := q
  go_enter Tryz.func228, Tryz.ntmps228
  go_wp2_with (go_at_call 152; refine (cIs_is h).mono ?_; rintro e w' ⟨rfl, rfl⟩)
  go_ret2
  exact ⟨rfl, rfl⟩

set_option maxHeartbeats 400000 in
theorem qTake_empty {o : Ow} (B : Nat) (q : Qu) (k : Int) (w : World) (hq : QuAt o w B q) (h : cls k = true) (h0 : q.row k = []) : Calls Tryz.prog 228 #[.pointer (some ⟨B, 0, none⟩), .int .i64 k] w fun e w' => e = .returned (.tuple #[.int .i64 0, .int .i64 12]) ∧ w = w' := by
  obtain ⟨a, n, c, hc, hr, hn⟩ := hq.at_ h
  have hk0 : 0 ≤ k := by simp [cls] at h; omega
  have hk4 : k < 4 := by simp [cls] at h; omega
  rw [h0] at hn
  simp at hn
  rw [hn] at hc
  clear hr hn h0
  go_enter Tryz.func228, Tryz.ntmps228
  go_wp2_with (go_at_call 152; refine (cIs_is h).mono ?_; rintro e w' ⟨rfl, rfl⟩)
  go_ret2
  exact ⟨rfl, rfl⟩

set_option maxHeartbeats 1000000 in
theorem qTake_yes {o : Ow} (B : Nat) (q : Qu) (k x : Int) (xs : List Int) (w : World) (hq : QuAt o w B q) (h : cls k = true) (h0 : q.row k = x :: xs) (hm : q.opn ≤ 1000000000) :
    Calls Tryz.prog 228 #[.pointer (some ⟨B, 0, none⟩), .int .i64 k] w fun e w' => e = .returned (.tuple #[.int .i64 x, .int .i64 0]) ∧ QuAt o w' B (q.take k) ∧ Keep (only B) w w' := by
  obtain ⟨a, n, c, hc, hr, hn⟩ := hq.at_ h
  have hk0 : 0 ≤ k := by simp [cls] at h; omega
  have hk4 : k < 4 := by simp [cls] at h; omega
  have hcut := hr.cut 1 (by rw [hn, h0]; simp)
  have hQ := hq.setRow (zs := (q.row k).drop 1) h (by rw [List.map_drop]; exact hcut)
  have hQ2 := hQ.setOpn (q.opn + 1)
  have e9 : ((q.opn + 1 : Nat) : Int) = (q.opn : Int) + 1 := by omega
  rw [e9] at hQ2
  have hop : ∀ v, (w.setCell ⟨B, k.toNat, none⟩ v).cell? ⟨B, 4, none⟩ = some (.int .i64 q.opn) := fun v => by
    rw [World.cell?_setCell_other]
    · exact hq.open_
    · intro e
      injection e with _ e2
      omega
  obtain ⟨-, -, -, hcell⟩ := hr.toV.cells
  rw [h0] at hn hcell
  simp only [List.length_cons] at hn
  obtain ⟨b', off', rfl, hx⟩ := hcell (by omega)
  have hx0 := hx 0 (.int .i64 x) rfl
  rw [Nat.add_zero] at hx0
  have hne : ((n : Int) == 0) = false := by simp; omega
  have hpos : (0 : Int) < n := by omega
  have hf := hq.free k.toNat
  have hf4 := hq.free 4
  have HQ := Lib.hid hQ2
  have hn9 : (n : Int) ≤ 4000000000000 := by
    have := hr.toV.cells.2.1; have := hr.toV.cells.2.2.1; omega
  clear hcell hx hn h0 hQ hQ2 hr hcut e9
  by_cases hc1 : c = 1
  · subst hc1
    have e : cutA (some ⟨b', off', none⟩) 1 1 = some ⟨b', off', none⟩ := rfl
    rw [e] at HQ
    go_enter Tryz.func228, Tryz.ntmps228
    go_wp2_with (go_at_call 152; refine (cIs_is h).mono ?_; rintro e w' ⟨rfl, rfl⟩)
    go_region
    all_goals
      go_wp2_with fail
      go_ret2
      exact ⟨rfl, HQ.out.drew, (((Keep.refl (only B) _).put _ _).put _ _).drew⟩
  · have e : cutA (some ⟨b', off', none⟩) c 1 = some ⟨b', off' + 1, none⟩ := by simp [cutA, hc1, Addr.add]
    rw [e] at HQ
    clear e
    go_enter Tryz.func228, Tryz.ntmps228
    go_wp2_with (go_at_call 152; refine (cIs_is h).mono ?_; rintro e w' ⟨rfl, rfl⟩)
    go_region
    all_goals
      go_wp2_with fail
      go_ret2
      exact ⟨rfl, HQ.out.drew, (((Keep.refl (only B) _).put _ _).put _ _).drew⟩

/-! Rests -/
def Qu.sum (q : Qu) : Nat → Nat
  | 0 => q.opn
  | k + 1 => q.sum k + (q.rows.getD k []).length
def Qu.rests (q : Qu) : Bool := q.sum 4 == 0
theorem Qu.len_of (q : Qu) (k : Nat) (h : k < 4) : q.len (k : Int) = (q.rows.getD k []).length := by
  have hc : cls (k : Int) = true := by simp [cls]; omega
  simp [Qu.len, hc, Qu.row]
/-- The rows aren't of any size. -/
def Qu.small (q : Qu) : Prop := q.opn ≤ 1000000000 ∧ ∀ k, (q.rows.getD k []).length ≤ 1000000000
theorem Qu.sum_le (q : Qu) (h : q.small) (k : Nat) : q.sum k ≤ 1000000000 * (k + 1) := by
  induction k with
  | zero => have := h.1; simp [Qu.sum]; exact this
  | succ k ih => have := h.2 k; simp only [Qu.sum]; omega

def Qu.rw (q : Qu) (k : Nat) : List Int := q.rows.getD k []
theorem Qu.row_of (q : Qu) (k : Nat) : q.row (k : Int) = q.rw k := by simp [Qu.row, Qu.rw]
theorem cls_of (k : Nat) (h : k < 4) : cls (k : Int) = true := by simp [cls]; omega

theorem QuAt.onNew {o : Ow} {w0 w w' B q} (k0 : Keep none_ w0 w) (k : Keep (only B) w w') (_ : QuAt o w B q) (hB : w0.heap.size ≤ B) : Keep none_ w0 w' := k0.onNew k hB

end Go.Proofs.YtjdnkhljgnjkcaaGreatDoor

/- What package op's small functions tell: is, uses, and Check's two closures. -/
namespace Go.Proofs.YtjdnkhljgnjkcaaGreatDoor
open Go.RowKit Go.Sort

/-- An operation. -/
structure OpR where
  k : Int
  a : Int
  b : Int
  c : Int
deriving DecidableEq
def OpR.cells (o : OpR) : List Value := [.int .i64 o.k, .int .i64 o.a, .int .i64 o.b, .int .i64 o.c]
def isKind (k : Int) : Bool := decide (1 ≤ k) && decide (k < 9)
def useL (k : Int) : List UInt8 := if isKind k then kindL.getD (2 * k.toNat + 1) [] else []
def wordL (k : Int) : List UInt8 := if isKind k then kindL.getD (2 * k.toNat) [] else []

set_option maxHeartbeats 400000 in
theorem is_any (k : Int) (w : World) : Calls Tryz.prog 172 #[.int .i64 k] w fun e w' => e = .returned (.bool (isKind k)) ∧ w' = w := by
  by_cases h : 1 ≤ k
  · have h1 : decide (1 ≤ k) = true := decide_eq_true h
    clear h
    go_enter Tryz.func172, Tryz.ntmps172
    go_wp2
    go_ret
    exact ⟨by simp [isKind, h1], rfl⟩
  · have h1 : decide (1 ≤ k) = false := decide_eq_false h
    clear h
    go_enter Tryz.func172, Tryz.ntmps172
    go_wp2
    go_ret
    exact ⟨by simp [isKind, h1], rfl⟩

set_option maxHeartbeats 400000 in
theorem uses_any (k : Int) (w : World) (hT : Tabs w) : Calls Tryz.prog 204 #[.int .i64 k] w fun e w' => e = .returned (.string ⟨(useL k).toArray⟩) ∧ w' = w := by
  have HIS := Lib.hid (is_any k)
  cases hk : isKind k with
  | false =>
    have HE : Hid (useL k = []) := by simp [Hid, useL, hk]
    rw [hk] at HIS
    clear hk hT
    go_enter Tryz.func204, Tryz.ntmps204
    go_wp2_with (go_at_call 172; refine (HIS.out _).mono ?_; rintro e w1 ⟨rfl, rfl⟩)
    go_ret
    exact ⟨by rw [HE.out]; rfl, rfl⟩
  | true =>
    have hk' := hk
    simp [isKind] at hk'
    obtain ⟨n, rfl⟩ : ∃ n : Nat, k = n := ⟨k.toNat, by omega⟩
    have hlt : 2 * n + 1 < kindL.length := by simp [kindL]; omega
    have hc := hT.kind (2 * n + 1) _ (List.getElem?_eq_getElem hlt)
    have HE : Hid (useL (n : Int) = kindL[2 * n + 1]) := by
      simp only [Hid, useL, hk, if_true]
      simp [hlt]
    rw [HE.out]
    generalize kindL[2 * n + 1] = s at *
    have hc2 : w.cell? ⟨3, n * 2 + 1, none⟩ = some (.string ⟨s.toArray⟩) := by rw [Nat.mul_comm]; exact hc
    rw [hk] at HIS
    clear hk hT HE hc
    have hn : (n : Int) < 9 := by omega
    have hn2 : n < 9 := by omega
    clear hk'
    go_enter Tryz.func204, Tryz.ntmps204
    go_wp2_with (go_at_call 172; refine (HIS.out _).mono ?_; rintro e w1 ⟨rfl, rfl⟩)
    go_ret
    exact ⟨rfl, rfl⟩

/-- What is in the box of the error behind one number. -/
def wrongStep (cur n below e : Int) : Int := if cur = 0 ∧ (n < 0 ∨ below ≤ n) then e else cur

set_option maxHeartbeats 400000 in
theorem wrong_any (n below e cur : Int) (O : Nat) (w : World) (hO : Blk w O [.int .i64 cur] 25) :
    Calls Tryz.prog 173 #[.int .i64 n, .int .i64 below, .int .i64 e, .pointer (some ⟨O, 0, none⟩)] w fun x w' => x = .returned (.tuple #[]) ∧ Blk w' O [.int .i64 (wrongStep cur n below e)] 25 ∧ Keep (only O) w w' := by
  have c0 := hO.cell 0 rfl
  have f0 := hO.free 0
  have HO := Lib.hid hO
  clear hO
  by_cases h0 : cur = 0
  · subst h0
    by_cases h1 : n < 0
    · have HE : Hid (wrongStep 0 n below e = e) := by simp [Hid, wrongStep, h1]
      have h1' : decide (n < 0) = true := decide_eq_true h1
      clear h1
      go_enter Tryz.func173, Tryz.ntmps173
      go_wp2
      go_end0
      exact ⟨rfl, by rw [HE.out]; exact HO.out.set 0 _, (Keep.refl _ _).put _ _⟩
    · have h1' : decide (n < 0) = false := decide_eq_false h1
      by_cases h2 : below ≤ n
      · have HE : Hid (wrongStep 0 n below e = e) := by simp [Hid, wrongStep, h2]
        have h2' : decide (below ≤ n) = true := decide_eq_true h2
        clear h1 h2
        go_enter Tryz.func173, Tryz.ntmps173
        go_wp2
        go_end0
        exact ⟨rfl, by rw [HE.out]; exact HO.out.set 0 _, (Keep.refl _ _).put _ _⟩
      · have HE : Hid (wrongStep 0 n below e = 0) := by unfold Hid wrongStep; exact if_neg (by omega)
        have h2' : decide (below ≤ n) = false := decide_eq_false h2
        clear h1 h2
        go_enter Tryz.func173, Tryz.ntmps173
        go_wp2
        go_end0
        exact ⟨rfl, by rw [HE.out]; exact HO.out, Keep.refl _ _⟩
  · have HE : Hid (wrongStep cur n below e = cur) := by simp [Hid, wrongStep, h0]
    have h0' : (cur == 0) = false := by simpa using h0
    clear h0
    go_enter Tryz.func173, Tryz.ntmps173
    go_wp2
    go_end0
    exact ⟨rfl, by rw [HE.out]; exact HO.out, Keep.refl _ _⟩

/-- What is in it behind one letter. -/
def letterStep (c : Conf) (cur : Int) (l : UInt8) (n : Int) : Int := if l = 114 then wrongStep cur n c.r 5 else if l = 99 then wrongStep cur n c.c 9 else if l = 115 then wrongStep cur n 16 8 else cur

set_option maxRecDepth 4000 in
set_option maxHeartbeats 1000000 in
theorem letter_any (c : Conf) (l : UInt8) (n cur : Int) (B i O V C : Nat) (w : World) (hO : Blk w O [.int .i64 cur] 25) (hV : Blk w V [.func (.func 173) #[] #[.pointer (some ⟨O, 0, none⟩)]] 208) (hC : Blk w C c.cells 23) (hn : w.cell? ⟨B, i, none⟩ = some (.int .i64 n)) :
    Calls Tryz.prog 175 #[.int .u8 l.toNat, .pointer (some ⟨B, i, none⟩), .pointer (some ⟨V, 0, none⟩), .pointer (some ⟨C, 0, none⟩)] w fun x w' => x = .returned (.tuple #[]) ∧ Blk w' O [.int .i64 (letterStep c cur l n)] 25 ∧ Keep (only O) w w' := by
  have v0 := hV.cell 0 rfl
  have k3 : w.cell? ⟨C, 3, none⟩ = some (.int .i64 c.r) := hC.cell 3 rfl
  have k4 : w.cell? ⟨C, 4, none⟩ = some (.int .i64 c.c) := hC.cell 4 rfl
  have HO := Lib.hid hO
  clear hO hV hC
  by_cases h1 : l = 114
  · subst h1
    have HE : Hid (letterStep c cur 114 n = wrongStep cur n c.r 5) := by simp [Hid, letterStep]
    rw [HE.out]
    have HW : Hid (∀ w', Blk w' O [.int .i64 cur] 25 → _) := fun w' h => wrong_any n c.r 5 cur O w' h
    generalize wrongStep cur n c.r 5 = q at *
    generalize c.r = below at *
    go_enter Tryz.func175, Tryz.ntmps175
    go_wp2_with fail
    refine wp_region_still_tail 6 (by kernel_rfl) (by kernel_rfl) ?_
    change wpStill _ _ (World.drew _) _ _ _
    simp only [List.take_succ_cons, List.take_zero, List.drop_succ_cons, List.drop_zero]
    repeat still_step
    refine wpStill_nil ?_
    change wpList _ _ _ _ _ w.drew
    go_wp2_with (go_at_call 173; refine (HW.out _ HO.out.drew).mono ?_; rintro e w1 ⟨rfl, hb, hk⟩)
    go_end0
    exact ⟨rfl, hb, (Keep.refl _ _).drew.trans hk⟩
  by_cases h2 : l = 99
  · subst h2
    have HE : Hid (letterStep c cur 99 n = wrongStep cur n c.c 9) := by simp [Hid, letterStep]
    rw [HE.out]
    have HW : Hid (∀ w', Blk w' O [.int .i64 cur] 25 → _) := fun w' h => wrong_any n c.c 9 cur O w' h
    generalize wrongStep cur n c.c 9 = q at *
    generalize c.c = below at *
    clear h1
    go_enter Tryz.func175, Tryz.ntmps175
    go_wp2_with fail
    refine wp_region_still_tail 6 (by kernel_rfl) (by kernel_rfl) ?_
    change wpStill _ _ (World.drew _) _ _ _
    simp only [List.take_succ_cons, List.take_zero, List.drop_succ_cons, List.drop_zero]
    repeat still_step
    refine wpStill_nil ?_
    change wpList _ _ _ _ _ w.drew
    go_wp2_with (go_at_call 173; refine (HW.out _ HO.out.drew).mono ?_; rintro e w1 ⟨rfl, hb, hk⟩)
    go_end0
    exact ⟨rfl, hb, (Keep.refl _ _).drew.trans hk⟩
  by_cases h3 : l = 115
  · subst h3
    have HE : Hid (letterStep c cur 115 n = wrongStep cur n 16 8) := by simp [Hid, letterStep]
    rw [HE.out]
    have HW : Hid (∀ w', Blk w' O [.int .i64 cur] 25 → _) := fun w' h => wrong_any n 16 8 cur O w' h
    generalize wrongStep cur n 16 8 = q at *
    clear h1 h2 k3 k4
    go_enter Tryz.func175, Tryz.ntmps175
    go_wp2_with fail
    refine wp_region_still_tail 4 (by kernel_rfl) (by kernel_rfl) ?_
    change wpStill _ _ (World.drew _) _ _ _
    simp only [List.take_succ_cons, List.take_zero, List.drop_succ_cons, List.drop_zero]
    repeat still_step
    refine wpStill_nil ?_
    change wpList _ _ _ _ _ w.drew
    go_wp2_with (go_at_call 173; refine (HW.out _ HO.out.drew).mono ?_; rintro e w1 ⟨rfl, hb, hk⟩)
    go_end0
    exact ⟨rfl, hb, (Keep.refl _ _).drew.trans hk⟩
  have HE : Hid (letterStep c cur l n = cur) := by simp [Hid, letterStep, h1, h2, h3]
  rw [HE.out]
  have e1 : ((l.toNat : Int) == 114) = false := by
    rw [beq_eq_false_iff_ne]; intro h; exact h1 (UInt8.toNat_inj.1 (by have : l.toNat = 114 := by omega
                                                                       simpa using this))
  have e2 : ((l.toNat : Int) == 99) = false := by
    rw [beq_eq_false_iff_ne]; intro h; exact h2 (UInt8.toNat_inj.1 (by have : l.toNat = 99 := by omega
                                                                       simpa using this))
  have e3 : ((l.toNat : Int) == 115) = false := by
    rw [beq_eq_false_iff_ne]; intro h; exact h3 (UInt8.toNat_inj.1 (by have : l.toNat = 115 := by omega
                                                                       simpa using this))
  clear h1 h2 h3 k3 k4
  generalize (l.toNat : Int) = li at *
  go_enter Tryz.func175, Tryz.ntmps175
  go_wp2_with fail
  go_end0
  exact ⟨rfl, HO.out, Keep.refl _ _⟩
end Go.Proofs.YtjdnkhljgnjkcaaGreatDoor

/- each: a closure is called with each number that an operation uses, and its letter. -/
namespace Go.Proofs.YtjdnkhljgnjkcaaGreatDoor
open Go.RowKit Go.Sort

theorem bytes_cell {w : World} {s : List UInt8} {cap : Nat} {e : TypeId} {fr : Nat × Nat} {j : Nat} {l : UInt8} (h : s[j]? = some l) : (w.alloc (.cells (bytesRow ⟨s.toArray⟩ cap) e fr)).cell? ⟨w.heap.size, j, none⟩ = some (.int .u8 l.toNat) := by
  have hj := (List.getElem?_eq_some_iff.1 h).1
  have e1 : (w.alloc (.cells (bytesRow ⟨s.toArray⟩ cap) e fr)).heap[w.heap.size]? = some (.cells (bytesRow ⟨s.toArray⟩ cap) e fr) := by
    show (w.heap.push _)[w.heap.size]? = _
    simp
  have e2 : (bytesRow ⟨s.toArray⟩ cap)[j]? = some (.int .u8 l.toNat) := by
    unfold bytesRow
    rw [Array.getElem?_append_left (by simpa using hj)]
    simp [h]
  unfold World.cell?
  simp only [e1]
  exact e2

theorem useL_len (k : Int) : (useL k).length ≤ 3 := by
  unfold useL
  split
  · rename_i h
    simp [isKind] at h
    obtain ⟨n, rfl⟩ : ∃ n : Nat, k = n := ⟨k.toNat, by omega⟩
    have hn : n < 9 := by omega
    simp only [Int.toNat_natCast]
    have : ∀ n, n < 9 → (kindL.getD (2 * n + 1) []).length ≤ 3 := by decide
    exact this n hn
  · simp
theorem bytes_conv (s : List UInt8) (w : World) : ∃ N cap W1, (convert 9 231 (.string ⟨s.toArray⟩)).run Tryz.prog w = .ok (.slice (some ⟨N, 0, none⟩) s.length cap) W1 ∧ Hid (∀ j l, s[j]? = some l → W1.cell? ⟨N, j, none⟩ = some (.int .u8 l.toNat)) ∧ Hid (Keep none_ w W1) ∧ Hid (w.heap.size ≤ N) := by
  have h := run_bytes_of_string (P := Tryz.prog) w 9 231 5 ⟨s.toArray⟩ (by kernel_rfl) (by kernel_rfl) (by kernel_rfl)
  have e : (⟨s.toArray⟩ : ByteArray).size = s.length := by simp [ByteArray.size]
  rw [e] at h
  exact ⟨_, _, _, h, fun j l hj => bytes_cell (w := w.drew) hj, (Keep.refl _ _).drew.alloc _, Nat.le_refl _⟩

set_option maxRecDepth 4000 in
set_option maxHeartbeats 4000000 in
theorem each_any (f : FuncId) (caps : Array Value) (S : Nat → Prop) (I : Nat → World → Prop) (B : Nat) (k : Int) (w : World) (hT : Tabs w) (hB : w.cell? ⟨B, 0, none⟩ = some (.int .i64 k)) (h0 : I 0 w)
    (hcf : ∀ (args : Array Value) (w : World), (callFunc f args).run Tryz.prog w = .ok (.enter f args) w)
    (hI : ∀ j W W', I j W → Keep none_ W W' → I j W') (hS : ∀ i, S i → i < w.heap.size)
    (hstep : ∀ j l W, (useL k)[j]? = some l → I j W → Keep S w W → Calls Tryz.prog f (#[.int .u8 l.toNat, .pointer (some ⟨B, j + 1, none⟩)] ++ caps) W fun x W' => x = .returned (.tuple #[]) ∧ I (j + 1) W' ∧ Keep S W W') :
    Calls Tryz.prog 174 #[.pointer (some ⟨B, 0, none⟩), .func (.func f) #[] caps] w fun x w' => x = .returned (.tuple #[]) ∧ I (useL k).length w' ∧ Keep S w w' := by
  obtain ⟨W0, hW0⟩ : ∃ W', W' = (w.alloc (.cells #[.pointer (some ⟨B, 1, none⟩), .pointer (some ⟨B, 2, none⟩), .pointer (some ⟨B, 3, none⟩)] 230)).drew := ⟨_, rfl⟩
  have hk0 : Keep none_ w W0 := by rw [hW0]; exact ((Keep.refl _ _).alloc _).drew
  have hb0 : Blk W0 w.heap.size [.pointer (some ⟨B, 1, none⟩), .pointer (some ⟨B, 2, none⟩), .pointer (some ⟨B, 3, none⟩)] 230 := by rw [hW0]; exact (Blk.new w _ _).drew
  obtain ⟨s, hs⟩ : ∃ s, s = useL k := ⟨_, rfl⟩
  have HL : Hid (s.length ≤ 3) := by rw [hs]; exact useL_len k
  have HU := Lib.hid (uses_any k W0 (hT.keep hk0))
  have hB0 := hk0.still hB
  rw [← hs] at HU hstep ⊢
  obtain ⟨N, cap, W1, hcv, HC, HK1, HN⟩ := bytes_conv s W0
  have HNS : Hid (w.heap.size ≤ N) := Nat.le_trans hk0.size HN.out
  have HI := Lib.hid hI
  have HS := Lib.hid hS
  have HSTEP := Lib.hid hstep
  have H0 : Hid (I 0 W1) := hI _ _ _ (hI _ _ _ h0 hk0) HK1.out
  have HB1 := Lib.hid (HK1.out.blk hb0 (fun f => f))
  have HK01 := Lib.hid (hk0.trans HK1.out)
  clear hT hI hS hstep h0 hs HN hk0 hb0 hB
  go_enter Tryz.func174, Tryz.ntmps174
  go_wp2_with fail
  go_region
  rw [← hW0]
  clear hW0
  go_wp2_with (go_at_call 204; refine HU.out.mono ?_; rintro e w1 ⟨rfl, rfl⟩)
  go_loopg [5, 6, 24] s.length (fun g i5 l6 i24 wr => ∃ j : Nat, g + j = s.length ∧ i24 = .int .i64 j ∧ Hid (I j wr) ∧ Hid (Keep S W1 wr))
  case atStart => exact ⟨0, rfl, rfl, H0, Keep.refl _ _⟩
  case round =>
    obtain ⟨j, hg, rfl, HJ, HKJ⟩ := hrel
    clear H0
    by_cases hlt : j < s.length
    · have hj3 : j < 3 := by have := HL.out; omega
      have hltz : (j : Int) < s.length := by omega
      have hj3z : (j : Int) < 3 := by omega
      have cl := HKJ.out.cellv (HC.out j _ (List.getElem?_eq_getElem hlt)) (fun h => absurd (HS.out _ h) (by have := HNS.out; simp; omega))
      have cp : wr.cell? ⟨w.heap.size, j, none⟩ = some (.pointer (some ⟨B, j + 1, none⟩)) := by
        refine HKJ.out.cellv (HB1.out.cell j ?_) (fun h => absurd (HS.out _ h) (by simp))
        rcases (by omega : j = 0 ∨ j = 1 ∨ j = 2) with rfl | rfl | rfl <;> rfl
      have HCALL := Lib.hid (HSTEP.out j _ wr (List.getElem?_eq_getElem hlt) HJ.out ((HK01.out.mono (fun _ _ f => f.elim)).trans HKJ.out))
      generalize s[j] = l at *
      clear hj3
      go_wp2_with (refine HCALL.out.mono ?_; rintro e w2 ⟨rfl, hj2, hk2⟩)
      have HJ2 := Lib.hid hj2
      have HK2 := Lib.hid (HKJ.out.trans hk2)
      clear hj2 hk2
      go_roundg (gk - 1)
      case measure => omega
      case rel => exact ⟨j + 1, by omega, by go_num, HJ2, HK2⟩
    · obtain rfl : j = s.length := by omega
      have hge : ¬ ((s.length : Int) < s.length) := by omega
      clear hg
      go_wp2_with fail
      go_end0
      exact ⟨rfl, HJ.out, (HK01.out.mono (fun _ _ f => f.elim)).trans HKJ.out⟩
end Go.Proofs.YtjdnkhljgnjkcaaGreatDoor
