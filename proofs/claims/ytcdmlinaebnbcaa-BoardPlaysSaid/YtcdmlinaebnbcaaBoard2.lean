/- What board's other functions do. -/
import Derived.Test.YtcdmlinaebnbcaaRows
import Derived.Test.YtcdmlinaebnbcaaMem
import Derived.Test.YtcdmlinaebnbcaaBoard
namespace Go.Proofs.Ytcdmlinaebnbcaa
open Go.RowKit

theorem BdAt.openAt {w B b} (hb : BdAt w B b) (i : Nat) (h : i < b.os.length) : w.cell? ⟨B, 3 + i, none⟩ = some (.bool b.os[i]) := by
  refine hb.blk.cell _ ?_
  rw [Nat.add_comm]
  simp [Bd.cells, h]

set_option maxHeartbeats 400000 in
theorem contB_any (B off : Nat) (l : List Bool) (w : World) (hc : ∀ i, (h : i < l.length) → w.cell? ⟨B, off + i, none⟩ = some (.bool l[i])) (hl : l.length ≤ 1000) :
    Calls Try.prog 45 #[.slice (some ⟨B, off, none⟩) l.length l.length, .func (.func 46) #[] #[]] w fun e w' => e = .returned (.bool (anyTrue l)) ∧ w = w' := by
  have hge := firstTrue_ge l 0 (by omega)
  have HC := Lib.hid hc; have HG := Lib.hid hge; clear hc hge
  go_enter Try.func45, Try.ntmps45
  go_wp2_with (go_at_call 54; refine (idxB_any _ _ _ _ HC.out hl).mono ?_; rintro e w' ⟨rfl, rfl⟩)
  go_ret
  exact ⟨by rw [← HG.out]; rfl, rfl⟩

set_option maxHeartbeats 400000 in
theorem all_nil (w : World) :
    Calls Try.prog 24 #[.pointer none] w fun e w' => e = .returned (.bool false) ∧ w = w' := by
  go_enter Try.func24, Try.ntmps24
  go_wp2
  go_ret
  exact ⟨rfl, rfl⟩

def Bd.all (b : Bd) : Bool := !anyTrue b.os

set_option maxHeartbeats 400000 in
theorem all_any (B : Nat) (b : Bd) (w : World) (hb : BdAt w B b) :
    Calls Try.prog 24 #[.pointer (some ⟨B, 0, none⟩)] w fun e w' => e = .returned (.bool b.all) ∧ w = w' := by
  have hc := hb.openAt
  have hl := hb.len
  have HC := Lib.hid hc; have HL := Lib.hid hl; clear hc hl hb
  have key : ∀ w0, w0 = w → Calls Try.prog 45 #[.slice (some ⟨B, 3, none⟩) 8 8, .func (.func 46) #[] #[]] w0 fun e w' => e = .returned (.bool (anyTrue b.os)) ∧ w0 = w' := by
    intro w0 h0
    subst h0
    have := contB_any B 3 b.os w0 HC.out (by rw [HL.out]; omega)
    rw [HL.out] at this; exact this
  have KEY := Lib.hid key; clear key
  go_enter Try.func24, Try.ntmps24
  go_wp2_with (go_at_call 45; refine (KEY.out _ rfl).mono ?_; rintro e w' ⟨rfl, rfl⟩)
  go_ret
  exact ⟨rfl, rfl⟩

set_option maxHeartbeats 400000 in
theorem answer_nil (m : Int) (w : World) :
    Calls Try.prog 25 #[.pointer none, .int .i64 m] w fun e w' => e = .returned (.int .i64 11) ∧ w = w' := by
  go_enter Try.func25, Try.ntmps25
  go_wp2
  go_ret
  exact ⟨rfl, rfl⟩

def Bd.close (b : Bd) (m : Int) : Bd := { b with os := b.os.set m.toNat false }
/-- What Answer tells, and the board behind it. -/
def Bd.ansE (b : Bd) (m : Int) : Int := if b.is m then (if b.isOpen m then 0 else 11) else 4
def Bd.ansB (b : Bd) (m : Int) : Bd := if b.pend m then b.close m else b

theorem BdAt.close {w B b} (hb : BdAt w B b) (m : Int) : BdAt (w.setCell ⟨B, 3 + m.toNat, none⟩ (.bool false)) B (b.close m) := by
  refine ⟨?_, by simp [Bd.close, hb.len], hb.lo, hb.hi⟩
  have := hb.blk.set (3 + m.toNat) (.bool false)
  rw [Nat.add_comm] at this ⊢
  simpa [Bd.cells, Bd.close, List.map_set] using this

set_option maxHeartbeats 400000 in
theorem answer_any (B : Nat) (b : Bd) (m : Int) (w : World) (hb : BdAt w B b) :
    Calls Try.prog 25 #[.pointer (some ⟨B, 0, none⟩), .int .i64 m] w fun e w' => e = .returned (.int .i64 (b.ansE m)) ∧ BdAt w' B (b.ansB m) ∧ Keep (only B) w w' := by
  cases h : b.is m with
  | false =>
    have HE : Hid (b.ansE m = 4 ∧ b.ansB m = b) := by simp [Hid, Bd.ansE, Bd.ansB, Bd.pend, h]
    go_enter Try.func25, Try.ntmps25
    go_wp2_with (go_at_call 44; refine (is_no B b m _ hb h).mono ?_; rintro e w' ⟨rfl, rfl⟩)
    go_ret
    rw [HE.out.1, HE.out.2]
    exact ⟨rfl, hb, Keep.refl _ _⟩
  | true =>
    have hco := hb.openCell h
    have hm1 : 0 ≤ m := by simp [Bd.is] at h; exact h.1
    have hm2 : m < 8 := by have := hb.hi; simp [Bd.is] at h; omega
    cases ho : b.isOpen m with
    | false =>
      have HE : Hid (b.ansE m = 11 ∧ b.ansB m = b) := by simp [Hid, Bd.ansE, Bd.ansB, Bd.pend, h, ho]
      rw [ho] at hco
      go_enter Try.func25, Try.ntmps25
      go_wp2_with (go_at_call 44; refine (is_yes B b m _ hb h).mono ?_; rintro e w' ⟨rfl, rfl⟩)
      go_ret
      rw [HE.out.1, HE.out.2]
      exact ⟨rfl, hb, Keep.refl _ _⟩
    | true =>
      have HE : Hid (b.ansE m = 0 ∧ b.ansB m = b.close m) := by simp [Hid, Bd.ansE, Bd.ansB, Bd.pend, h, ho]
      have hfz := hb.blk.free (3 + m.toNat)
      have HB := Lib.hid (hb.close m)
      rw [ho] at hco
      go_enter Try.func25, Try.ntmps25
      go_wp2_with (go_at_call 44; refine (is_yes B b m _ hb h).mono ?_; rintro e w' ⟨rfl, rfl⟩)
      go_ret
      rw [HE.out.1, HE.out.2]
      exact ⟨rfl, HB.out, (Keep.refl (only B) _).put _ _⟩

set_option maxHeartbeats 400000 in
theorem new_no (m : Int) (w : World) (h : m < 1 ∨ 8 < m) :
    Calls Try.prog 20 #[.int .i64 m] w fun e w' => e = .returned (.tuple #[.pointer none, .int .i64 4]) ∧ w = w' := by
  rcases h with h | h
  · go_enter Try.func20, Try.ntmps20
    go_wp2
    go_ret2
    exact ⟨rfl, rfl⟩
  · have h' : ¬ m < 1 := by omega
    go_enter Try.func20, Try.ntmps20
    go_wp2
    go_ret2
    exact ⟨rfl, rfl⟩

def Bd.new (m : Int) : Bd := ⟨m, 0, 0, List.replicate 8 false⟩

set_option maxHeartbeats 400000 in
theorem new_yes (m : Int) (w : World) (h : 1 ≤ m) (h8 : m ≤ 8) :
    Calls Try.prog 20 #[.int .i64 m] w fun e w' => e = .returned (.tuple #[.pointer (some ⟨w.heap.size, 0, none⟩), .int .i64 0]) ∧ BdAt w' w.heap.size (Bd.new m) ∧ Keep none_ w w' := by
  have HN : ∀ w : World, Hid (BdAt (w.alloc (.cells (Bd.new m).cells.toArray 76)) w.heap.size (Bd.new m)) := fun w => ⟨Blk.new w (Bd.new m).cells 76, rfl, h, h8⟩
  go_enter Try.func20, Try.ntmps20
  go_wp2
  go_ret2
  exact ⟨rfl, (HN w).out, (Keep.refl _ _).alloc _⟩


def setTrue : Nat → List Bool → List Bool
  | 0, l => l
  | k + 1, l => (setTrue k l).set k true
theorem setTrue_len (k : Nat) (l : List Bool) : (setTrue k l).length = l.length := by
  induction k with
  | zero => rfl
  | succ k ih => simp [setTrue, ih]
def Bd.asked (b : Bd) (kind : Int) (k : Nat) : Bd := ⟨b.muts, kind, b.count + 1, setTrue k b.os⟩
/-- What Ask tells, and the board behind it. -/
def Bd.askE (b : Bd) : Int := if b.all then 0 else 11
def Bd.askB (b : Bd) (kind : Int) : Bd := if b.all then b.asked kind b.muts.toNat else b

theorem BdAt.asked0 {w B b} (hb : BdAt w B b) (kind : Int) : BdAt ((w.setCell ⟨B, 1, none⟩ (.int .i64 kind)).setCell ⟨B, 2, none⟩ (.int .i64 (b.count + 1))) B (b.asked kind 0) :=
  ⟨by simpa [Bd.cells, Bd.asked, setTrue] using (hb.blk.set 1 (.int .i64 kind)).set 2 (.int .i64 (b.count + 1)), hb.len, hb.lo, hb.hi⟩
theorem BdAt.askedS {w B b kind k} (hb : BdAt w B (Bd.asked b kind k)) : BdAt (w.setCell ⟨B, 3 + k, none⟩ (.bool true)) B (b.asked kind (k + 1)) := by
  refine ⟨?_, by have := hb.len; simp [Bd.asked, setTrue] at *; exact this, hb.lo, hb.hi⟩
  have := hb.blk.set (3 + k) (.bool true)
  rw [Nat.add_comm] at this ⊢
  simpa [Bd.cells, Bd.asked, setTrue, List.map_set] using this

set_option maxHeartbeats 400000 in
theorem ask_nil (m : Int) (w : World) :
    Calls Try.prog 21 #[.pointer none, .int .i64 m] w fun e w' => e = .returned (.int .i64 11) ∧ w = w' := by
  go_enter Try.func21, Try.ntmps21
  go_wp2_with (go_at_call 24; refine (all_nil _).mono ?_; rintro e w' ⟨rfl, rfl⟩)
  go_ret
  exact ⟨rfl, rfl⟩

set_option maxHeartbeats 400000 in
theorem ask_any (B : Nat) (b : Bd) (kind : Int) (w : World) (hb : BdAt w B b) (hk0 : 0 ≤ b.count) (hk1 : b.count ≤ 1000000000) :
    Calls Try.prog 21 #[.pointer (some ⟨B, 0, none⟩), .int .i64 kind] w fun e w' => e = .returned (.int .i64 b.askE) ∧ BdAt w' B (b.askB kind) ∧ Keep (only B) w w' := by
  cases h : b.all with
  | false =>
    have HE : Hid (b.askE = 11 ∧ b.askB kind = b) := by simp [Hid, Bd.askE, Bd.askB, h]
    have key : Calls Try.prog 24 #[.pointer (some ⟨B, 0, none⟩)] w fun e w' => e = .returned (.bool false) ∧ w = w' := by
      rw [← h]; exact all_any B b w hb
    have KEY := Lib.hid key; clear key
    go_enter Try.func21, Try.ntmps21
    go_wp2_with (go_at_call 24; refine KEY.out.mono ?_; rintro e w' ⟨rfl, rfl⟩)
    go_ret
    rw [HE.out.1, HE.out.2]
    exact ⟨rfl, hb, Keep.refl _ _⟩
  | true =>
    have HE : Hid (b.askE = 0 ∧ b.askB kind = b.asked kind b.muts.toNat) := by simp [Hid, Bd.askE, Bd.askB, h]
    have key : Calls Try.prog 24 #[.pointer (some ⟨B, 0, none⟩)] w fun e w' => e = .returned (.bool true) ∧ w = w' := by
      rw [← h]; exact all_any B b w hb
    have KEY := Lib.hid key; clear key
    have hc0 := hb.blk.cell 0 (v := .int .i64 b.muts) rfl
    have hc1 := hb.blk.cell 1 (v := .int .i64 b.kind) rfl
    have hc2 := hb.blk.cell 2 (v := .int .i64 b.count) rfl
    have hf1 := hb.blk.free 1
    have hf2 := hb.blk.free 2
    have hmu := hb.hi
    have hml := hb.lo
    have H0 := Lib.hid (hb.asked0 kind)
    go_enter Try.func21, Try.ntmps21
    go_wp2_with (go_at_call 24; refine KEY.out.mono ?_; rintro e w' ⟨rfl, rfl⟩)
    go_loopw [24] (fun i wr => ∃ k : Nat, k ≤ b.muts.toNat ∧ i = .int .i64 k ∧ BdAt wr B (b.asked kind k) ∧ Keep (only B) w wr) (fun i _ => b.muts.toNat - (intOf i).toNat)
    case atStart => exact ⟨0, Nat.zero_le _, rfl, H0.out, ((Keep.refl (only B) _).put _ _).put _ _⟩
    case round =>
      obtain ⟨k, hk, rfl, hbk, hkeep⟩ := hrel
      by_cases hlt : (k : Int) < b.muts
      · have hfz := hbk.blk.free (3 + k)
        have hcl : wr.cell? ⟨B, 3 + k, none⟩ = some (.bool (b.asked kind k).os[k]!) := by
          have hl := hbk.len
          rw [hbk.openAt k (by omega)]
          rw [getElem!_pos _ _ (by omega)]
        have HB := Lib.hid hbk.askedS
        go_wp2
        go_roundw
        case rel => exact ⟨k + 1, by omega, by go_num, HB.out, hkeep.put _ _⟩
        case measure => simp [intOf]; omega
      · have e1 : k = b.muts.toNat := by omega
        have HK := Lib.hid e1; clear e1
        go_wp2
        go_ret
        rw [HE.out.1, HE.out.2, ← HK.out]
        exact ⟨rfl, hbk, hkeep⟩

/-! The same, with what is told under a name of its own. -/
theorem pending_is {B : Nat} {b : Bd} {m : Int} {w : World} {p : Bool} {k : Int} (hb : BdAt w B b) (h1 : b.pend m = p) (h2 : b.pendK m = k) :
    Calls Try.prog 23 #[.pointer (some ⟨B, 0, none⟩), .int .i64 m] w fun e w' => e = .returned (.tuple #[.int .i64 k, .bool p]) ∧ w = w' := by
  rw [← h1, ← h2]; exact pending_any B b m w hb
theorem all_is {B : Nat} {b : Bd} {w : World} {p : Bool} (hb : BdAt w B b) (h1 : b.all = p) :
    Calls Try.prog 24 #[.pointer (some ⟨B, 0, none⟩)] w fun e w' => e = .returned (.bool p) ∧ w = w' := by
  rw [← h1]; exact all_any B b w hb
theorem count_is {B : Nat} {b : Bd} {w : World} {c : Int} (hb : BdAt w B b) (h1 : b.count = c) :
    Calls Try.prog 22 #[.pointer (some ⟨B, 0, none⟩)] w fun e w' => e = .returned (.int .i64 c) ∧ w = w' := by
  rw [← h1]; exact count_any B b w hb
theorem answered_is {B : Nat} {b : Bd} {m : Int} {w : World} {p : Bool} (hb : BdAt w B b) (h1 : (b.is m && !b.isOpen m) = p) :
    Calls Try.prog 27 #[.pointer (some ⟨B, 0, none⟩), .int .i64 m] w fun e w' => e = .returned (.bool p) ∧ w = w' := by
  rw [← h1]; exact answered_any B b m w hb
theorem answer_is {B : Nat} {b b' : Bd} {m : Int} {w : World} {c : Int} (hb : BdAt w B b) (h1 : b.ansE m = c) (h2 : b.ansB m = b') :
    Calls Try.prog 25 #[.pointer (some ⟨B, 0, none⟩), .int .i64 m] w fun e w' => e = .returned (.int .i64 c) ∧ BdAt w' B b' ∧ Keep (only B) w w' := by
  rw [← h1, ← h2]; exact answer_any B b m w hb
theorem ask_is {B : Nat} {b b' : Bd} {kind : Int} {w : World} {c : Int} (hb : BdAt w B b) (hk : 0 ≤ b.count ∧ b.count ≤ 1000000000) (h1 : b.askE = c) (h2 : b.askB kind = b') :
    Calls Try.prog 21 #[.pointer (some ⟨B, 0, none⟩), .int .i64 kind] w fun e w' => e = .returned (.int .i64 c) ∧ BdAt w' B b' ∧ Keep (only B) w w' := by
  rw [← h1, ← h2]; exact ask_any B b kind w hb hk.1 hk.2

end Go.Proofs.Ytcdmlinaebnbcaa
