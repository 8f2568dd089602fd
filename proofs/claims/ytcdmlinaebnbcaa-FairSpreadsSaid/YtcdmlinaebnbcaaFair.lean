/- fair's plain functions: longest, Gap, Count; slices.Index and Contains over ints; the document's example. -/
import Derived.Test.YtcdmlinaebnbcaaRowV
import Derived.Test.YtcdmlinaebnbcaaRef01
import Derived.Test.YtcdmlinaebnbcaaSame01
import Derived.Deep.LoopGhost
import Derived.WalkSpells
import Derived.WalkLawsBesides
namespace Go.Proofs.Ytcdmlinaebnbcaa
open Go.RowKit

theorem vi {a b : Int} (h : a = b) : Value.int .i64 a = .int .i64 b := by rw [h]
/-! ### The longest row without one -/
def stepL (w p : Int) (s : Nat × Nat) : Nat × Nat := (if p = w then 0 else s.1 + 1, max s.2 (if p = w then 0 else s.1 + 1))
def longL (w : Int) (zs : List Int) : Nat × Nat := zs.foldl (fun s p => stepL w p s) (0, 0)
theorem longL_snoc (w : Int) (zs : List Int) (z : Int) : longL w (zs ++ [z]) = stepL w z (longL w zs) := by simp [longL]
theorem longL_le (w : Int) (zs : List Int) : (longL w zs).1 ≤ zs.length ∧ (longL w zs).2 ≤ zs.length := by
  rw [← List.reverse_reverse zs]
  induction zs.reverse with
  | nil => simp [longL]
  | cons z l ih =>
    rw [List.reverse_cons, longL_snoc]
    simp [stepL] at *
    split <;> omega
theorem take_succ_getD (zs : List Int) (k : Nat) (h : k < zs.length) : zs.take (k + 1) = zs.take k ++ [zs.getD k 0] := by
  rw [List.take_succ_eq_append_getElem h, getD_of h]

set_option maxHeartbeats 400000 in
theorem fGap1_any (p x : Int) (B : Nat) (w : World) (h : Blk w B [.int .i64 x] 3) :
    Calls Try.prog 49 #[.int .i64 p, .pointer (some ⟨B, 0, none⟩)] w fun e w' => e = .returned (.bool (p == x)) ∧ w = w' := by
  have hc := h.cell 0 (v := .int .i64 x) rfl
  clear h
  go_enter Try.func49, Try.ntmps49
  go_wp2
  go_ret
  exact ⟨rfl, rfl⟩
theorem fGap1_is {p x : Int} {B : Nat} {w : World} {b : Bool} (h : Blk w B [.int .i64 x] 3) (hb : (p == x) = b) :
    Calls Try.prog 49 #[.int .i64 p, .pointer (some ⟨B, 0, none⟩)] w fun e w' => e = .returned (.bool b) ∧ w = w' := by
  rw [← hb]; exact fGap1_any p x B w h

set_option maxHeartbeats 400000 in
theorem longest_any (a : Option Addr) (n c : Nat) (zs : List Int) (x : Int) (B : Nat) (w : World) (hz : IntCells .i64 w a n zs) (hn : n ≤ 1000000000) (hB : Blk w B [.int .i64 x] 3) :
    Calls Try.prog 48 #[.slice a n c, .func (.func 49) #[] #[.pointer (some ⟨B, 0, none⟩)]] w fun e w' => e = .returned (.int .i64 (longL x zs).2) ∧ w = w' := by
  have hl := hz.len
  go_enter Try.func48, Try.ntmps48
  go_wp2
  go_loopg [5, 6, 11] n (fun g u m i wr => ∃ k : Nat, g + k = n ∧ i = .int .i64 k ∧ u = .int .i64 (longL x (zs.take k)).1 ∧ m = .int .i64 (longL x (zs.take k)).2 ∧ wr = w)
  case atStart => exact ⟨0, by omega, rfl, by simp [longL], by simp [longL], rfl⟩
  case round =>
    obtain ⟨k, hg, rfl, rfl, rfl, rfl⟩ := hrel
    by_cases hlt : k < n
    · obtain ⟨b, off, rfl, hc⟩ := hz.at_ (by omega)
      have hck := hc k hlt
      have hs := longL_snoc x (zs.take k) (zs.getD k 0)
      rw [← take_succ_getD zs k (by omega)] at hs
      have hle := longL_le x (zs.take k)
      rw [List.length_take] at hle
      generalize zs.getD k 0 = z at *
      generalize longL x (zs.take k) = s at *
      obtain ⟨s1, s2⟩ := s
      simp only at hle
      by_cases hzx : z = x
      · have hb : (z == x) = true := beq_iff_eq.2 hzx
        have HB := Lib.hid hb
        have hs' : longL x (zs.take (k + 1)) = (0, s2) := by rw [hs]; simp [stepL, hzx]
        have HS := Lib.hid hs'
        clear hb hs hs' hc hzx hl
        go_wp2_with (go_at_call 49; refine (fGap1_is hB HB.out).mono ?_; rintro e w' ⟨rfl, rfl⟩)
        all_goals
          go_roundg (gk - 1)
          case measure => omega
          case rel => exact ⟨k + 1, by omega, by go_num, vi (by simp only [HS.out] <;> omega), vi (by simp only [HS.out] <;> omega), rfl⟩
      · have hb : (z == x) = false := beq_eq_false_iff_ne.2 hzx
        have HB := Lib.hid hb
        have hs' : longL x (zs.take (k + 1)) = (s1 + 1, max s2 (s1 + 1)) := by rw [hs]; simp [stepL, hzx]
        have HS := Lib.hid hs'
        clear hb hs hs' hc hzx hl
        go_wp2_with (go_at_call 49; refine (fGap1_is hB HB.out).mono ?_; rintro e w' ⟨rfl, rfl⟩)
        all_goals
          go_roundg (gk - 1)
          case measure => omega
          case rel => exact ⟨k + 1, by omega, by go_num, vi (by simp only [HS.out] <;> omega), vi (by simp only [HS.out] <;> omega), rfl⟩
    · have he : zs.take k = zs := List.take_of_length_le (by omega)
      have HE := Lib.hid he
      clear he hl
      go_wp2
      go_ret
      exact ⟨by rw [HE.out]; rfl, rfl⟩

/-! ### Gap -/
def gapW (zs : List Int) : Nat → Nat
  | 0 => 1
  | w + 1 => max (gapW zs w) ((longL w zs).2 + 1)
def gapL (zs : List Int) (who : Int) : Nat := if who < 1 then 0 else if zs.length < who then zs.length + 1 else gapW zs who.toNat
theorem gapW_le (zs : List Int) (w : Nat) : gapW zs w ≤ zs.length + 1 := by
  induction w with
  | zero => simp [gapW]
  | succ w ih =>
    have := (longL_le w zs).2
    simp only [gapW]; omega

set_option maxHeartbeats 400000 in
theorem gap_any (a : Option Addr) (n c : Nat) (zs : List Int) (who : Int) (w : World) (hz : IntCells .i64 w a n zs) (hn : n ≤ 1000000000) :
    Calls Try.prog 37 #[.slice a n c, .int .i64 who] w fun e w' => e = .returned (.int .i64 (gapL zs who)) ∧ Keep none_ w w' := by
  have hmf : ∀ (fn : Fn) (first cap : Array Value) (w : World), (Instr.makeFunc fn first cap).run Try.prog w = .ok (.func fn first cap) w := fun _ _ _ _ => rfl
  have hl := hz.len
  by_cases h1 : who < 1
  · have HE : Hid (gapL zs who = 0) := by simp [Hid, gapL, h1]
    clear hl
    go_enter Try.func37, Try.ntmps37
    go_wp2
    go_ret
    exact ⟨by rw [HE.out]; rfl, Keep.refl _ _⟩
  by_cases h2 : (n : Int) < who
  · have HE : Hid (gapL zs who = n + 1) := by simp only [Hid, gapL]; rw [if_neg h1, if_pos (by omega), hl]
    clear hl
    go_enter Try.func37, Try.ntmps37
    go_wp2
    go_ret
    exact ⟨by rw [HE.out]; rfl, Keep.refl _ _⟩
  have HE : Hid (gapL zs who = gapW zs who.toNat) := by simp only [Hid, gapL]; rw [if_neg h1, if_neg (by omega)]
  have HL := Lib.hid hl
  clear hl
  go_enter Try.func37, Try.ntmps37
  go_wp2
  go_loopg [5, 17] who.toNat (fun g m i wr => ∃ k : Nat, g + k = who.toNat ∧ i = .int .i64 k ∧ m = .int .i64 (gapW zs k) ∧ Keep none_ w wr)
  case atStart => exact ⟨0, by omega, rfl, rfl, Keep.refl _ _⟩
  case round =>
    obtain ⟨k, hg, rfl, rfl, hk⟩ := hrel
    by_cases hlt : (k : Int) < who
    · have hzr := hz.below (hk.alloc (.cells #[.int .i64 (k : Int)] 3))
      have hnb := Blk.new wr [.int .i64 (k : Int)] 3
      have HC := Lib.hid (longest_any a n c zs k wr.heap.size (wr.alloc (.cells #[.int .i64 (k : Int)] 3)) hzr hn hnb)
      have hle := gapW_le zs k
      have hl2 := (longL_le k zs).2
      rw [HL.out] at hle hl2
      have hs : gapW zs (k + 1) = max (gapW zs k) ((longL k zs).2 + 1) := rfl
      have HS := Lib.hid hs
      clear hs hzr hnb
      generalize (longL (k : Int) zs).2 = lo at *
      generalize gapW zs k = ga at *
      go_wp2_with (go_at_call 48; refine HC.out.mono ?_; rintro e w' ⟨rfl, rfl⟩)
      all_goals
        go_roundg (gk - 1)
        case measure => omega
        case rel => exact ⟨k + 1, by omega, by go_num, vi (by simp only [HS.out] <;> omega), hk.alloc _⟩
    · have he : k = who.toNat := by omega
      have HK := Lib.hid he
      clear he
      go_wp2
      go_ret
      exact ⟨by rw [HE.out, ← HK.out]; rfl, hk⟩
theorem gap_is {a : Option Addr} {n c : Nat} {zs : List Int} {who : Int} {w : World} {g : Int} (hz : IntCells .i64 w a n zs) (hn : n ≤ 1000000000) (hg : (gapL zs who : Int) = g) :
    Calls Try.prog 37 #[.slice a n c, .int .i64 who] w fun e w' => e = .returned (.int .i64 g) ∧ Keep none_ w w' := by
  rw [← hg]; exact gap_any a n c zs who w hz hn

set_option maxHeartbeats 400000 in
theorem awake24_any (w : World) : Calls Try.prog 16 #[] w fun e w' => e = .returned (.bool true) ∧ Keep none_ w w' := by
  have hz : ∀ w : World, IntCells .i64 (w.alloc (.cells #[.int .i64 0, .int .i64 1, .int .i64 1, .int .i64 0] 3)) (some ⟨w.heap.size, 0, none⟩) 4 [0, 1, 1, 0] := fun w =>
    ⟨rfl, fun _ => ⟨_, _, rfl, fun j hj => by
      have hb := Blk.new w [.int .i64 0, .int .i64 1, .int .i64 1, .int .i64 0] 3
      rw [Nat.zero_add]
      refine hb.cell j ?_
      match j, hj with
      | 0, _ => rfl
      | 1, _ => rfl
      | 2, _ => rfl
      | 3, _ => rfl⟩⟩
  have HC := Lib.hid (gap_is (c := 4) (who := 2) (g := 3) (hz w) (by decide) (by decide))
  go_enter Try.func16, Try.ntmps16
  go_wp2_with (go_at_call 37; refine HC.out.mono ?_; rintro e w' ⟨rfl, hk⟩)
  go_ret
  exact ⟨rfl, ((Keep.refl none_ w).alloc _).trans hk⟩
end Go.Proofs.Ytcdmlinaebnbcaa
