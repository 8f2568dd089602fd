/- Take, Any and Rests of a queue that is there. -/
import Derived.Test.YtcdmlinaebnbcaaQueue2
import Derived.BigRegion
namespace Go.Proofs.Ytcdmlinaebnbcaa
open Go.RowKit

theorem QuAt.drew {w B q} (h : QuAt w B q) : QuAt w.drew B q := ⟨h.len, h.blk⟩
/-! Take -/
def Qu.take (q : Qu) (k : Int) : Qu := { rows := q.rows.set k.toNat ((q.row k).drop 1), opn := q.opn + 1 }

set_option maxHeartbeats 400000 in
theorem qTake_no (B : Nat) (q : Qu) (k : Int) (w : World) (h : cls k = false) : Calls Try.prog 30 #[.pointer (some ⟨B, 0, none⟩), .int .i64 k] w fun e w' => e = .returned (.tuple #[.int .i64 0, .int .i64 1]) ∧ w = w' := by
  have _ := q
  go_enter Try.func30, Try.ntmps30
  go_wp2_with (go_at_call 47; refine (cIs_is h).mono ?_; rintro e w' ⟨rfl, rfl⟩)
  go_ret2
  exact ⟨rfl, rfl⟩

set_option maxHeartbeats 400000 in
theorem qTake_empty (B : Nat) (q : Qu) (k : Int) (w : World) (hq : QuAt w B q) (h : cls k = true) (h0 : q.row k = []) : Calls Try.prog 30 #[.pointer (some ⟨B, 0, none⟩), .int .i64 k] w fun e w' => e = .returned (.tuple #[.int .i64 0, .int .i64 12]) ∧ w = w' := by
  obtain ⟨a, n, c, hc, hr, hn⟩ := hq.at_ h
  have hk0 : 0 ≤ k := by simp [cls] at h; omega
  have hk4 : k < 4 := by simp [cls] at h; omega
  rw [h0] at hn
  simp at hn
  rw [hn] at hc
  clear hr hn h0
  go_enter Try.func30, Try.ntmps30
  go_wp2_with (go_at_call 47; refine (cIs_is h).mono ?_; rintro e w' ⟨rfl, rfl⟩)
  go_ret2
  exact ⟨rfl, rfl⟩

set_option maxHeartbeats 1000000 in
theorem qTake_yes (B : Nat) (q : Qu) (k x : Int) (xs : List Int) (w : World) (hq : QuAt w B q) (h : cls k = true) (h0 : q.row k = x :: xs) (hm : q.opn ≤ 1000000000) :
    Calls Try.prog 30 #[.pointer (some ⟨B, 0, none⟩), .int .i64 k] w fun e w' => e = .returned (.tuple #[.int .i64 x, .int .i64 0]) ∧ QuAt w' B (q.take k) ∧ Keep (only B) w w' := by
  obtain ⟨a, n, c, hc, hr, hn⟩ := hq.at_ h
  have hk0 : 0 ≤ k := by simp [cls] at h; omega
  have hk4 : k < 4 := by simp [cls] at h; omega
  have hcut := hr.cut 1 (by rw [hn, h0]; simp)
  have hQ := hq.setRow (zs := (q.row k).drop 1) h (by rw [List.map_drop]; exact hcut)
  have hQ2 := hQ.setOpn (q.opn + 1)
  have e9 : ((q.opn + 1 : Nat) : Int) = (q.opn : Int) + 1 := by omega
  rw [e9] at hQ2
  have hop : ∀ v, (w.setCell ⟨B, k.toNat, none⟩ v).cell? ⟨B, 4, none⟩ = some (.int .i64 q.opn) := fun v => by
    rw [World.cell?_setCell_other]
    · exact hq.open_
    · intro e
      injection e with _ e2
      omega
  obtain ⟨-, -, -, hcell⟩ := hr.cells
  rw [h0] at hn hcell
  simp only [List.length_cons] at hn
  obtain ⟨b', off', rfl, hx⟩ := hcell (by omega)
  have hx0 := hx 0 (.int .i64 x) rfl
  rw [Nat.add_zero] at hx0
  have hne : ((n : Int) == 0) = false := by simp; omega
  have hpos : (0 : Int) < n := by omega
  have hf := hq.free k.toNat
  have hf4 := hq.free 4
  have HQ := Lib.hid hQ2
  have hn9 : (n : Int) ≤ 4000000000000 := by
    have := hr.cells.2.1; have := hr.cells.2.2.1; omega
  clear hcell hx hn h0 hQ hQ2 hr hcut e9
  by_cases hc1 : c = 1
  · subst hc1
    have e : cutA (some ⟨b', off', none⟩) 1 1 = some ⟨b', off', none⟩ := rfl
    rw [e] at HQ
    go_enter Try.func30, Try.ntmps30
    go_wp2_with (go_at_call 47; refine (cIs_is h).mono ?_; rintro e w' ⟨rfl, rfl⟩)
    go_region
    all_goals
      go_wp2_with fail
      go_ret2
      exact ⟨rfl, HQ.out.drew, (((Keep.refl (only B) _).put _ _).put _ _).drew⟩
  · have e : cutA (some ⟨b', off', none⟩) c 1 = some ⟨b', off' + 1, none⟩ := by simp [cutA, hc1, Addr.add]
    rw [e] at HQ
    clear e
    go_enter Try.func30, Try.ntmps30
    go_wp2_with (go_at_call 47; refine (cIs_is h).mono ?_; rintro e w' ⟨rfl, rfl⟩)
    go_region
    all_goals
      go_wp2_with fail
      go_ret2
      exact ⟨rfl, HQ.out.drew, (((Keep.refl (only B) _).put _ _).put _ _).drew⟩

/-! Rests -/
def Qu.sum (q : Qu) : Nat → Nat
  | 0 => q.opn
  | k + 1 => q.sum k + (q.rows.getD k []).length
def Qu.rests (q : Qu) : Bool := q.sum 4 == 0
theorem Qu.len_of (q : Qu) (k : Nat) (h : k < 4) : q.len (k : Int) = (q.rows.getD k []).length := by
  have hc : cls (k : Int) = true := by simp [cls]; omega
  simp [Qu.len, hc, Qu.row]
theorem qLen_is {B : Nat} {q : Qu} {k : Int} {w : World} {n : Int} (h : QuAt w B q) (hn : q.len k = n) : Calls Try.prog 34 #[.pointer (some ⟨B, 0, none⟩), .int .i64 k] w fun e w' => e = .returned (.int .i64 n) ∧ w = w' := by
  rw [← hn]; exact qLen_any B q k w h

/-- The rows aren't of any size. -/
def Qu.small (q : Qu) : Prop := q.opn ≤ 1000000000 ∧ ∀ k, (q.rows.getD k []).length ≤ 1000000000
theorem Qu.sum_le (q : Qu) (h : q.small) (k : Nat) : q.sum k ≤ 1000000000 * (k + 1) := by
  induction k with
  | zero => have := h.1; simp [Qu.sum]; exact this
  | succ k ih => have := h.2 k; simp only [Qu.sum]; omega

set_option maxHeartbeats 400000 in
theorem qRests_any (B : Nat) (q : Qu) (w : World) (h : QuAt w B q) (hs : q.small) : Calls Try.prog 36 #[.pointer (some ⟨B, 0, none⟩)] w fun e w' => e = .returned (.bool q.rests) ∧ w = w' := by
  have HL := Lib.hid q.len_of
  have HS := Lib.hid (q.sum_le hs)
  have h2 := Lib.hid hs.2
  have h0 : (q.opn : Int) = (q.sum 0 : Nat) := rfl
  have H0 := Lib.hid h0
  clear hs h0
  go_enter Try.func36, Try.ntmps36
  go_wp2_with (go_at_call 35; refine (qOpen_any _ _ _ h).mono ?_; rintro e w' ⟨rfl, rfl⟩)
  go_loop [3, 7] (fun n i => ∃ k : Nat, k ≤ 4 ∧ i = .int .i64 k ∧ n = .int .i64 (q.sum k)) (fun _ i => 4 - (intOf i).toNat)
  case atStart => exact ⟨0, by omega, rfl, by rw [H0.out]⟩
  case round =>
    obtain ⟨k, hk, rfl, rfl⟩ := hrel
    by_cases hlt : k < 4
    · have b1 := HS.out k
      have b2 := h2.out k
      have e : ((q.sum (k + 1) : Nat) : Int) = (q.sum k : Int) + ((q.rows.getD k []).length : Nat) := by simp only [Qu.sum]; omega
      have HE := Lib.hid e
      have HK := Lib.hid (HL.out k hlt)
      clear e
      generalize (q.rows.getD k []).length = m at *
      generalize q.sum k = s at *
      go_wp2_with (go_at_call 34; refine (qLen_is h HK.out).mono ?_; rintro e w' ⟨rfl, rfl⟩)
      go_round
      case rel => exact ⟨k + 1, by omega, by go_num, by rw [HE.out]⟩
      case measure => simp [intOf]; omega
    · obtain rfl : k = 4 := by omega
      have HR : Hid (q.rests = ((q.sum 4 : Int) == 0)) := by
        rw [Hid, Qu.rests, Bool.eq_iff_iff]; simp
      go_wp2_with fail
      go_ret
      rw [HR.out]
      exact ⟨rfl, rfl⟩

end Go.Proofs.Ytcdmlinaebnbcaa
