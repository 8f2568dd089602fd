/- slices.SortStableFunc over at most 20 numbers, by Spread's closure. -/
import Derived.Test.YtcdmlinaebnbcaaCmp
import Derived.Deep.LoopGhost
import Derived.BigRegion
namespace Go.Proofs.Ytcdmlinaebnbcaa
open Go.RowKit

def insIn (key : Int → Int) : Nat → List Int → List Int
  | 0, l => l
  | j + 1, l => if key (l.getD (j + 1) 0) < key (l.getD j 0) then insIn key j ((l.set (j + 1) (l.getD j 0)).set j (l.getD (j + 1) 0)) else l
def sortTo (key : Int → Int) : Nat → List Int → List Int
  | 0, l => l
  | i + 1, l => insIn key i (sortTo key i l)
theorem insIn_len (key : Int → Int) (j : Nat) (l : List Int) : (insIn key j l).length = l.length := by
  induction j generalizing l with
  | zero => rfl
  | succ j ih =>
    simp only [insIn]
    split
    · rw [ih]; simp
    · rfl
theorem sortTo_len (key : Int → Int) (i : Nat) (l : List Int) : (sortTo key i l).length = l.length := by
  induction i with
  | zero => rfl
  | succ i ih => simp only [sortTo]; rw [insIn_len, ih]

/-- The sort's state: the row's numbers. -/
structure SS (w : World) (F nr n : Nat) (l : List Int) (W : World) : Prop where
  len : l.length = n
  blk : Blk W F (l.map (Value.int .i64)) 3
  keep : Keep (only F) w W
  bnd : ∀ j, j < n → 0 ≤ l.getD j 0 ∧ l.getD j 0 < nr

theorem SS.drewN {w : World} {F nr n : Nat} {l : List Int} {W : World} (h : SS w F nr n l W) (m : Nat) : SS w F nr n l (W.drewN m) := ⟨h.len, h.blk, h.keep.drewN m, h.bnd⟩
theorem SS.drew {w : World} {F nr n : Nat} {l : List Int} {W : World} (h : SS w F nr n l W) : SS w F nr n l W.drew := ⟨h.len, h.blk, h.keep.drew, h.bnd⟩
theorem SS.cell {w : World} {F nr n : Nat} {l : List Int} {W : World} (h : SS w F nr n l W) (j : Nat) (hj : j < n) : W.cell? ⟨F, j, none⟩ = some (.int .i64 (l.getD j 0)) := by
  have hl := h.len
  refine h.blk.cell j ?_
  rw [List.getElem?_map, List.getElem?_eq_getElem (by omega), getD_of (by omega)]
  rfl
theorem SS.put {w : World} {F nr n : Nat} {l : List Int} {W : World} (h : SS w F nr n l W) (j : Nat) (x : Int) (hx : 0 ≤ x ∧ x < nr) : SS w F nr n (l.set j x) (W.setCell ⟨F, j, none⟩ (.int .i64 x)) := by
  refine ⟨by simp [h.len], ?_, h.keep.put _ _, fun i hi => ?_⟩
  · rw [List.map_set]; exact h.blk.set j _
  · have hl := h.len
    have hb := h.bnd i hi
    rw [List.getD_eq_getElem?_getD, List.getElem?_set]
    split
    · split
      · exact hx
      · omega
    · rw [← List.getD_eq_getElem?_getD]; exact hb

set_option maxRecDepth 100000 in
set_option maxHeartbeats 4000000 in
theorem ins_any (F RB nr cr n c : Nat) (l : List Int) (ar : Option Addr) (rs : List Int) (w : World) (hF : SS w F nr n l w) (hR : Blk w RB [.slice ar nr cr] 67) (hz : IntCells .u16 w ar nr rs) (hne : RB ≠ F)
    (hlow : ∀ b off, ar = some ⟨b, off, none⟩ → b ≠ F) (hn1 : 1 ≤ n) (hn : n ≤ 1000) :
    Calls Try.prog 58 #[.slice (some ⟨F, 0, none⟩) n c, .int .i64 0, .int .i64 n, .func (.func 52) #[] #[.pointer (some ⟨RB, 0, none⟩)]] w fun e w' => e = .returned (.tuple #[]) ∧ SS w F nr n (sortTo (fun x => rs.getD x.toNat 0) n l) w' := by
  have hcmp : ∀ W (h : Keep (only F) w W) (x y : Int), (0 ≤ x ∧ x < nr) → (0 ≤ y ∧ y < nr) → Calls Try.prog 52 #[.int .i64 x, .int .i64 y, .pointer (some ⟨RB, 0, none⟩)] W fun e w' => e = .returned (.int .i64 (cmpL (rs.getD x.toNat 0) (rs.getD y.toNat 0))) ∧ ∃ m, w' = W.drewN m := by
    intro W h x y hx hy
    obtain ⟨x', rfl⟩ : ∃ x' : Nat, x = x' := ⟨x.toNat, by omega⟩
    obtain ⟨y', rfl⟩ : ∃ y' : Nat, y = y' := ⟨y.toNat, by omega⟩
    have hz' : IntCells .u16 W ar nr rs := by
      refine ⟨hz.len, fun h0 => ?_⟩
      obtain ⟨b, off, e, hc⟩ := hz.at_ h0
      exact ⟨b, off, e, fun j hj => h.cellv (hc j hj) (fun f => hlow b off e f)⟩
    exact sp1_any x' y' RB nr cr ar rs W (h.blk hR (fun f => hne f)) hz' (by omega) (by omega)
  generalize hkey : (fun x : Int => rs.getD x.toNat 0) = key
  have hkx : ∀ x : Int, rs.getD x.toNat 0 = key x := fun x => by rw [← hkey]
  simp only [hkx] at hcmp
  have HC := Lib.hid hcmp
  have S0 := Lib.hid hF
  clear hcmp hkx hkey hz hR hF hlow
  go_enter Try.func58, Try.ntmps58
  go_wp2_with fail
  go_loopg [8] (n - 1) (fun g vi wr => ∃ (i : Nat) (cur : List Int), vi = .int .i64 ((i : Int) + 1) ∧ g + i + 1 = n ∧ Hid (sortTo key (i + 1) l = cur) ∧ Hid (SS w F nr n cur wr))
  case atStart => exact ⟨0, l, rfl, by omega, rfl, S0.out⟩
  case round =>
    clear S0
    obtain ⟨i, cur, rfl, hg, HO, S1⟩ := hrel
    by_cases hlt : i + 1 < n
    · have hltz : (i : Int) + 1 < n := by omega
      obtain ⟨g0, rfl⟩ : ∃ g0 : Nat, g0 = gk := ⟨_, rfl⟩
      obtain ⟨w0, rfl⟩ : ∃ w0 : World, w0 = wr := ⟨_, rfl⟩
      go_wp2_with fail
      go_loopg [9] n (fun g2 vj wr2 => ∃ (j : Nat) (dj : List Int), vj = .int .i64 (j : Int) ∧ j ≤ i + 1 ∧ j ≤ g2 ∧ Hid (insIn key j dj = insIn key (i + 1) cur) ∧ Hid (SS w F nr n dj wr2))
      case atStart => exact ⟨i + 1, cur, by go_num, by omega, by omega, rfl, S1.out⟩
      case round =>
        clear S1
        obtain ⟨j, dj, rfl, hji, hjg, HI, SJ⟩ := hrel
        have HOUT : Hid (dj = insIn key (i + 1) cur → sortTo key (i + 1 + 1) l = dj) := fun h => by rw [h, sortTo, HO.out]
        match j, hji, hjg, HI with
        | 0, hji, hjg, HI =>
          have hd : decide ((0 : Int) < 0) = false := rfl
          go_wp2_with fail
          go_quiet (fail)
          go_wp2_with fail
          go_roundg (g0 - 1)
          case measure => omega
          case rel => exact ⟨i + 1, _, by go_num, by omega, HOUT.out HI.out, SJ.out.drewN _⟩
        | jp + 1, hji, hjg, HI =>
          have c1 := SJ.out.cell (jp + 1) (by omega)
          have c0 := SJ.out.cell jp (by omega)
          have f1 := SJ.out.blk.free (jp + 1)
          have f0 := SJ.out.blk.free jp
          have b1 := SJ.out.bnd (jp + 1) (by omega)
          have b0 := SJ.out.bnd jp (by omega)
          obtain ⟨x, hx⟩ : ∃ x, x = dj.getD (jp + 1) 0 := ⟨_, rfl⟩
          obtain ⟨y, hy⟩ : ∃ y, y = dj.getD jp 0 := ⟨_, rfl⟩
          rw [← hx] at c1 b1
          rw [← hy] at c0 b0
          have hjz : decide ((0 : Int) < (jp : Int) + 1) = true := decide_eq_true (by omega)
          have hjz' : (0 : Int) < (jp : Int) + 1 := by omega
          have hjn : (jp : Int) + 1 < n := by omega
          have HCX := Lib.hid (fun m => HC.out (wr.drewN m) (SJ.out.keep.drewN m) x y b1 b0)
          obtain ⟨v, hv⟩ : ∃ v, v = cmpL (key x) (key y) := ⟨_, rfl⟩
          rw [← hv] at HCX
          have hstep : insIn key (jp + 1) dj = if key x < key y then insIn key jp ((dj.set (jp + 1) y).set jp x) else dj := by rw [insIn, ← hx, ← hy]
          by_cases hk : key x < key y
          · have hv1 : v = -1 := by rw [hv, cmpL, if_pos hk]
            rw [if_pos hk] at hstep
            rw [hv1] at HCX
            have HST := Lib.hid hstep
            have HB := Lib.hid (And.intro b1 b0)
            clear hv hv1 hk hstep hx hy b1 b0
            go_wp2_with fail
            go_quiet (first | (go_at_call 52; exact Calls.quiet_of (HCX.out _)))
            go_wp2_with fail
            go_region
            all_goals
              go_wp2_with fail
              go_roundg (gk - 1)
              case measure => omega
              case rel => exact ⟨jp, _, by go_num, by omega, by omega, by rw [← HI.out, HST.out]; exact rfl, ((SJ.out.drewN _).put (jp + 1) y HB.out.2).put jp x HB.out.1⟩
          · have hv1 : ¬ v < 0 := by
              rw [hv, cmpL, if_neg hk]
              split <;> omega
            have hv2 : decide (v < 0) = false := decide_eq_false hv1
            rw [if_neg hk] at hstep
            have HST := Lib.hid hstep
            have HB := Lib.hid (And.intro b1 b0)
            clear hv hk hstep hx hy b1 b0
            go_wp2_with fail
            go_quiet (first | (go_at_call 52; exact Calls.quiet_of (HCX.out _)))
            go_wp2_with fail
            go_roundg (g0 - 1)
            case measure => omega
            case rel => exact ⟨i + 1, _, by go_num, by omega, HOUT.out (by rw [← HI.out, HST.out]), SJ.out.drewN _⟩
    · have hlt' : ¬ (i : Int) + 1 < n := by omega
      have hin : i + 1 = n := by omega
      have HN := Lib.hid hin
      clear hin
      go_wp2_with fail
      go_end0
      exact ⟨rfl, by have h := HO.out; rw [HN.out] at h; rw [h]; exact S1.out⟩

set_option maxHeartbeats 1000000 in
theorem stable_any (F RB nr cr n c : Nat) (l : List Int) (ar : Option Addr) (rs : List Int) (w : World) (hF : SS w F nr n l w) (hR : Blk w RB [.slice ar nr cr] 67) (hz : IntCells .u16 w ar nr rs) (hne : RB ≠ F)
    (hlow : ∀ b off, ar = some ⟨b, off, none⟩ → b ≠ F) (hn1 : 1 ≤ n) (hn : n ≤ 19) :
    Calls Try.prog 56 #[.slice (some ⟨F, 0, none⟩) n c, .int .i64 n, .func (.func 52) #[] #[.pointer (some ⟨RB, 0, none⟩)]] w fun e w' => e = .returned (.tuple #[]) ∧ SS w F nr n (sortTo (fun x => rs.getD x.toNat 0) n l) w' := by
  have HC := Lib.hid (ins_any F RB nr cr n c l ar rs w hF hR hz hne hlow hn1 (by omega))
  clear hF hR hz hne hlow
  go_enter Try.func56, Try.ntmps56
  go_wp2_with fail
  go_loopw [7, 8] (fun a b wr => a = .int .i64 0 ∧ b = .int .i64 20 ∧ wr = w) (fun _ _ _ => 0)
  case atStart => exact ⟨rfl, rfl, rfl⟩
  case round =>
    obtain ⟨rfl, rfl, rfl⟩ := hrel
    have hn20 : ¬ (20 : Int) ≤ n := by omega
    go_wp2_with (go_at_call 58; refine HC.out.mono ?_; rintro e w1 ⟨rfl, hS⟩)
    have HS := Lib.hid hS
    clear hS
    go_loopw [6] (fun a wr => a = .int .i64 20 ∧ wr = w1) (fun _ _ => 0)
    case atStart => exact ⟨rfl, rfl⟩
    case round =>
      obtain ⟨rfl, rfl⟩ := hrel
      have hn20' : ¬ (20 : Int) < n := by omega
      go_wp2_with fail
      go_end0
      exact ⟨rfl, HS.out⟩

set_option maxHeartbeats 1000000 in
theorem sortS_any (F RB nr cr n c : Nat) (l : List Int) (ar : Option Addr) (rs : List Int) (w : World) (hF : SS w F nr n l w) (hR : Blk w RB [.slice ar nr cr] 67) (hz : IntCells .u16 w ar nr rs) (hne : RB ≠ F)
    (hlow : ∀ b off, ar = some ⟨b, off, none⟩ → b ≠ F) (hn1 : 1 ≤ n) (hn : n ≤ 19) :
    Calls Try.prog 51 #[.slice (some ⟨F, 0, none⟩) n c, .func (.func 52) #[] #[.pointer (some ⟨RB, 0, none⟩)]] w fun e w' => e = .returned (.tuple #[]) ∧ SS w F nr n (sortTo (fun x => rs.getD x.toNat 0) n l) w' := by
  have HC := Lib.hid (stable_any F RB nr cr n c l ar rs w hF hR hz hne hlow hn1 hn)
  clear hF hR hz hne hlow
  go_enter Try.func51, Try.ntmps51
  go_wp2_with (go_at_call 56; refine HC.out.mono ?_; rintro e w1 ⟨rfl, hS⟩)
  go_end0
  exact ⟨rfl, hS⟩
end Go.Proofs.Ytcdmlinaebnbcaa
