/- The walk of QueueOpens. -/
import Derived.Test.YtcdmlinaebnbcaaQueuePlain
namespace Go.Proofs.Ytcdmlinaebnbcaa
open Go.RowKit

theorem qOpen_is {B : Nat} {q : Qu} {w : World} {n : Int} (h : QuAt w B q) (hn : (q.opn : Int) = n) : Calls Try.prog 35 #[.pointer (some ⟨B, 0, none⟩)] w fun e w' => e = .returned (.int .i64 n) ∧ w = w' := by
  rw [← hn]; exact qOpen_any B q w h
theorem qRests_is {B : Nat} {q : Qu} {w : World} {p : Bool} (h : QuAt w B q) (hs : q.small) (hn : q.rests = p) : Calls Try.prog 36 #[.pointer (some ⟨B, 0, none⟩)] w fun e w' => e = .returned (.bool p) ∧ w = w' := by
  rw [← hn]; exact qRests_any B q w h hs
theorem qDone_is {B : Nat} {q q' : Qu} {w : World} {n : Int} (h : QuAt w B q) (hm : q.opn ≤ 1000000000) (h1 : q.doneE = n) (h2 : q.doneQ = q') : Calls Try.prog 32 #[.pointer (some ⟨B, 0, none⟩)] w fun e w' => e = .returned (.int .i64 n) ∧ QuAt w' B q' ∧ Keep (only B) w w' := by
  rw [← h1, ← h2]; exact qDone_any B q w h hm

set_option maxRecDepth 100000 in
set_option maxHeartbeats 1000000 in
theorem queueOpens_any (a0 : Option Addr) (n0 c0 : Nat) (z0 : List Int) (a1 : Option Addr) (n1 c1 : Nat) (z1 : List Int) (w : World) (hw0 : Ints .u8 w a0 n0 z0) (hm0 : n0 ≤ maxLen) (hw1 : Ints .u8 w a1 n1 z1) (hm1 : n1 ≤ maxLen) :
    Calls Try.prog 11 #[.slice a0 n0 c0, .slice a1 n1 c1] w fun e w' => e = .returned (.bool true) ∧ Keep none_ w w' := by
  unfold maxLen at hm0 hm1
  by_cases hbig0 : 60 < n0
  · clear hw0 hw1
    go_enter Try.func11, Try.ntmps11
    go_wp2_with (go_at_call 28; refine (awake14_any _).mono ?_; rintro e w1 ⟨rfl, hk⟩)
    go_ret
    exact ⟨rfl, hk⟩
  by_cases hbig1 : 60 < n1
  · clear hw0 hw1
    go_enter Try.func11, Try.ntmps11
    go_wp2_with (go_at_call 28; refine (awake14_any _).mono ?_; rintro e w1 ⟨rfl, hk⟩)
    go_ret
    exact ⟨rfl, hk⟩
  go_enter Try.func11, Try.ntmps11
  go_wp2_with (go_at_call 29; refine (qNew_any _).mono ?_; rintro e w1 ⟨rfl, hq1, hk1⟩)
  go_loopg [6] n0 (fun g i wr => ∃ (k : Nat) (q : Qu), g + k = n0 ∧ i = .int .i64 k ∧ QuAt wr w.heap.size q ∧ q.opn = 0 ∧ q.tot = k ∧ Keep none_ w wr)
  case atStart => exact ⟨0, _, rfl, rfl, hq1, rfl, rfl, hk1⟩
  case round =>
    clear hq1 hk1
    obtain ⟨k, q, hg, rfl, hq, ho, ht, hk⟩ := hrel
    have hql := hq.len
    by_cases hlt : k < n0
    · obtain ⟨b, off, rfl, hc⟩ := hw0.at_ (by omega)
      have hck := hk.still (hc k hlt)
      have hbd := bounds_u8 (hw0.bound k hlt)
      generalize z0.getD k 0 = x at hck hbd
      have hx0 : 0 ≤ x % 4 := Int.emod_nonneg _ (by omega)
      have hx4 : x % 4 < 4 := Int.emod_lt_of_pos _ (by omega)
      obtain ⟨y, hy⟩ : ∃ y : Nat, (y : Int) = x % 4 := ⟨(x % 4).toNat, by omega⟩
      have hle := q.rw_le hql y
      have hput := qPut_yes w.heap.size q (x % 4) k wr hq (by simp [putOk, cls, hx0, hx4]) (by rw [← hy, q.row_of]; omega)
      have htot := q.put_tot hql y (by omega) k
      rw [hy] at htot
      have HP := Lib.hid hput; have HT := Lib.hid htot; have H0 := Lib.hid ho; have H1 := Lib.hid ht
      clear hput htot hy hc hle ho ht
      go_wp2_with (go_at_call 33; refine HP.out.mono ?_; rintro e w2 ⟨rfl, hq2, hk2⟩)
      go_roundg (gk - 1)
      case measure => omega
      case rel => exact ⟨k + 1, _, by omega, by go_num, hq2, H0.out, by rw [HT.out, H1.out], hk.onNew hk2 (Nat.le_refl _)⟩
    · obtain rfl : k = n0 := by omega
      have H0 := Lib.hid ho; have H1 := Lib.hid ht
      clear ho ht hg
      go_wp2_with fail
      obtain ⟨wo, rfl⟩ : ∃ wo : World, wo = wr := ⟨_, rfl⟩
      go_loopg [7, 8, 9] n1 (fun g op lf i wr => ∃ (j : Nat) (q : Qu), g + j = n1 ∧ i = .int .i64 j ∧ QuAt wr w.heap.size q ∧ q.opn ≤ j ∧ q.tot ≤ 60 ∧ op = .int .i64 q.opn ∧ lf = .int .i64 q.tot ∧ Keep none_ w wr)
      case atStart => exact ⟨0, q, rfl, rfl, hq, by rw [H0.out]; exact Nat.le_refl _, by rw [H1.out]; omega, by rw [H0.out]; rfl, by rw [H1.out], hk⟩
      case round =>
        clear hq hk hql
        obtain ⟨j, q, hg, rfl, hq, ho, ht, rfl, rfl, hk⟩ := hrel
        have hql := hq.len
        by_cases hlt : j < n1
        · obtain ⟨b, off, rfl, hc⟩ := hw1.at_ (by omega)
          have hcw := hc j hlt
          have hbd := bounds_u8 (hw1.bound j hlt)
          generalize z1.getD j 0 = x at hcw hbd
          have hck := hk.still hcw
          have HCW := Lib.hid hcw
          have hx0 : 0 ≤ x % 5 := Int.emod_nonneg _ (by omega)
          have hx5 : x % 5 < 5 := Int.emod_lt_of_pos _ (by omega)
          clear hc hcw
          by_cases h4 : x % 5 = 4
          · have hxb : (x % 5 == 4) = true := by simp [h4]
            by_cases hz : q.opn = 0
            · have HE : Hid (q.doneE = 11) := by simp [Hid, Qu.doneE, hz]
              have HQ : Hid (q.doneQ = q) := by
                obtain ⟨r, o⟩ := q
                simp at hz; subst hz; rfl
              have HZ := Lib.hid hz
              rw [HZ.out]
              clear h4 hz
              go_wp2_with (go_at_call 32; refine (qDone_is hq (by omega) HE.out HQ.out).mono ?_; rintro e w2 ⟨rfl, hq2, hk2⟩)
              go_roundg (gk - 1)
              case measure => omega
              case rel => exact ⟨j + 1, q, by omega, by go_num, hq2, by omega, by omega, by rw [HZ.out]; go_num, by go_num, hk.onNew hk2 (Nat.le_refl _)⟩
            · have HE : Hid (q.doneE = 0) := by simp [Hid, Qu.doneE, hz]
              have hop : (1 : Int) ≤ q.opn := by omega
              have hdec : decide (0 < q.opn) = true := by simp; omega
              clear h4
              go_wp2_with (go_at_call 32; refine (qDone_is hq (by omega) HE.out rfl).mono ?_; rintro e w2 ⟨rfl, hq2, hk2⟩)
              all_goals
                go_roundg (gk - 1)
                case measure => omega
                case rel => exact ⟨j + 1, q.doneQ, by omega, by go_num, hq2, by simp [Qu.doneQ, Qu.setOpn]; omega, ht, congrArg (Value.int .i64) (by simp [Qu.doneQ, Qu.setOpn]; omega), by rfl, hk.onNew hk2 (Nat.le_refl _)⟩
          · have hxb : (x % 5 == 4) = false := by simp [h4]
            obtain ⟨y, hy⟩ : ∃ y : Nat, (y : Int) = x % 5 := ⟨(x % 5).toNat, by omega⟩
            have hcl : cls (x % 5) = true := by simp [cls]; omega
            have hln : q.len (x % 5) = (q.rw y).length := by rw [← hy]; exact q.len_rw y (by omega)
            have hry : q.row (x % 5) = q.rw y := by rw [← hy, q.row_of]
            have HLN := Lib.hid hln
            have hle := q.rw_le hql y
            cases hr : q.rw y with
            | nil =>
              have hle0 : q.len (x % 5) = 0 := by rw [hln, hr]; rfl
              have HL0 := Lib.hid hle0
              have HT := Lib.hid (fun wx (h : QuAt wx w.heap.size q) => qTake_empty w.heap.size q (x % 5) wx h hcl (by rw [hry, hr]))
              clear h4 hy hcl hln hry hle hle0 hr
              go_wp2_with first | (go_at_call 34; refine (qLen_is hq HL0.out).mono ?_; rintro e w2 ⟨rfl, rfl⟩) | (go_at_call 30; refine (HT.out _ hq).mono ?_; rintro e w2 ⟨rfl, rfl⟩)
              go_roundg (gk - 1)
              case measure => omega
              case rel => exact ⟨j + 1, q, by omega, by go_num, hq, by omega, ht, by go_num, by go_num, hk⟩
            | cons v vs =>
              have hlp : q.len (x % 5) = ((vs.length + 1 : Nat) : Int) := by rw [hln, hr]; rfl
              have HL0 := Lib.hid hlp
              have HT := Lib.hid (fun wx (h : QuAt wx w.heap.size q) => qTake_yes w.heap.size q (x % 5) v vs wx h hcl (by rw [hry, hr]) (by omega))
              have hrw2 : (q.take (x % 5)).rw y = vs := by rw [← hy, q.take_rw hql y (by omega)]; simp [hr]
              have hlp2 : (q.take (x % 5)).len (x % 5) = (vs.length : Nat) := by rw [← hy, Qu.len_rw _ _ (by omega), hy, hrw2]
              have HL2 := Lib.hid hlp2
              have htot : (q.take (x % 5)).tot + 1 = q.tot := by rw [← hy]; exact q.take_tot hql y (by omega) (by rw [hr]; simp)
              have hopn : (q.take (x % 5)).opn = q.opn + 1 := rfl
              have hvl : vs.length ≤ 1000 := by rw [hr] at hle; simp at hle; omega
              have HO := Lib.hid hopn
              generalize vs.length = m at *
              have hif : (if 0 < m then (m : Int) else 0) = m := by split <;> omega
              clear h4 hy hcl hln hry hle hr hlp hlp2 hrw2 hopn
              generalize q.take (x % 5) = q2 at *
              go_wp2_with fail
              refine (qLen_is hq HL0.out).mono ?_
              rintro e w2 ⟨rfl, rfl⟩
              go_wp2_with fail
              refine (HT.out _ hq).mono ?_
              rintro e w3 ⟨rfl, hq3, hk3⟩
              have hkk := hk.onNew hk3 (Nat.le_refl _)
              have hck3 := hkk.still HCW.out
              clear hk3 hk hck hq
              go_wp2_with (go_at_call 34; refine (qLen_is hq3 HL2.out).mono ?_; rintro e w2 ⟨rfl, rfl⟩)
              go_roundg (gk - 1)
              case measure => omega
              case rel => exact ⟨j + 1, q2, by omega, by go_num, hq3, by rw [HO.out]; omega, by omega, by rw [HO.out]; go_num, by rw [show (q.tot : Int) - 1 = q2.tot by omega], hkk⟩
        · clear hw1
          have HR : Hid (q.rests = ((q.opn : Int) + q.tot == 0)) := by
            rw [Hid, q.rests_of, Bool.eq_iff_iff]; simp; omega
          have hsm := q.small_of hql (by omega) (by omega)
          have HS := Lib.hid hsm
          have e0 := q.len_rw 0 (by omega)
          have e1 := q.len_rw 1 (by omega)
          have e2 := q.len_rw 2 (by omega)
          have e3 := q.len_rw 3 (by omega)
          have hsum : ((q.rw 0).length : Int) + (q.rw 1).length + (q.rw 2).length + (q.rw 3).length = q.tot := by simp only [Qu.tot]; omega
          have b0 := q.rw_le hql 0
          have b1 := q.rw_le hql 1
          have b2 := q.rw_le hql 2
          have b3 := q.rw_le hql 3
          have E0 := Lib.hid e0; have E1 := Lib.hid e1; have E2 := Lib.hid e2; have E3 := Lib.hid e3
          generalize (q.rw 0).length = l0 at *
          generalize (q.rw 1).length = l1 at *
          generalize (q.rw 2).length = l2 at *
          generalize (q.rw 3).length = l3 at *
          have hb : ((l0 : Int) + l1 + l2 + l3 == q.tot) = true := by simpa using hsum
          clear e0 e1 e2 e3 hsm hsum
          go_wp2_with fail
          refine (qOpen_any _ _ _ hq).mono ?_
          rintro e w2 ⟨rfl, rfl⟩
          go_wp2_with fail
          refine (qRests_is hq HS.out HR.out).mono ?_
          rintro e w2 ⟨rfl, rfl⟩
          go_wp2_with fail
          refine (qLen_is hq E0.out).mono ?_
          rintro e w2 ⟨rfl, rfl⟩
          go_wp2_with fail
          refine (qLen_is hq E1.out).mono ?_
          rintro e w2 ⟨rfl, rfl⟩
          go_wp2_with fail
          refine (qLen_is hq E2.out).mono ?_
          rintro e w2 ⟨rfl, rfl⟩
          go_wp2_with fail
          refine (qLen_is hq E3.out).mono ?_
          rintro e w2 ⟨rfl, rfl⟩
          go_wp2_with (go_at_call 28; refine (awake14_any _).mono ?_; rintro e w1 ⟨rfl, hk2⟩)
          go_ret
          exact ⟨rfl, hk.trans hk2⟩
end Go.Proofs.Ytcdmlinaebnbcaa
