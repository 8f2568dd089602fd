/- The walk of QueueTurns. -/
import Derived.Test.YtcdmlinaebnbcaaLawQueue2
namespace Go.Proofs.Ytcdmlinaebnbcaa
open Go.RowKit

/-- What waits: each number once, of its class, rising. -/
def RowsOk (z : List Int) (n : Nat) (q : Qu) : Prop := ∀ j, j < 4 → (∀ b ∈ q.rw j, 0 ≤ b ∧ b < n ∧ z.getD b.toNat 0 % 4 = j) ∧ (q.rw j).Pairwise (· < ·)
theorem RowsOk.put {z : List Int} {n : Nat} {q : Qu} (h : RowsOk z n q) (hq : q.rows.length = 4) (y : Nat) (hy : y < 4) (hz : z.getD n 0 % 4 = y) : RowsOk z (n + 1) (q.put y n) := by
  intro j hj
  obtain ⟨h1, h2⟩ := h j hj
  rw [q.put_rw hq y hy]
  have h1' : ∀ b ∈ q.rw j, 0 ≤ b ∧ b < (n + 1 : Nat) ∧ z.getD b.toNat 0 % 4 = j := fun b hb => by
    obtain ⟨a, b', c⟩ := h1 b hb
    exact ⟨a, by omega, c⟩
  by_cases e : j = y
  · subst e
    rw [if_pos rfl]
    refine ⟨fun b hb => ?_, ?_⟩
    · rcases List.mem_append.1 hb with hb | hb
      · exact h1' b hb
      · simp at hb
        subst hb
        exact ⟨by omega, by omega, by simpa using hz⟩
    · rw [List.pairwise_append]
      refine ⟨h2, by simp, fun a ha b hb => ?_⟩
      simp at hb
      subst hb
      exact (h1 a ha).2.1
  · rw [if_neg e]
    exact ⟨h1', h2⟩

structure TurnInv (z : List Int) (n : Nat) (q : Qu) (last : Int) (lc : Nat) : Prop where
  ok : RowsOk z n q
  low : ∀ j, j < lc → q.rw j = []
  gt : ∀ b ∈ q.rw lc, last < b
  lt : lc < 4

theorem TurnInv.step {z : List Int} {n : Nat} {q : Qu} {last : Int} {lc : Nat} (h : TurnInv z n q last lc) (hq : q.rows.length = 4) (ht : 1 ≤ q.tot) :
    ∃ (m : Nat) (x : Int) (xs : List Int), m < 4 ∧ (∀ k, k < m → q.rw k = []) ∧ q.rw m = x :: xs ∧ 0 ≤ x ∧ x < n ∧ z.getD x.toNat 0 % 4 = m ∧ lc ≤ m ∧ (m = lc → last < x) ∧ TurnInv z n (q.take m) x m := by
  have key : ∀ m, m < 4 → (∀ k, k < m → q.rw k = []) → q.rw m ≠ [] →
      ∃ (m : Nat) (x : Int) (xs : List Int), m < 4 ∧ (∀ k, k < m → q.rw k = []) ∧ q.rw m = x :: xs ∧ 0 ≤ x ∧ x < n ∧ z.getD x.toNat 0 % 4 = m ∧ lc ≤ m ∧ (m = lc → last < x) ∧ TurnInv z n (q.take m) x m := by
    intro m hm hk hne
    cases hr : q.rw m with
    | nil => exact absurd hr hne
    | cons x xs =>
      obtain ⟨h1, h2⟩ := h.ok m hm
      rw [hr] at h1 h2
      obtain ⟨a, b, c⟩ := h1 x (by simp)
      rw [List.pairwise_cons] at h2
      have hlm : lc ≤ m := by
        rcases Nat.lt_or_ge m lc with hl | hl
        · rw [h.low m hl] at hr; cases hr
        · exact hl
      refine ⟨m, x, xs, hm, hk, hr, a, b, c, hlm, fun e => ?_, ⟨fun j hj => ?_, fun j hj => ?_, fun b hb => ?_, hm⟩⟩
      · subst e
        exact h.gt x (by rw [hr]; simp)
      · rw [q.take_rw hq m hm]
        by_cases e : j = m
        · subst e
          rw [if_pos rfl, hr]
          exact ⟨fun b hb => h1 b (by simp at hb; simp [hb]), by simpa using h2.2⟩
        · rw [if_neg e]
          exact h.ok j hj
      · rw [q.take_rw hq m hm, if_neg (by omega)]
        exact hk j hj
      · rw [q.take_rw hq m hm, if_pos rfl, hr] at hb
        exact h2.1 b (by simpa using hb)
  by_cases e0 : q.rw 0 = []
  · by_cases e1 : q.rw 1 = []
    · by_cases e2 : q.rw 2 = []
      · by_cases e3 : q.rw 3 = []
        · simp [Qu.tot, e0, e1, e2, e3] at ht
        · exact key 3 (by omega) (fun k hk => by rcases (show k = 0 ∨ k = 1 ∨ k = 2 by omega) with rfl | rfl | rfl <;> assumption) e3
      · exact key 2 (by omega) (fun k hk => by rcases (show k = 0 ∨ k = 1 by omega) with rfl | rfl <;> assumption) e2
    · exact key 1 (by omega) (fun k hk => by rcases (show k = 0 by omega) with rfl; assumption) e1
  · exact key 0 (by omega) (fun k hk => absurd hk (by omega)) e0
theorem Qu.empty_of (q : Qu) (ht : q.tot = 0) (k : Nat) (hk : k < 4) : q.rw k = [] := by
  simp only [Qu.tot] at ht
  apply List.eq_nil_of_length_eq_zero
  rcases (show k = 0 ∨ k = 1 ∨ k = 2 ∨ k = 3 by omega) with rfl | rfl | rfl | rfl <;> omega

set_option maxRecDepth 100000 in
set_option maxHeartbeats 1000000 in
theorem queueTurns_any (a0 : Option Addr) (n0 c0 : Nat) (z0 : List Int) (w : World) (hw0 : Ints .u8 w a0 n0 z0) (hm0 : n0 ≤ maxLen) :
    Calls Try.prog 10 #[.slice a0 n0 c0] w fun e w' => e = .returned (.bool true) ∧ Keep none_ w w' := by
  unfold maxLen at hm0
  by_cases hbig0 : 100 < n0
  · clear hw0
    go_enter Try.func10, Try.ntmps10
    go_wp2_with (go_at_call 28; refine (awake14_any _).mono ?_; rintro e w1 ⟨rfl, hk⟩)
    go_ret
    exact ⟨rfl, hk⟩
  go_enter Try.func10, Try.ntmps10
  go_wp2_with first | (go_at_call 29; refine (qNew_any _).mono ?_; rintro e w1 ⟨rfl, hq1, hk1⟩) | (go_at_call 36; refine (qRests_is (p := true) hq1 ⟨by decide, fun k => by match k with | 0 => decide | 1 => decide | 2 => decide | 3 => decide | k + 4 => simp⟩ rfl).mono ?_; rintro e w2 ⟨rfl, rfl⟩)
  go_loopg [4] n0 (fun g i wr => ∃ (k : Nat) (q : Qu), g + k = n0 ∧ i = .int .i64 k ∧ QuAt wr w.heap.size q ∧ q.opn = 0 ∧ q.tot = k ∧ RowsOk z0 k q ∧ Keep none_ w wr)
  case atStart => exact ⟨0, _, rfl, rfl, hq1, rfl, rfl, fun j hj => by rcases (show j = 0 ∨ j = 1 ∨ j = 2 ∨ j = 3 by omega) with rfl | rfl | rfl | rfl <;> simp [Qu.rw], hk1⟩
  case round =>
    clear hq1 hk1
    obtain ⟨k, q, hg, rfl, hq, ho, ht, hok, hk⟩ := hrel
    have hql := hq.len
    by_cases hlt : k < n0
    · obtain ⟨b, off, rfl, hc⟩ := hw0.at_ (by omega)
      have hck := hk.still (hc k hlt)
      have hbd := bounds_u8 (hw0.bound k hlt)
      have hx0 : 0 ≤ z0.getD k 0 % 4 := Int.emod_nonneg _ (by omega)
      have hx4 : z0.getD k 0 % 4 < 4 := Int.emod_lt_of_pos _ (by omega)
      obtain ⟨y, hy⟩ : ∃ y : Nat, (y : Int) = z0.getD k 0 % 4 := ⟨(z0.getD k 0 % 4).toNat, by omega⟩
      have hle := q.rw_le hql y
      have hput := qPut_yes w.heap.size q (z0.getD k 0 % 4) k wr hq (by simp [putOk, cls] at *; omega) (by rw [← hy, q.row_of]; omega)
      have htot := q.put_tot hql y (by omega) k
      have hok2 := hok.put hql y (by omega) hy.symm
      rw [hy] at htot hok2
      generalize z0.getD k 0 = x at *
      have HP := Lib.hid hput; have HT := Lib.hid htot; have H0 := Lib.hid ho; have H1 := Lib.hid ht; have HK := Lib.hid hok2
      clear hput htot hy hc hle ho ht hok hok2
      go_wp2_with (go_at_call 33; refine HP.out.mono ?_; rintro e w2 ⟨rfl, hq2, hk2⟩)
      go_roundg (gk - 1)
      case measure => omega
      case rel => exact ⟨k + 1, _, by omega, by go_num, hq2, H0.out, by rw [HT.out, H1.out], HK.out, hk.onNew hk2 (Nat.le_refl _)⟩
    · obtain rfl : k = n0 := by omega
      have H0 := Lib.hid ho; have H1 := Lib.hid ht
      have HI : Hid (TurnInv z0 k q (-1) 0) := ⟨hok, fun j hj => absurd hj (by omega), fun b hb => by have := ((hok 0 (by omega)).1 b hb).1; omega, by omega⟩
      clear ho ht hg hok
      go_wp2_with fail
      obtain ⟨wo, rfl⟩ : ∃ wo : World, wo = wr := ⟨_, rfl⟩
      go_loopg [5, 6, 7] k (fun g la lc i wr => ∃ (j : Nat) (q : Qu) (last : Int) (c : Nat), g + j = k ∧ i = .int .i64 j ∧ la = .int .i64 last ∧ lc = .int .i64 c ∧ QuAt wr w.heap.size q ∧ q.opn = j ∧ q.tot + j = k ∧ TurnInv z0 k q last c ∧ Keep none_ w wr)
      case atStart => exact ⟨0, q, -1, 0, rfl, rfl, rfl, rfl, hq, H0.out, H1.out, HI.out, hk⟩
      case round =>
        clear hq hk hql H0 H1 HI
        obtain ⟨j, q, last, c, hg, rfl, rfl, rfl, hq, ho, ht, hi, hk⟩ := hrel
        have hql := hq.len
        by_cases hlt : j < k
        · obtain ⟨m, x, xs, hm4, hlow, hrm, hx0, hxn, hz, hcm, hgt, hi2⟩ := hi.step hql (by omega)
          obtain ⟨b, off, rfl, hc⟩ := hw0.at_ (by omega)
          have hcw := hc x.toNat (by omega)
          have hbd := bounds_u8 (hw0.bound x.toNat (by omega))
          have HCW := Lib.hid hcw
          have HA := Lib.hid (qAny_yes w.heap.size q m x xs wr hq hm4 hlow hrm (by omega))
          have htot := q.take_tot hql m hm4 (by rw [hrm]; simp)
          have HO : Hid ((q.take (m : Int)).opn = j + 1) := by simp [Hid, Qu.take, ho]
          have HI := Lib.hid hi2
          generalize q.take (m : Int) = q2 at *
          generalize z0.getD x.toNat 0 = v at *
          have hzb : (v % 4 == (m : Int)) = true := beq_iff_eq.2 hz
          have hzc : (v % 4 != (m : Int)) = false := by simp [hz]
          have hzd : ¬ ¬ (v % 4 = (m : Int)) := fun h => h hz
          have hcI : (c : Int) ≤ m := by omega
          clear hc hcw hlow hrm hi hi2 hz
          by_cases hmc : m = c
          · subst hmc
            have hgt' := hgt rfl
            clear hgt
            go_wp2_with fail
            refine HA.out.mono ?_
            rintro e w2 ⟨rfl, hq2, hk2⟩
            have hkk := hk.onNew hk2 (Nat.le_refl _)
            have hck := hkk.still HCW.out
            clear hk hk2
            go_wp2_with fail
            go_roundg (gk - 1)
            case measure => omega
            case rel => exact ⟨j + 1, q2, x, m, by omega, by go_num, rfl, rfl, hq2, HO.out, by omega, HI.out, hkk⟩
          · have hne : ((m : Int) == c) = false := by simp; omega
            have hcI2 : (c : Int) < m := by omega
            clear hgt
            go_wp2_with fail
            refine HA.out.mono ?_
            rintro e w2 ⟨rfl, hq2, hk2⟩
            have hkk := hk.onNew hk2 (Nat.le_refl _)
            have hck := hkk.still HCW.out
            clear hk hk2
            go_wp2_with fail
            go_roundg (gk - 1)
            case measure => omega
            case rel => exact ⟨j + 1, q2, x, m, by omega, by go_num, rfl, rfl, hq2, HO.out, by omega, HI.out, hkk⟩
        · obtain rfl : j = k := by omega
          have ht0 : q.tot = 0 := by omega
          have HA := Lib.hid (qAny_none w.heap.size q wr hq (fun i hi => q.empty_of ht0 i hi))
          have HO := Lib.hid ho
          have HT := Lib.hid ht0
          have hoI : (q.opn : Int) = j := by omega
          have HOI := Lib.hid hoI
          clear ht0 ho hoI ht hi hw0 hg
          go_wp2_with fail
          refine HA.out.mono ?_
          rintro e w2 ⟨rfl, rfl⟩
          go_wp2_with fail
          refine (qOpen_is hq HOI.out).mono ?_
          rintro e w2 ⟨rfl, rfl⟩
          go_wp2_with fail
          obtain ⟨wo2, rfl⟩ : ∃ wo2 : World, wo2 = wr := ⟨_, rfl⟩
          go_loopg [14] j (fun g i wr => ∃ (p : Nat) (q : Qu), g + p = j ∧ i = .int .i64 p ∧ QuAt wr w.heap.size q ∧ q.opn + p = j ∧ q.tot = 0 ∧ Keep none_ w wr)
          case atStart => exact ⟨0, q, rfl, rfl, hq, HO.out, HT.out, hk⟩
          case round =>
            clear hq hk HO HT HOI hql
            obtain ⟨p, q, hg, rfl, hq, ho, ht, hk⟩ := hrel
            have hql := hq.len
            have hsm := Lib.hid (q.small_of hql (by omega) (by omega))
            have hrs := q.rests_of
            by_cases hlt : p < j
            · have HR : Hid (q.rests = false) := by rw [Hid, hrs]; simp; omega
              have HE : Hid (q.doneE = 0) := by simp only [Hid, Qu.doneE]; rw [if_neg (by omega)]
              have HO : Hid (q.doneQ.opn + (p + 1) = j) := by simp only [Hid, Qu.doneQ, Qu.setOpn]; omega
              have HT : Hid (q.doneQ.tot = 0) := by rw [Hid, ← ht]; rfl
              clear hrs ht
              go_wp2_with fail
              refine (qRests_is hq hsm.out HR.out).mono ?_
              rintro e w2 ⟨rfl, rfl⟩
              go_wp2_with fail
              refine (qDone_is hq (by omega) HE.out rfl).mono ?_
              rintro e w2 ⟨rfl, hq2, hk2⟩
              go_wp2_with fail
              go_roundg (gk - 1)
              case measure => omega
              case rel => exact ⟨p + 1, q.doneQ, by omega, by go_num, hq2, HO.out, HT.out, hk.onNew hk2 (Nat.le_refl _)⟩
            · have ho0 : q.opn = 0 := by omega
              have HR : Hid (q.rests = true) := by rw [Hid, hrs, ho0, ht]; rfl
              have HE : Hid (q.doneE = 11) := by simp only [Hid, Qu.doneE]; rw [if_pos ho0]
              have hop9 : q.opn ≤ 1000000000 := by omega
              clear hrs ht ho0 ho
              go_wp2_with fail
              refine (qRests_is hq hsm.out HR.out).mono ?_
              rintro e w2 ⟨rfl, rfl⟩
              go_wp2_with fail
              refine (qDone_is hq (by omega) HE.out rfl).mono ?_
              rintro e w2 ⟨rfl, hq2, hk2⟩
              go_wp2_with (go_at_call 28; refine (awake14_any _).mono ?_; rintro e w1 ⟨rfl, hk3⟩)
              go_ret
              exact ⟨rfl, (hk.onNew hk2 (Nat.le_refl _)).trans hk3⟩
end Go.Proofs.Ytcdmlinaebnbcaa
