/- What stats.one, stats.alloc and stats.Total do. -/
import Derived.Test.YtcopkhhgcgfelaaDoorStats2
import Derived.Deep.QuietTactic
import Derived.BigQuiet
import Derived.StillTailTactics
import Derived.Deep.RegionHeld3
namespace Go.Proofs.YtcopkhhgcgfelaaDoor
open Go.RowKit

theorem one_any (b : Bool) (w : World) : Calls Tryd.prog 20 #[.bool b] w fun e w' => e = .returned (.int .i64 (b1 b)) ∧ w = w' := by
  cases b with
  | false =>
    go_enter Tryd.func20, Tryd.ntmps20
    go_wp2
    go_ret
    exact ⟨rfl, rfl⟩
  | true =>
    go_enter Tryd.func20, Tryd.ntmps20
    go_wp2
    go_ret
    exact ⟨rfl, rfl⟩

/-- Programs as they came in: a row of rows of operations; of each the kind counts. -/
structure Progs (w : World) (a : Option Addr) (n : Nat) (pp : List (List Int)) : Prop where
  len : pp.length = n
  at_ : 0 < n → ∃ b off, a = some ⟨b, off, none⟩ ∧ ∀ i ks, pp[i]? = some ks → ∃ ra rc, w.cell? ⟨b, off + i, none⟩ = some (.slice ra ks.length rc) ∧ ks.length ≤ 9223372036854775807 ∧
    (0 < ks.length → ∃ rb roff, ra = some ⟨rb, roff, none⟩ ∧ ∀ j k, ks[j]? = some k → w.cell? ⟨rb, roff + j * 4, none⟩ = some (.int .i64 k))
theorem Progs.below {w w' a n pp} (h : Progs w a n pp) (k : Keep none_ w w') : Progs w' a n pp := by
  refine ⟨h.len, fun h0 => ?_⟩
  obtain ⟨b, off, e, hc⟩ := h.at_ h0
  refine ⟨b, off, e, fun i ks hi => ?_⟩
  obtain ⟨ra, rc, h1, h2, h3⟩ := hc i ks hi
  refine ⟨ra, rc, k.still h1, h2, fun h0 => ?_⟩
  obtain ⟨rb, roff, e2, h4⟩ := h3 h0
  exact ⟨rb, roff, e2, fun j q hj => k.still (h4 j q hj)⟩

theorem one_is (b : Bool) (w : World) : Calls Tryd.prog 20 #[.bool b] w fun e w' => e = .returned (.int .i64 (b1 b)) ∧ w' = w := (one_any b w).mono fun _ _ h => ⟨h.1, h.2.symm⟩

set_option maxHeartbeats 2000000 in
theorem sAlloc_any (pa : Option Addr) (pn pc : Nat) (pp : List (List Int)) (ev : Ev) (w : World) (hp : Progs w pa pn pp) (hpn : pn ≤ 1000) (hw : (Lit.int .i64 ev.op).wf = true) :
    Calls Tryd.prog 21 #[.slice pa pn pc, .agg #[.int .i64 ev.pick, .int .i64 ev.who, .int .i64 ev.kind, .int .i64 ev.op, .int .i64 ev.code, .int .i64 ev.value]] w fun e w' => e = .returned (.bool (isAl pp ev)) ∧ Keep none_ w w' := by
  obtain ⟨ep, ew, ek, eo, ec, ex⟩ := ev
  have hob := bounds_i64 hw
  simp only at hob
  have hpl := hp.len
  have K1 : ∀ (o : Obj) n, Hid (Keep none_ w ((w.alloc o).drewN n)) := fun o n => ((Keep.refl _ _).alloc o).drewN n
  simp only
  by_cases h0 : 0 ≤ ew
  · by_cases h1 : ew < pn
    · obtain ⟨q, rfl⟩ : ∃ q : Nat, ew = q := ⟨ew.toNat, by omega⟩
      have hq : q < pn := by omega
      obtain ⟨b, off, rfl, hc⟩ := hp.at_ (by omega)
      have hks : pp[q]? = some (pp[q]'(by omega)) := List.getElem?_eq_getElem _
      obtain ⟨ra, rc, c1, hkl, hcell⟩ := hc q _ hks
      have c1 : ∀ o, (w.alloc o).cell? ⟨b, off + q, none⟩ = _ := fun o => ((Keep.refl none_ w).alloc o).still c1
      have HD : Hid (pp.getD q [] = pp[q]'(by omega)) := by unfold Hid; rw [List.getD_eq_getElem?_getD, hks]; rfl
      have HPL : Hid (pp.length = pn) := hpl
      by_cases h2 : 0 ≤ eo
      · generalize pp[q]'(by omega) = ks at *
        by_cases h3 : eo < ks.length
        · obtain ⟨r, rfl⟩ : ∃ r : Nat, eo = r := ⟨eo.toNat, by omega⟩
          have hr : r < ks.length := by omega
          obtain ⟨rb, roff, rfl, hk⟩ := hcell (by omega)
          have c2 := hk r _ (List.getElem?_eq_getElem hr)
          have c2 : ∀ o, (w.alloc o).cell? ⟨rb, roff + r * 4, none⟩ = _ := fun o => ((Keep.refl none_ w).alloc o).still c2
          have HE : Hid (isAl pp ⟨ep, q, ek, r, ec, ex⟩ = (ks[r] == 1)) := by
            have e1 : pp.getD (q : Int).toNat [] = ks := HD.out
            have e2 : ks.getD (r : Int).toNat 0 = ks[r] := by simp [hr]
            have e3 : ((q : Int) < pp.length) := by rw [HPL.out]; omega
            unfold Hid isAl
            simp only [e1, e2, e3]
            simp [hr]
          generalize ks[r] = kd at *
          generalize ks.length = kl at *
          clear hcell hc hk hks hp hpl
          go_enter Tryd.func21, Tryd.ntmps21
          go_wp2_with fail
          go_quiet (fail)
          go_wp2_with fail
          go_ret
          exact ⟨by rw [HE.out]; rfl, (K1 _ _).out⟩
        · have h3' : decide (eo < (ks.length : Int)) = false := decide_eq_false h3
          have HE : Hid (isAl pp ⟨ep, q, ek, eo, ec, ex⟩ = false) := by
            have e1 : pp.getD (q : Int).toNat [] = ks := HD.out
            unfold Hid isAl
            simp only [e1, h3']
            simp
          generalize ks.length = kl at *
          clear hcell hc hks hp hpl
          go_enter Tryd.func21, Tryd.ntmps21
          go_wp2_with fail
          go_quiet (fail)
          go_wp2_with fail
          go_ret
          exact ⟨by rw [HE.out]; rfl, (K1 _ _).out⟩
      · have h2' : decide (0 ≤ eo) = false := decide_eq_false h2
        have HE : Hid (isAl pp ⟨ep, q, ek, eo, ec, ex⟩ = false) := by simp [Hid, isAl, h2]
        clear hcell hc hp HD
        go_enter Tryd.func21, Tryd.ntmps21
        go_wp2_with fail
        go_quiet (fail)
        go_wp2_with fail
        go_ret
        exact ⟨by rw [HE.out]; rfl, (K1 _ _).out⟩
    · have h1' : decide (ew < (pn : Int)) = false := decide_eq_false h1
      have HE : Hid (isAl pp ⟨ep, ew, ek, eo, ec, ex⟩ = false) := by simp [Hid, isAl, hpl, h1]
      clear hp hpl
      go_enter Tryd.func21, Tryd.ntmps21
      go_wp2_with fail
      go_quiet (fail)
      go_wp2_with fail
      go_ret
      exact ⟨by rw [HE.out]; rfl, (K1 _ _).out⟩
  · have h0' : decide (0 ≤ ew) = false := decide_eq_false h0
    have HE : Hid (isAl pp ⟨ep, ew, ek, eo, ec, ex⟩ = false) := by simp [Hid, isAl, h0]
    clear hp hpl
    go_enter Tryd.func21, Tryd.ntmps21
    go_wp2_with fail
    go_quiet (fail)
    go_wp2_with fail
    go_ret
    exact ⟨by rw [HE.out]; rfl, (K1 _ _).out⟩

end Go.Proofs.YtcopkhhgcgfelaaDoor
