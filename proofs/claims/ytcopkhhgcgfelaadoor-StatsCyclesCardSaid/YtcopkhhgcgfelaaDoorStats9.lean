/- Two lists of cycles compared; what stats.Each hands back, and what that tells. -/
import Derived.Test.YtcopkhhgcgfelaaDoorStats8
import Derived.Test.YtcopkhhgcgfelaaDoorRangeFn2
import Derived.Deep.QuietTactic
import Derived.BigQuiet
namespace Go.Proofs.YtcopkhhgcgfelaaDoor
open Go.RowKit
attribute [local go_sem] Oper.semAt_some

set_option maxRecDepth 100000 in
set_option maxHeartbeats 2000000 in
theorem lSame_any (a b : Option Addr) (n c d : Nat) (o : List Cy) (w : World) (ha : RecAt w a n 5 (o.map Cy.cells)) (hb : RecAt w b n 5 (o.map Cy.cells)) (hn : n ≤ 100000) :
    Calls Tryd.prog 11 #[.slice a n c, .slice b n d] w fun e w' => e = .returned (.bool true) ∧ Keep none_ w w' := by
  have HA := Lib.hid ha
  have HB := Lib.hid hb
  clear ha hb
  go_enter Tryd.func11, Tryd.ntmps11
  go_wp2
  go_loopg [5] n (fun g i wr => ∃ k : Nat, g + k = n ∧ i = .int .i64 k ∧ Hid (Keep none_ w wr))
  case atStart => exact ⟨0, rfl, rfl, Keep.refl _ _⟩
  case round =>
    obtain ⟨k, hg, rfl, HK⟩ := hrel
    by_cases hlt : k < n
    · obtain ⟨b1, off1, rfl, x, hx, g0, g1, g2, g3, g4⟩ := cyCells (HA.out.below HK.out) k hlt
      obtain ⟨b2, off2, rfl, y, hy, h0, h1, h2, h3, h4⟩ := cyCells (HB.out.below HK.out) k hlt
      rw [hx] at hy
      injection hy with hy
      subst hy
      obtain ⟨cn, cs, cm, cr, cf⟩ := x
      simp only at g0 g1 g2 g3 g4 h0 h1 h2 h3 h4
      clear hx
      go_wp2_with fail
      go_quiet (fail)
      go_wp2_with fail
      go_roundg (gk - 1)
      case measure => omega
      case rel => exact ⟨k + 1, by omega, by go_num, HK.out.drewN _⟩
    · obtain rfl : k = n := by omega
      go_wp2_with fail
      go_ret
      exact ⟨rfl, HK.out⟩

set_option maxHeartbeats 400000 in
theorem sEach_any (a : Option Addr) (n c : Nat) (w : World) :
    Calls Tryd.prog 12 #[.slice a n c] w fun e w' => e = .returned (.func (.func 17) #[] #[.pointer (some ⟨w.heap.size, 0, none⟩)]) ∧ Blk w' w.heap.size [.slice a n c] 29 ∧ Keep none_ w w' := by
  have hb : ∀ w : World, Hid (Blk (w.alloc (.cells #[.slice a n c] 29)) w.heap.size [.slice a n c] 29) := fun w => Blk.new w [.slice a n c] 29
  go_enter Tryd.func12, Tryd.ntmps12
  go_wp2
  go_ret
  exact ⟨rfl, (hb _).out, (Keep.refl _ _).alloc _⟩

/-- Each cycle, with its place. -/
def eachL (o : List Cy) : List (Nat × Cy) := o.zipIdx.map fun p => (p.2, p.1)
theorem eachL_len (o : List Cy) : (eachL o).length = o.length := by simp [eachL]
theorem eachL_get (o : List Cy) (j : Nat) (c : Cy) (h : o[j]? = some c) : (eachL o)[j]? = some (j, c) := by
  have hl := (List.getElem?_eq_some_iff.1 h).1
  simp only [eachL, List.getElem?_map, List.getElem?_zipIdx, h]
  simp
def EncE (_ : World) (x : Nat × Cy) (args : Array Value) : Prop := args = #[.int .i64 (x.1 : Int), .agg #[.int .i64 x.2.number, .int .i64 x.2.start, .int .i64 x.2.marked, .int .i64 x.2.rested, .int .i64 x.2.freed]]

theorem own_same {w w' : World} {e : TypeId} {base n size : Nat} {v : Value} {xs : List Value} (h : w.ownsRow base e size v n xs) (k : ∀ g, v.ownBlock = some g → w'.heap[g]? = w.heap[g]?) : w'.ownsRow base e size v n xs := by
  refine ⟨h.1, ?_⟩
  rcases h.2 with hn | ⟨g, cap, cur, rfl, hb, hg, rest⟩
  · exact .inl hn
  · exact .inr ⟨g, cap, cur, rfl, hb, (k g rfl).trans hg, rest⟩

set_option maxRecDepth 100000 in
set_option maxHeartbeats 4000000 in
theorem each_seq (a : Option Addr) (n c : Nat) (B : Nat) (G : Nat → Prop) (l : List Ev) (m : Nat) (w : World) (h : RecAt w a n 6 (l.map Ev.cells)) (hn : n ≤ 100000) (hb : Blk w B [.slice a n c] 29) :
    SeqL Fence.wide m Tryd.prog 17 #[.pointer (some ⟨B, 0, none⟩)] (eachL (cyc l).out) EncE G w := by
  intro l9 J Jx W hW hG hJ hJx hY h0
  have hb1 := hW.blk hb (fun f => f)
  have hr1 := h.below hW
  have hc0 := hb1.cell 0 (v := .slice a n c) rfl
  have hle : (cyc l).out.length ≤ n := by
    have h1 := refp_len l l.length
    rw [refp_all] at h1
    have h2 := h.len
    simp at h2
    rw [cyc_ref]; omega
  have HC := Lib.hid (sCycles_any a n c l W hr1 hn)
  have HLE := Lib.hid hle
  refine callsIn_of_wp Tryd.func17 rfl trivial ?_ rfl
  simp only [Tryd.ntmps17, List.size_toArray, List.length_cons, List.length_nil, Nat.reduceAdd, Nat.reduceSub, Array.replicate_succ, Array.replicate_zero, List.push_toArray, List.append_toArray, List.nil_append, List.cons_append]
  have HEL := Lib.hid (eachL_len (cyc l).out)
  have HEG := Lib.hid (eachL_get (cyc l).out)
  have HY := Lib.hid hY
  have HJ := Lib.hid hJ
  have HGN := Lib.hid hG
  clear hY hJ hG hle hb1 hr1
  generalize (cyc l).out = o at *
  refine wpIn_scope ?_
  gi_wp2_with fail
  refine wpIn_label ?_
  gi_wp2_with fail
  refine ⟨trivial, fun h => (by cases h), CallsIn.mono (callsIn_wide.2 HC.out) ?_⟩
  rintro e w1 ⟨v, rfl, hrow, hk1⟩
  have hJ0 := HJ.out 0 _ _ h0 hk1
  have HJ0 := Lib.hid hJ0
  have HSZ := Lib.hid hk1.size
  clear hJ0 h0 hk1 hc0
  obtain ⟨av, cv, rfl⟩ := CyRow.form hrow
  have hol : o.length ≤ 100000 := Nat.le_trans HLE.out hn
  have HROW := Lib.hid hrow
  have HOB : Hid (∀ g, (Value.slice av o.length cv).ownBlock = some g → G g ∧ g < w1.heap.size) := fun g hg => ⟨HGN.out g (by have := (World.ownsRow.lt hrow g hg).1; exact this), (World.ownsRow.lt hrow g hg).2⟩
  clear hrow
  gi_wp2_with fail
  gi_loopw [8] (fun i wr => ∃ j : Nat, j ≤ o.length ∧ i = .int .i64 j ∧ J j wr ∧ Hid (CyRow wr W.heap.size (.slice av o.length cv) o) ∧ w1.heap.size ≤ wr.heap.size) (fun i _ => o.length - (intOf i).toNat)
  case atStart => exact ⟨0, by omega, rfl, HJ0.out, HROW.out, Nat.le_refl _⟩
  case round =>
    obtain ⟨j, hj, rfl, hJj, HR, hsz⟩ := hrel
    by_cases hlt : j < o.length
    · obtain ⟨av', cv', e1, hrec, _⟩ := RecAt.ofOwn HR.out (cy_len o) (by simp)
      injection e1 with e1 _ e3
      subst e1 e3
      obtain ⟨b, off, rfl, x, hx, g0, g1, g2, g3, g4⟩ := cyCells hrec j hlt
      have HX := Lib.hid hx
      have HJJ := Lib.hid hJj
      obtain ⟨xn, xs, xm, xr, xf⟩ := x
      simp only at g0 g1 g2 g3 g4
      clear hx hJj hrec
      gi_wp2_with fail
      obtain ⟨W2, hW2⟩ : ∃ W', W' = wr.alloc (.cells #[.int .i64 xn, .int .i64 xs, .int .i64 xm, .int .i64 xr, .int .i64 xf] 25) := ⟨_, rfl⟩
      have hk2 : Keep none_ wr W2 := by rw [hW2]; exact (Keep.refl _ _).alloc _
      have hj2 := HJ.out j _ _ HJJ.out hk2
      obtain ⟨fn, tmps, assign, body, hy, hRd⟩ := HY.out j (j, ⟨xn, xs, xm, xr, xf⟩) #[.int .i64 j, .agg #[.int .i64 xn, .int .i64 xs, .int .i64 xm, .int .i64 xr, .int .i64 xf]] W2 (HEG.out j _ HX.out) hj2 rfl
      have HRO : Hid (CyRow W2 W.heap.size (.slice (some ⟨b, off, none⟩) o.length cv) o) := by
        rw [hW2]; exact World.ownsRow.alloc HR.out _
      have hsz2 : w1.heap.size ≤ W2.heap.size := Nat.le_trans hsz hk2.size
      rw [← hW2]
      clear hW2 hj2 hk2 g0 g1 g2 g3 g4
      simp only [hy]
      gi_wp2_with fail
      refine ⟨fun h => (by cases h), hRd.mono ?_⟩
      rintro e W' (⟨rfl, hJ', hk⟩ | ⟨rfl, hJx'⟩)
      · have HRO2 : Hid (CyRow W' W.heap.size (.slice (some ⟨b, off, none⟩) o.length cv) o) := own_same HRO.out (fun g hg => by
          obtain ⟨h1, h2⟩ := HOB.out g hg
          exact hk.same g (Nat.lt_of_lt_of_le h2 hsz2) h1)
        have hsz3 := Nat.le_trans hsz2 hk.size
        clear hk
        gi_wp2_with fail
        go_roundw
        case rel => exact ⟨j + 1, by omega, by go_num, hJ', HRO2, hsz3⟩
        case measure => simp [intOf]; omega
      · gi_wp2_with fail
        simp only [Exit.noGoto]
        go_end0
        exact ⟨⟨_, rfl⟩, .inr ⟨j + 1, by rw [HEL.out]; omega, hJx'⟩⟩
    · have hje : j = o.length := by omega
      have HJE := Lib.hid hje
      have hgt : ¬ ((j : Int) < (o.length : Int)) := by omega
      clear hje
      gi_wp2_with fail
      go_end0
      exact ⟨⟨_, rfl⟩, .inl (by rw [HEL.out, ← HJE.out]; exact hJj)⟩
end Go.Proofs.YtcopkhhgcgfelaaDoor
