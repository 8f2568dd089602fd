/- The walk of FairWindows. -/
import Derived.Test.YtcdmlinaebnbcaaFair
import Derived.Test.YtcdmlinaebnbcaaWindows
import Derived.RangeFuncCalls
namespace Go.Proofs.Ytcdmlinaebnbcaa
open Go.RowKit
attribute [local go_sem] Oper.semAt_some

/-- What lies in the law's boxes, behind j rounds. -/
structure FWI (w : World) (N : Nat) (v : Value) (k st : Int) (j : Nat) (W : World) : Prop where
  keep : Keep none_ w W
  p : Blk W w.heap.size [v] 22
  k : Blk W (w.heap.size + 1) [.int .i64 k] 3
  s : Blk W (w.heap.size + 1 + 1) [.int .u8 st] 5
  r : Blk W (w.heap.size + 1 + 1 + 1) [.bool false] 4
  n : Blk W N [.int .i64 (j : Int)] 3
theorem FWI.own {w : World} {N : Nat} {v : Value} {k st : Int} {B : Nat} (hB : w.heap.size ≤ B) : OwnFrom B (fun j W => FWI w N v k st j W) := by
  rintro j W W' row h hg hr
  exact ⟨ownFrom_keep hB j W W' row h.keep hg hr, ownFrom_blk (cs := fun _ => _) j W W' row h.p hg hr, ownFrom_blk (cs := fun _ => _) j W W' row h.k hg hr, ownFrom_blk (cs := fun _ => _) j W W' row h.s hg hr, ownFrom_blk (cs := fun _ => _) j W W' row h.r hg hr, ownFrom_blk (cs := fun _ => _) j W W' row h.n hg hr⟩
theorem FWI.later {w : World} {N : Nat} {v : Value} {k st : Int} {j : Nat} {W W' : World} (h : FWI w N v k st j W) (hk : Keep none_ W W') : FWI w N v k st j W' :=
  ⟨h.keep.trans hk, hk.blk h.p (fun f => f), hk.blk h.k (fun f => f), hk.blk h.s (fun f => f), hk.blk h.r (fun f => f), hk.blk h.n (fun f => f)⟩
theorem FWI.next {w : World} {N : Nat} {v : Value} {k st : Int} {j : Nat} {W : World} (h : FWI w N v k st j W) (hN : w.heap.size + 1 + 1 + 1 < N) : FWI w N v k st (j + 1) (W.setCell ⟨N, 0, none⟩ (.int .i64 ((j : Int) + 1))) := by
  have e : ((j : Int) + 1) = ((j + 1 : Nat) : Int) := by omega
  rw [e]
  exact ⟨h.keep.putNew (by omega) _ _, h.p.other (a := ⟨N, 0, none⟩) (by simp; omega) _, h.k.other (a := ⟨N, 0, none⟩) (by simp; omega) _, h.s.other (a := ⟨N, 0, none⟩) (by simp; omega) _, h.r.other (a := ⟨N, 0, none⟩) (by simp; omega) _, h.n.set 0 _⟩

set_option maxRecDepth 100000 in
set_option maxHeartbeats 1000000 in
theorem fairWindows_any (a0 : Option Addr) (n0 c0 : Nat) (z0 : List Int) (k st : Int) (w : World) (hw0 : Ints .i64 w a0 n0 z0) (hm0 : n0 ≤ maxLen) (hq0 : n0 ≤ c0) (hk : (Lit.int .i64 k).wf = true) (hs : (Lit.int .u8 st).wf = true) :
    Calls Try.prog 3 #[.slice a0 n0 c0, .int .i64 k, .int .u8 st] w fun e w' => e = .returned (.bool true) ∧ Keep none_ w w' := by
  have bk := bounds_i64 hk
  have bs := bounds_u8 hs
  unfold maxLen at hm0
  clear hk hs
  by_cases hbig : 60 < n0
  · have hz := hw0
    clear hw0 hz
    go_enter Try.func3, Try.ntmps3
    go_wp2_with fail
    refine (awake24_any _).mono ?_
    rintro e w1 ⟨rfl, hk1⟩
    have hR := hk1.blk (Blk.new (((w.alloc (.cells #[.slice a0 n0 c0] 22)).alloc (.cells #[.int .i64 k] 3)).alloc (.cells #[.int .u8 st] 5)) [.bool false] 4) (fun f => f)
    have hk0 : Keep none_ w w1 := (((((Keep.refl none_ w).alloc _).alloc _).alloc _).alloc _).trans hk1
    simp only [World.size_alloc] at hR
    have cR := hR.cell 0 rfl
    have fR := hR.free 0
    have cR2 := (hR.set 0 (.bool true)).cell 0 rfl
    have hkp := hk0.putNew (B := w.heap.size + 1 + 1 + 1) (by omega) 0 (.bool true)
    clear hk1
    go_wp2_with fail
    exact bodyPost_ret (v := .bool true) (by simp [results, Try.f3, go_sem, cR2]) rfl ⟨rfl, hkp⟩
  have hz := hw0.cells
  clear hw0
  have hfn : ∀ (a b : Value) (w : World), (binOp .eql 25 (.func (.func 42) #[] #[a, b]) .nilFunc).run Try.prog w = .ok (.bool false) w := fun a b w => by kernel_rfl
  refine (callsIn_wide (n := 9)).1 ?_
  refine callsIn_of_wp_marks Try.func3 rfl trivial ?_ rfl
  simp only [Try.ntmps3, List.size_toArray, List.length_cons, List.length_nil, Nat.reduceAdd, Nat.reduceSub, Array.replicate_succ, Array.replicate_zero, List.push_toArray, List.append_toArray, List.nil_append, List.cons_append]
  gi_wp2_with fail
  refine ⟨trivial, CallsIn.mono (callsIn_wide.2 (win_any a0 n0 c0 k _)) ?_⟩
  rintro e w1 ⟨rfl, hb1, hb2, hk1⟩
  have hP := hk1.blk ((((Blk.new w [.slice a0 n0 c0] 22).alloc (.cells #[.int .i64 k] 3)).alloc (.cells #[.int .u8 st] 5)).alloc (.cells #[.bool false] 4)) (fun f => f)
  have hK := hk1.blk (((Blk.new (w.alloc (.cells #[.slice a0 n0 c0] 22)) [.int .i64 k] 3).alloc (.cells #[.int .u8 st] 5)).alloc (.cells #[.bool false] 4)) (fun f => f)
  have hS := hk1.blk ((Blk.new ((w.alloc (.cells #[.slice a0 n0 c0] 22)).alloc (.cells #[.int .i64 k] 3)) [.int .u8 st] 5).alloc (.cells #[.bool false] 4)) (fun f => f)
  have hR := hk1.blk (Blk.new (((w.alloc (.cells #[.slice a0 n0 c0] 22)).alloc (.cells #[.int .i64 k] 3)).alloc (.cells #[.int .u8 st] 5)) [.bool false] 4) (fun f => f)
  have hk0 : Keep none_ w w1 := (((((Keep.refl none_ w).alloc _).alloc _).alloc _).alloc _).trans hk1
  simp only [World.size_alloc] at hb1 hb2 hK hS hR
  clear hk1
  have cP := hP.cell 0 rfl
  have cK := hK.cell 0 rfl
  have cS := hS.cell 0 rfl
  gi_wp2_with fail
  obtain ⟨w2, hw2⟩ : ∃ w2, w1.alloc (.cells #[.int .i64 0] 3) = w2 := ⟨_, rfl⟩
  have hN : Blk w2 w1.heap.size [.int .i64 ((0 : Nat) : Int)] 3 := by rw [← hw2]; exact Blk.new w1 [.int .i64 0] 3
  have hk2 : Keep none_ w1 w2 := by rw [← hw2]; exact (Keep.refl _ _).alloc _
  have hs2 : w2.heap.size = w1.heap.size + 1 := by rw [← hw2]; simp
  have hk02 := hk0.trans hk2
  have hsz := hk0.size
  rw [hw2]
  have hlt9 := hb2.lt
  have hGlt : ∀ b, winG a0 n0 (w.heap.size + 1 + 1 + 1 + 1 + 1) (w.heap.size + 1 + 1 + 1 + 1) b → b < w1.heap.size := by
    rintro b (rfl | rfl | ⟨hn, b', off', e, rfl⟩)
    · omega
    · omega
    · obtain ⟨b2, o2, e2, h2⟩ := hz.at_ hn
      rw [e] at e2
      injection e2 with e2
      injection e2 with e3 e4
      subst e3
      have := World.block_lt_of_cell? _ _ (h2 0 hn)
      simp at this
      omega
  refine rangeFn rfl (by decide) (gf := 42) (lb := #[.pointer (some ⟨w.heap.size + 1 + 1 + 1 + 1 + 1, 0, none⟩), .pointer (some ⟨w.heap.size + 1 + 1 + 1 + 1, 0, none⟩)]) rfl trivial (fun args w => by simp [callFunc, Try.func42, go_sem]; rfl) (all := wins z0 k) (Enc := EncW) (G := winG a0 n0 (w.heap.size + 1 + 1 + 1 + 1 + 1) (w.heap.size + 1 + 1 + 1 + 1))
    (win_seq a0 n0 c0 k _ _ z0 _ _ (hz.below hk02) hq0 (by omega) bk.1 bk.2 (hk2.blk hb2 (fun f => f)) (hk2.blk hb1 (fun f => f))) ?hG ?hps
    (fun j W => FWI w w1.heap.size (.slice a0 n0 c0) k st j W ∧ (0 < st → (j : Int) < st))
    (fun c j W => FWI w w1.heap.size (.slice a0 n0 c0) k st j W ∧ (0 < j ∧ (j : Int) = st ∧ c = .exit 0))
    ?hI ?hIx ?h0 ?round ?done ?stop
  case hI => exact (FWI.own (by omega)).and ownFrom_pure
  case hIx => exact fun c => (FWI.own (by omega)).and ownFrom_pure
  case h0 => exact ⟨⟨hk02, hk2.blk hP (fun f => f), hk2.blk hK (fun f => f), hk2.blk hS (fun f => f), hk2.blk hR (fun f => f), hN⟩, fun h => by omega⟩
  case hG => exact fun b hb => by have := hGlt b hb; omega
  case hps =>
    rintro W x args ⟨a, c, rfl, _⟩
    rfl
  case round =>
    rintro l j x args W hx henc hI
    obtain ⟨hk1', hjn, rfl⟩ := wins_get hx
    obtain ⟨a, c, rfl, hic, hcap⟩ := henc
    have hl0 := hz.len
    obtain ⟨q, rfl⟩ : ∃ q : Nat, k = q := ⟨k.toNat, by omega⟩
    have hwl : ((z0.drop j).take q).length = q := by simp; omega
    simp only [Int.toNat_natCast] at hic hcap hjn
    simp only [Int.toNat_natCast, hwl] at hic hcap ⊢
    gi_wp2_with fail
    obtain ⟨hI, hIst⟩ := hI
    refine ⟨fun W => IntCells .i64 W a q ((z0.drop j).take q) ∧ FWI w w1.heap.size (.slice a0 n0 c0) q st j W, KeepsFrom.refl _ _, Holds.refl _ _, ⟨hic, hI⟩, (IntCells.own _).and (fun _ W W' row h hg hr => FWI.own (by omega) j W W' row h hg hr), ?_⟩
    clear hic hI
    rintro W2 ⟨hic, hI⟩
    have hz2 := hz.below hI.keep
    obtain ⟨b, off, rfl, hc⟩ := hz2.at_ (by omega)
    have hcut := hz2.cut2 (c := c0) j q (by omega) hq0
    have hcj : ¬ c0 = j := by omega
    have ecut : cutA (some ⟨b, off, none⟩) c0 j = some ⟨b, off + j, none⟩ := by simp [cutA, hcj, Addr.add]
    rw [ecut] at hcut
    have hsame := same_any a (some ⟨b, off + j, none⟩) q q c (c0 - j) _ _ W2 hic hcut (by omega) (by omega)
    rw [beq_self_eq_true] at hsame
    have HS := Lib.hid hsame
    have hP2 := hI.p.cell 0 rfl
    have hK2 := hI.k.cell 0 rfl
    have hN2 := hI.n.cell 0 rfl
    have hjq : (j : Int) + q ≤ c0 := by omega
    have hq9 : (q : Int) ≤ 100 := by omega
    have hj9 : (j : Int) ≤ 100 := by omega
    clear hc hcut ecut hsame hic hz2
    gi_wp2_with fail
    refine ⟨trivial, CallsIn.mono (CallsIn.inRound l (callsIn_wide.2 HS.out)) ?_⟩
    rintro e w3 ⟨rfl, hk3⟩
    have hI3 := hI.later hk3
    have hnext := hI3.next (by omega)
    have hS3 := hI3.s.cell 0 rfl
    have hN3 := hI3.n.cell 0 rfl
    have fN3 := hI3.n.free 0
    have hN4 : (w3.setCell ⟨w1.heap.size, 0, none⟩ (.int .i64 ((j : Int) + 1))).cell? ⟨w1.heap.size, 0, none⟩ = some (.int .i64 ((j : Int) + 1)) := World.cell?_setCell_same _ _ _ hN3
    have hS4 : (w3.setCell ⟨w1.heap.size, 0, none⟩ (.int .i64 ((j : Int) + 1))).cell? ⟨w.heap.size + 1 + 1, 0, none⟩ = some (.int .u8 st) := (hI3.s.other (a := ⟨w1.heap.size, 0, none⟩) (by simp; omega) _).cell 0 rfl
    have hKF : KeepsFrom w2.heap.size W2 (w3.setCell ⟨w1.heap.size, 0, none⟩ (.int .i64 ((j : Int) + 1))) := (KeepsFrom.ofKeep hk3).trans ((KeepsOthers.setCell _ _ _).from _)
    have hHD : Holds (winG (some ⟨b, off, none⟩) n0 (w.heap.size + 1 + 1 + 1 + 1 + 1) (w.heap.size + 1 + 1 + 1 + 1)) W2 (w3.setCell ⟨w1.heap.size, 0, none⟩ (.int .i64 ((j : Int) + 1))) :=
      Holds.ofKeep (S := only w1.heap.size) ((hk3.mono (fun _ _ f => f.elim)).put _ _) (fun i hi => ⟨by have := hGlt i hi; have := hI.n.lt; omega, fun e => by have := hGlt i hi; unfold only at e; omega⟩)
    have HST := Lib.hid hIst
    by_cases hst : (j : Int) + 1 = st
    · have hstb : ((j : Int) + 1 == st) = true := beq_iff_eq.2 hst
      have HS2 := Lib.hid hst
      clear hP2 hK2 hN2 hst hIst
      gi_wp2_with fail
      exact ⟨hKF, hnext, by omega, by have := HS2.out; omega, rfl⟩
    · have hstb : ((j : Int) + 1 == st) = false := beq_eq_false_iff_ne.2 hst
      have HS2 := Lib.hid hst
      clear hP2 hK2 hN2 hst hIst
      gi_wp2_with fail
      exact ⟨hKF, hHD, hnext, fun h0 => by have h1 := HST.out h0; have h2 := HS2.out; omega⟩
  case done =>
    rintro D W hD ⟨hI, hIst⟩ hKd
    have hcnt := wins_len z0 k
    rw [hz.len] at hcnt
    obtain ⟨cnt, hc⟩ : ∃ cnt, cnt = (wins z0 k).length := ⟨_, rfl⟩
    rw [← hc] at hcnt hIst hI
    have hI9 := hI
    have hbk := bk
    by_cases hA : 1 ≤ k ∧ k ≤ n0
    · rw [if_pos hA] at hcnt
      obtain ⟨hA1, hA2⟩ := hA
      have heqb : ((cnt : Int) == (n0 : Int) - k + 1) = true := beq_iff_eq.2 hcnt
      have hlt : 0 < st → (n0 : Int) - k + 1 < st := fun h => by have := hIst h; omega
      have HC := Lib.hid hcnt
      have HLT := Lib.hid hlt
      clear hcnt hIst hlt hc
      by_cases hst : 0 < st
      · have hlt2 := HLT.out hst
        have hP2 := hI.p.cell 0 rfl
        have hK2 := hI.k.cell 0 rfl
        have hS2 := hI.s.cell 0 rfl
        have hN2 := hI.n.cell 0 rfl
        have hKD := Lib.hid hKd
        have hWsz := hI.keep.size
        gi_wp2_with fail
        refine ⟨trivial, CallsIn.mono (callsIn_wide.2 (awake24_any _)) ?_⟩
        rintro e w9 ⟨rfl, hk9⟩
        have hI9 := hI.later hk9
        have hR9 := hI9.r.cell 0 rfl
        have fR9 := hI9.r.free 0
        have hR10 : (w9.setCell ⟨w.heap.size + 1 + 1 + 1, 0, none⟩ (.bool true)).cell? ⟨w.heap.size + 1 + 1 + 1, 0, none⟩ = some (.bool true) := World.cell?_setCell_same _ _ _ hR9
        have hKd9 : (w9.setCell ⟨w.heap.size + 1 + 1 + 1, 0, none⟩ (.bool true)).heap[D]? = some (.deferred (some [])) := by
          have h1 : w9.heap[D]? = some (.deferred (some [])) := (hk9.block D (Array.getElem?_eq_some_iff.1 hKd).1 (fun f => f)).trans hKd
          rw [Below.heap_setCell _ _ _ _ (by simp; omega)]; exact h1
        have hRp := ((hI9.r.set 0 (.bool true)).putObj (o' := .deferred none) hKd9 rfl).cell 0 (v := .bool true) rfl
        have hKp := ((hI9.keep.putNew (B := w.heap.size + 1 + 1 + 1) (by omega) 0 (.bool true)).takeDeferred (D := D) (by omega) (.deferred none))
        clear hKd hK2 hP2 hS2 hN2
        gi_wp2_with fail
        refine ⟨by simp, .inl ⟨_, _, rfl, run_takeDeferred hKd9, ?_⟩⟩
        exact ⟨.bool true, by simp [results, Try.f3, go_sem, hRp], rfl, hKp⟩
      · have hst0 : st = 0 := by omega
        subst hst0
        have hP2 := hI.p.cell 0 rfl
        have hK2 := hI.k.cell 0 rfl
        have hS2 := hI.s.cell 0 rfl
        have hN2 := hI.n.cell 0 rfl
        have hKD := Lib.hid hKd
        have hWsz := hI.keep.size
        gi_wp2_with fail
        refine ⟨trivial, CallsIn.mono (callsIn_wide.2 (awake24_any _)) ?_⟩
        rintro e w9 ⟨rfl, hk9⟩
        have hI9 := hI.later hk9
        have hR9 := hI9.r.cell 0 rfl
        have fR9 := hI9.r.free 0
        have hR10 : (w9.setCell ⟨w.heap.size + 1 + 1 + 1, 0, none⟩ (.bool true)).cell? ⟨w.heap.size + 1 + 1 + 1, 0, none⟩ = some (.bool true) := World.cell?_setCell_same _ _ _ hR9
        have hKd9 : (w9.setCell ⟨w.heap.size + 1 + 1 + 1, 0, none⟩ (.bool true)).heap[D]? = some (.deferred (some [])) := by
          have h1 : w9.heap[D]? = some (.deferred (some [])) := (hk9.block D (Array.getElem?_eq_some_iff.1 hKd).1 (fun f => f)).trans hKd
          rw [Below.heap_setCell _ _ _ _ (by simp; omega)]; exact h1
        have hRp := ((hI9.r.set 0 (.bool true)).putObj (o' := .deferred none) hKd9 rfl).cell 0 (v := .bool true) rfl
        have hKp := ((hI9.keep.putNew (B := w.heap.size + 1 + 1 + 1) (by omega) 0 (.bool true)).takeDeferred (D := D) (by omega) (.deferred none))
        clear hKd hK2 hP2 hS2 hN2
        gi_wp2_with fail
        refine ⟨by simp, .inl ⟨_, _, rfl, run_takeDeferred hKd9, ?_⟩⟩
        exact ⟨.bool true, by simp [results, Try.f3, go_sem, hRp], rfl, hKp⟩
    · rw [if_neg hA] at hcnt
      obtain rfl : cnt = 0 := by omega
      clear hc hcnt
      rcases (show k < 1 ∨ (1 ≤ k ∧ (n0 : Int) < k) by omega) with hB | ⟨hB, hB'⟩
      all_goals
        clear hA
        by_cases hst : 0 < st
        · clear hIst
          have hP2 := hI.p.cell 0 rfl
          have hK2 := hI.k.cell 0 rfl
          have hS2 := hI.s.cell 0 rfl
          have hN2 := hI.n.cell 0 rfl
          have hKD := Lib.hid hKd
          have hWsz := hI.keep.size
          gi_wp2_with fail
          refine ⟨trivial, CallsIn.mono (callsIn_wide.2 (awake24_any _)) ?_⟩
          rintro e w9 ⟨rfl, hk9⟩
          have hI9 := hI.later hk9
          have hR9 := hI9.r.cell 0 rfl
          have fR9 := hI9.r.free 0
          have hR10 : (w9.setCell ⟨w.heap.size + 1 + 1 + 1, 0, none⟩ (.bool true)).cell? ⟨w.heap.size + 1 + 1 + 1, 0, none⟩ = some (.bool true) := World.cell?_setCell_same _ _ _ hR9
          have hKd9 : (w9.setCell ⟨w.heap.size + 1 + 1 + 1, 0, none⟩ (.bool true)).heap[D]? = some (.deferred (some [])) := by
            have h1 : w9.heap[D]? = some (.deferred (some [])) := (hk9.block D (Array.getElem?_eq_some_iff.1 hKd).1 (fun f => f)).trans hKd
            rw [Below.heap_setCell _ _ _ _ (by simp; omega)]; exact h1
          have hRp := ((hI9.r.set 0 (.bool true)).putObj (o' := .deferred none) hKd9 rfl).cell 0 (v := .bool true) rfl
          have hKp := ((hI9.keep.putNew (B := w.heap.size + 1 + 1 + 1) (by omega) 0 (.bool true)).takeDeferred (D := D) (by omega) (.deferred none))
          clear hKd hK2 hP2 hS2 hN2
          gi_wp2_with fail
          refine ⟨by simp, .inl ⟨_, _, rfl, run_takeDeferred hKd9, ?_⟩⟩
          exact ⟨.bool true, by simp [results, Try.f3, go_sem, hRp], rfl, hKp⟩
        · have hst0 : st = 0 := by omega
          subst hst0
          clear hIst
          have hP2 := hI.p.cell 0 rfl
          have hK2 := hI.k.cell 0 rfl
          have hS2 := hI.s.cell 0 rfl
          have hN2 := hI.n.cell 0 rfl
          have hKD := Lib.hid hKd
          have hWsz := hI.keep.size
          gi_wp2_with fail
          refine ⟨trivial, CallsIn.mono (callsIn_wide.2 (awake24_any _)) ?_⟩
          rintro e w9 ⟨rfl, hk9⟩
          have hI9 := hI.later hk9
          have hR9 := hI9.r.cell 0 rfl
          have fR9 := hI9.r.free 0
          have hR10 : (w9.setCell ⟨w.heap.size + 1 + 1 + 1, 0, none⟩ (.bool true)).cell? ⟨w.heap.size + 1 + 1 + 1, 0, none⟩ = some (.bool true) := World.cell?_setCell_same _ _ _ hR9
          have hKd9 : (w9.setCell ⟨w.heap.size + 1 + 1 + 1, 0, none⟩ (.bool true)).heap[D]? = some (.deferred (some [])) := by
            have h1 : w9.heap[D]? = some (.deferred (some [])) := (hk9.block D (Array.getElem?_eq_some_iff.1 hKd).1 (fun f => f)).trans hKd
            rw [Below.heap_setCell _ _ _ _ (by simp; omega)]; exact h1
          have hRp := ((hI9.r.set 0 (.bool true)).putObj (o' := .deferred none) hKd9 rfl).cell 0 (v := .bool true) rfl
          have hKp := ((hI9.keep.putNew (B := w.heap.size + 1 + 1 + 1) (by omega) 0 (.bool true)).takeDeferred (D := D) (by omega) (.deferred none))
          clear hKd hK2 hP2 hS2 hN2
          gi_wp2_with fail
          refine ⟨by simp, .inl ⟨_, _, rfl, run_takeDeferred hKd9, ?_⟩⟩
          exact ⟨.bool true, by simp [results, Try.f3, go_sem, hRp], rfl, hKp⟩
  case stop =>
    rintro D c j W hD hjle ⟨hI, hj0, hjst, rfl⟩ hKd
    have hcnt := wins_len z0 k
    rw [hz.len] at hcnt
    have hA : 1 ≤ k ∧ k ≤ n0 := by
      refine Classical.byContradiction fun hno => ?_
      rw [if_neg hno] at hcnt
      omega
    rw [if_pos hA] at hcnt
    obtain ⟨hA1, hA2⟩ := hA
    have heqb : ((j : Int) == st) = true := beq_iff_eq.2 hjst
    have hst : 0 < st := by omega
    have hle2 : st ≤ (n0 : Int) - k + 1 := by omega
    have HJ := Lib.hid hjst
    clear hcnt hjst hjle
    by_cases hlt : st < (n0 : Int) - k + 1
    · have hx := hlt
      have hP2 := hI.p.cell 0 rfl
      have hK2 := hI.k.cell 0 rfl
      have hS2 := hI.s.cell 0 rfl
      have hN2 := hI.n.cell 0 rfl
      have hKD := Lib.hid hKd
      have hWsz := hI.keep.size
      gi_wp2_with fail
      refine ⟨trivial, CallsIn.mono (callsIn_wide.2 (awake24_any _)) ?_⟩
      rintro e w9 ⟨rfl, hk9⟩
      have hI9 := hI.later hk9
      have hR9 := hI9.r.cell 0 rfl
      have fR9 := hI9.r.free 0
      have hR10 : (w9.setCell ⟨w.heap.size + 1 + 1 + 1, 0, none⟩ (.bool true)).cell? ⟨w.heap.size + 1 + 1 + 1, 0, none⟩ = some (.bool true) := World.cell?_setCell_same _ _ _ hR9
      have hKd9 : (w9.setCell ⟨w.heap.size + 1 + 1 + 1, 0, none⟩ (.bool true)).heap[D]? = some (.deferred (some [])) := by
        have h1 : w9.heap[D]? = some (.deferred (some [])) := (hk9.block D (Array.getElem?_eq_some_iff.1 hKd).1 (fun f => f)).trans hKd
        rw [Below.heap_setCell _ _ _ _ (by simp; omega)]; exact h1
      have hRp := ((hI9.r.set 0 (.bool true)).putObj (o' := .deferred none) hKd9 rfl).cell 0 (v := .bool true) rfl
      have hKp := ((hI9.keep.putNew (B := w.heap.size + 1 + 1 + 1) (by omega) 0 (.bool true)).takeDeferred (D := D) (by omega) (.deferred none))
      clear hKd hK2 hP2 hS2 hN2
      gi_wp2_with fail
      refine ⟨by simp, .inl ⟨_, _, rfl, run_takeDeferred hKd9, ?_⟩⟩
      exact ⟨.bool true, by simp [results, Try.f3, go_sem, hRp], rfl, hKp⟩
    · have he : (n0 : Int) - k + 1 = st := by omega
      have he2 : ((j : Int) == (n0 : Int) - k + 1) = true := beq_iff_eq.2 (by rw [he]; exact HJ.out)
      clear he
      have hP2 := hI.p.cell 0 rfl
      have hK2 := hI.k.cell 0 rfl
      have hS2 := hI.s.cell 0 rfl
      have hN2 := hI.n.cell 0 rfl
      have hKD := Lib.hid hKd
      have hWsz := hI.keep.size
      gi_wp2_with fail
      refine ⟨trivial, CallsIn.mono (callsIn_wide.2 (awake24_any _)) ?_⟩
      rintro e w9 ⟨rfl, hk9⟩
      have hI9 := hI.later hk9
      have hR9 := hI9.r.cell 0 rfl
      have fR9 := hI9.r.free 0
      have hR10 : (w9.setCell ⟨w.heap.size + 1 + 1 + 1, 0, none⟩ (.bool true)).cell? ⟨w.heap.size + 1 + 1 + 1, 0, none⟩ = some (.bool true) := World.cell?_setCell_same _ _ _ hR9
      have hKd9 : (w9.setCell ⟨w.heap.size + 1 + 1 + 1, 0, none⟩ (.bool true)).heap[D]? = some (.deferred (some [])) := by
        have h1 : w9.heap[D]? = some (.deferred (some [])) := (hk9.block D (Array.getElem?_eq_some_iff.1 hKd).1 (fun f => f)).trans hKd
        rw [Below.heap_setCell _ _ _ _ (by simp; omega)]; exact h1
      have hRp := ((hI9.r.set 0 (.bool true)).putObj (o' := .deferred none) hKd9 rfl).cell 0 (v := .bool true) rfl
      have hKp := ((hI9.keep.putNew (B := w.heap.size + 1 + 1 + 1) (by omega) 0 (.bool true)).takeDeferred (D := D) (by omega) (.deferred none))
      clear hKd hK2 hP2 hS2 hN2
      gi_wp2_with fail
      refine ⟨by simp, .inl ⟨_, _, rfl, run_takeDeferred hKd9, ?_⟩⟩
      exact ⟨.bool true, by simp [results, Try.f3, go_sem, hRp], rfl, hKp⟩
end Go.Proofs.Ytcdmlinaebnbcaa
