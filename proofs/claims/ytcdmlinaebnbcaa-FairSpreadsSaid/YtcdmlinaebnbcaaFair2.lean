/- slices.Index and Contains over ints; fair.Fair. -/
import Derived.Test.YtcdmlinaebnbcaaFair
import Derived.Test.YtcdmlinaebnbcaaWindows
import Derived.RangeFuncCalls
namespace Go.Proofs.Ytcdmlinaebnbcaa
open Go.RowKit
attribute [local go_sem] Oper.semAt_some

def idxL : List Int → Int → Int → Int
  | [], _, _ => -1
  | x :: l, m, i => if m = x then i else idxL l m (i + 1)
theorem idxL_ge (l : List Int) (m i : Int) (hi : 0 ≤ i) : decide (0 ≤ idxL l m i) = inL l m := by
  induction l generalizing i with
  | nil => simp [idxL, inL]
  | cons x l ih =>
    by_cases h : m = x
    · subst h; simp [idxL, inL, hi]
    · have := ih (i + 1) (by omega)
      simp only [idxL, if_neg h]
      rw [this]
      have h' : ¬ x = m := fun e => h e.symm
      simp [inL, h']

set_option maxHeartbeats 400000 in
theorem index_any (a : Option Addr) (n c : Nat) (zs : List Int) (m : Int) (w : World) (hz : IntCells .i64 w a n zs) (hn : n ≤ 1000000000) :
    Calls Try.prog 55 #[.slice a n c, .int .i64 m] w fun e w' => e = .returned (.int .i64 (idxL zs m 0)) ∧ w = w' := by
  have hl := hz.len
  go_enter Try.func55, Try.ntmps55
  go_wp2
  go_loopg [8] n (fun g i wr => ∃ k : Nat, g + k = n ∧ i = .int .i64 k ∧ idxL zs m 0 = idxL (zs.drop k) m k ∧ wr = w)
  case atStart => exact ⟨0, by omega, rfl, rfl, rfl⟩
  case round =>
    obtain ⟨k, hg, rfl, hr, rfl⟩ := hrel
    have HR := Lib.hid hr; clear hr
    by_cases hlt : k < n
    · obtain ⟨b, off, rfl, hc⟩ := hz.at_ (by omega)
      have hck := hc k hlt
      have e1 : zs.drop k = zs.getD k 0 :: zs.drop (k + 1) := by rw [getD_of (by omega)]; simp
      generalize zs.getD k 0 = x at hck e1
      have HE := Lib.hid e1
      by_cases hx : m = x
      · have hb : (m == x) = true := beq_iff_eq.2 hx
        have HX := Lib.hid hx
        clear e1 hc hl hx
        go_wp2
        go_ret
        refine ⟨?_, rfl⟩
        rw [HR.out, HE.out, idxL, if_pos HX.out]; rfl
      · have hb : (m == x) = false := beq_eq_false_iff_ne.2 hx
        have HX := Lib.hid hx
        clear e1 hc hl hx
        go_wp2
        go_roundg (gk - 1)
        case measure => omega
        case rel => exact ⟨k + 1, by omega, by go_num, by rw [HR.out, HE.out, idxL, if_neg HX.out]; rfl, rfl⟩
    · have : zs.drop k = [] := List.drop_of_length_le (by omega)
      have HE := Lib.hid this; clear this hl
      go_wp2
      go_ret
      refine ⟨?_, rfl⟩
      rw [HR.out, HE.out]; rfl

set_option maxHeartbeats 400000 in
theorem contains_any (a : Option Addr) (n c : Nat) (zs : List Int) (m : Int) (w : World) (hz : IntCells .i64 w a n zs) (hn : n ≤ 1000000000) :
    Calls Try.prog 50 #[.slice a n c, .int .i64 m] w fun e w' => e = .returned (.bool (inL zs m)) ∧ w = w' := by
  have HG := Lib.hid (idxL_ge zs m 0 (by omega))
  go_enter Try.func50, Try.ntmps50
  go_wp2_with (go_at_call 55; refine (index_any _ _ _ _ _ _ hz hn).mono ?_; rintro e w' ⟨rfl, rfl⟩)
  go_ret
  exact ⟨by rw [← HG.out]; rfl, rfl⟩
theorem contains_is {a : Option Addr} {n c : Nat} {zs : List Int} {m : Int} {w : World} {p : Bool} (hz : IntCells .i64 w a n zs) (hn : n ≤ 1000000000) (h : inL zs m = p) :
    Calls Try.prog 50 #[.slice a n c, .int .i64 m] w fun e w' => e = .returned (.bool p) ∧ w = w' := by
  rw [← h]; exact contains_any a n c zs m w hz hn

/-- Has a window all of so many? -/
def hasAll (xs : List Int) (who : Int) : Bool := (List.range who.toNat).all fun i => inL xs i
def fairL (zs : List Int) (who k : Int) : Bool := decide (1 ≤ who) && decide (1 ≤ k) && (wins zs k).all fun x => hasAll x.2 who

/-- The first j windows have all. -/
def Seen (zs : List Int) (who k : Int) (j : Nat) : Prop := ∀ (i : Nat) (x : Nat × List Int), i < j → (wins zs k)[i]? = some x → hasAll x.2 who = true
theorem Seen.succ {zs : List Int} {who k : Int} {j : Nat} {x : Nat × List Int} (h : Seen zs who k j) (hx : (wins zs k)[j]? = some x) (ha : hasAll x.2 who = true) : Seen zs who k (j + 1) := by
  intro i y hi hy
  rcases Nat.lt_succ_iff_lt_or_eq.1 hi with h1 | h1
  · exact h i y h1 hy
  · subst h1
    rw [hx] at hy
    injection hy with hy
    subst hy
    exact ha

/-- What lies in Fair's boxes. -/
structure FI (w : World) (N : Nat) (who : Int) (b : Bool) (W : World) : Prop where
  keep : Keep none_ w W
  wh : Blk W w.heap.size [.int .i64 who] 3
  f : Blk W N [.bool b] 4
theorem FI.own {w : World} {N : Nat} {who : Int} {b : Bool} {B : Nat} (hB : w.heap.size ≤ B) {β : Type} : OwnFrom B (fun (_ : β) W => FI w N who b W) := by
  rintro j W W' row h hg hr
  exact ⟨ownFrom_keep hB j W W' row h.keep hg hr, ownFrom_blk (cs := fun _ => _) j W W' row h.wh hg hr, ownFrom_blk (cs := fun _ => _) j W W' row h.f hg hr⟩
theorem FI.later {w : World} {N : Nat} {who : Int} {b : Bool} {W W' : World} (h : FI w N who b W) (hk : Keep none_ w W') (hk' : Keep none_ W W') : FI w N who b W' :=
  ⟨hk, hk'.blk h.wh (fun f => f), hk'.blk h.f (fun f => f)⟩

set_option maxRecDepth 100000 in
set_option maxHeartbeats 1000000 in
theorem fair_any (a : Option Addr) (n c : Nat) (zs : List Int) (who k : Int) (w : World) (hz : IntCells .i64 w a n zs) (hn : n ≤ 1000000000) (hnc : n ≤ c) (hk0 : -9223372036854775808 ≤ k) (hk1 : k ≤ 9223372036854775807) (hw1 : who ≤ 9223372036854775807) :
    Calls Try.prog 38 #[.slice a n c, .int .i64 who, .int .i64 k] w fun e w' => e = .returned (.bool (fairL zs who k)) ∧ Keep none_ w w' := by
  by_cases h1 : who < 1
  · have HE : Hid (fairL zs who k = false) := by simp [Hid, fairL]; omega
    go_enter Try.func38, Try.ntmps38
    go_wp2
    go_step3
    go_wp2
    try rw [Exit.noGoto_ret]
    go_ret
    exact ⟨by rw [HE.out]; rfl, (Keep.refl _ _).alloc _⟩
  by_cases h2 : k < 1
  · have HE : Hid (fairL zs who k = false) := by simp [Hid, fairL]; omega
    go_enter Try.func38, Try.ntmps38
    go_wp2
    go_step3
    go_wp2
    try rw [Exit.noGoto_ret]
    go_ret
    exact ⟨by rw [HE.out]; rfl, (Keep.refl _ _).alloc _⟩
  refine (callsIn_wide (n := 9)).1 ?_
  refine callsIn_of_wp_marks Try.func38 rfl trivial ?_ rfl
  refine wpIn_wide.2 ?_
  simp only [Try.ntmps38, List.size_toArray, List.length_cons, List.length_nil, Nat.reduceAdd, Nat.reduceSub, Array.replicate_succ, Array.replicate_zero, List.push_toArray, List.append_toArray, List.nil_append, List.cons_append]
  go_wp2_with fail
  go_step3
  go_wp2_with fail
  go_step3
  go_wp2_with fail
  refine (win_any a n c k _).mono ?_
  rintro e w1 ⟨rfl, hb1, hb2, hk1'⟩
  have hW := hk1'.blk ((Blk.new w [.int .i64 who] 3).alloc (.cells #[.bool true] 4)) (fun f => f)
  have hF := hk1'.blk (Blk.new (w.alloc (.cells #[.int .i64 who] 3)) [.bool true] 4) (fun f => f)
  have hk0' : Keep none_ w w1 := (((Keep.refl none_ w).alloc _).alloc _).trans hk1'
  simp only [World.size_alloc] at hb1 hb2 hF
  have hsz := hk0'.size
  have hlt9 := hb2.lt
  have hlt8 := hb1.lt
  have hGlt : ∀ b, winG a n (w.heap.size + 1 + 1 + 1) (w.heap.size + 1 + 1) b → b < w1.heap.size := by
    rintro b (rfl | rfl | ⟨hn0, b', off', e, rfl⟩)
    · omega
    · omega
    · obtain ⟨b2, o2, e2, h2⟩ := hz.at_ hn0
      rw [e] at e2
      injection e2 with e2
      injection e2 with e3 e4
      subst e3
      have := World.block_lt_of_cell? _ _ (h2 0 hn0)
      simp at this
      omega
  have hGne : ∀ b, winG a n (w.heap.size + 1 + 1 + 1) (w.heap.size + 1 + 1) b → b ≠ w.heap.size + 1 := by
    rintro b (rfl | rfl | ⟨hn0, b', off', e, rfl⟩)
    · omega
    · omega
    · obtain ⟨b2, o2, e2, h2⟩ := hz.at_ hn0
      rw [e] at e2
      injection e2 with e2
      injection e2 with e3 e4
      subst e3
      have := World.block_lt_of_cell? _ _ (h2 0 hn0)
      simp at this
      omega
  clear hk1'
  go_wp2_with fail
  refine wpIn_wide (n := 9) |>.1 ?_
  refine rangeFn rfl (by decide) (gf := 42) (lb := #[.pointer (some ⟨w.heap.size + 1 + 1 + 1, 0, none⟩), .pointer (some ⟨w.heap.size + 1 + 1, 0, none⟩)]) rfl trivial (fun args w => by simp [callFunc, Try.func42, go_sem]; rfl) (all := wins zs k) (Enc := EncW) (G := winG a n (w.heap.size + 1 + 1 + 1) (w.heap.size + 1 + 1))
    (win_seq a n c k _ _ zs _ _ (hz.below hk0') hnc hn hk0 hk1 hb2 hb1) hGlt ?hps
    (fun j W => FI w (w.heap.size + 1) who true W ∧ Seen zs who k j)
    (fun c j W => FI w (w.heap.size + 1) who false W ∧ fairL zs who k = false ∧ c = .exit 0)
    ?hI ?hIx ?h0 ?round ?done ?stop
  case hI => exact (FI.own (by omega)).and ownFrom_pure
  case hIx => exact fun c => (FI.own (by omega)).and ownFrom_pure
  case h0 => exact ⟨⟨hk0', hW, hF⟩, fun i x h => absurd h (by omega)⟩
  case hps =>
    rintro W x args ⟨a, c, rfl, _⟩
    rfl
  case round =>
    rintro l j x args W hx henc ⟨hI, hall⟩
    obtain ⟨a', c', rfl, hic, hcap⟩ := henc
    gi_wp2_with fail
    refine ⟨fun W => IntCells .i64 W a' x.2.length x.2 ∧ FI w (w.heap.size + 1) who true W, KeepsFrom.refl _ _, Holds.refl _ _, ⟨hic, hI⟩, (IntCells.own _).and (FI.own (by omega)), ?_⟩
    clear hic hI
    rintro W2 ⟨hic, hI⟩
    have hxl : x.2.length ≤ 1000000000 := by
      obtain ⟨_, h3, rfl⟩ := wins_get hx
      have := hz.len
      simp
      omega
    have cW := hI.wh.cell 0 rfl
    have cF := hI.f.cell 0 rfl
    have fF := hI.f.free 0
    have HALL := Lib.hid hall
    have HX := Lib.hid hx
    clear hall hx
    gi_wp2_with fail
    gi_loopw [23] (fun i wr => ∃ q : Nat, (q : Int) ≤ who ∧ i = .int .i64 q ∧ (∀ i, i < q → inL x.2 i = true) ∧ wr = W2) (fun i _ => who.toNat - (intOf i).toNat)
    case atStart => exact ⟨0, by omega, rfl, fun i h => absurd h (by omega), rfl⟩
    case round =>
      obtain ⟨q, hq, rfl, hin, rfl⟩ := hrel
      have HIN := Lib.hid hin
      clear hin
      by_cases hlt : (q : Int) < who
      · cases hi : inL x.2 q with
        | true =>
          have HC := Lib.hid (contains_is (c := c') hic hxl hi)
          have HI := Lib.hid hi
          clear hi
          gi_wp2_with fail
          refine ⟨trivial, CallsIn.mono (CallsIn.inRound l (callsIn_wide.2 HC.out)) ?_⟩
          rintro e w3 ⟨rfl, rfl⟩
          gi_wp2_with fail
          go_roundw
          case rel => exact ⟨q + 1, by omega, by go_num, fun i h => by
            rcases Nat.lt_succ_iff_lt_or_eq.1 h with h | h
            · exact HIN.out i h
            · rw [h]; exact HI.out, trivial⟩
          case measure => simp [intOf]; omega
        | false =>
          have HC := Lib.hid (contains_is (c := c') hic hxl hi)
          have HI := Lib.hid hi
          have hno : fairL zs who k = false := by
            have h1 : hasAll x.2 who = false := by
              rw [hasAll, List.all_eq_false]
              exact ⟨q, by simp; omega, by simp [hi]⟩
            simp only [fairL, Bool.and_eq_false_iff]
            right
            rw [List.all_eq_false]
            exact ⟨x, List.mem_of_getElem? HX.out, by simp [h1]⟩
          have HNO := Lib.hid hno
          clear hi hno
          gi_wp2_with fail
          refine ⟨trivial, CallsIn.mono (CallsIn.inRound l (callsIn_wide.2 HC.out)) ?_⟩
          rintro e w3 ⟨rfl, rfl⟩
          gi_wp2_with fail
          exact ⟨(KeepsOthers.setCell _ _ _).from _, ⟨hI.keep.putNew (by omega) _ _, hI.wh.other (a := ⟨w.heap.size + 1, 0, none⟩) (by simp) _, hI.f.set 0 _⟩, HNO.out, rfl⟩
      · have hq' : q = who.toNat := by omega
        have HQ := Lib.hid hq'
        clear hq'
        gi_wp2_with fail
        refine ⟨KeepsFrom.refl _ _, Holds.refl _ _, hI, HALL.out.succ HX.out ?_⟩
        rw [hasAll, List.all_eq_true]
        intro i' hi'
        simp at hi'
        exact HIN.out i' (by have := HQ.out; omega)
  case done =>
    rintro D W hD ⟨hI, hall⟩ hKd
    have hyes : fairL zs who k = true := by
      simp only [fairL, Bool.and_eq_true, decide_eq_true_iff, List.all_eq_true]
      refine ⟨⟨by omega, by omega⟩, fun x hx => ?_⟩
      obtain ⟨i, hi⟩ := List.mem_iff_getElem?.1 hx
      exact hall i x (List.getElem?_eq_some_iff.1 hi).1 hi
    have HY := Lib.hid hyes
    have cF := hI.f.cell 0 rfl
    have hKp := hI.keep.takeDeferred (D := D) (by omega) (.deferred none)
    clear hall hyes
    go_wp2_with fail
    rw [Exit.noGoto_ret]
    refine ⟨by simp, .inl ⟨_, _, rfl, run_takeDeferred hKd, ?_⟩⟩
    exact ⟨.bool true, by simp [results, Try.f38, go_sem], by rw [HY.out], hKp⟩
  case stop =>
    rintro D c j W hD hjle ⟨hI, hno, rfl⟩ hKd
    have HY := Lib.hid hno
    have cF := hI.f.cell 0 rfl
    have hKp := hI.keep.takeDeferred (D := D) (by omega) (.deferred none)
    clear hno
    gi_wp2_with fail
    go_wp2_with fail
    rw [Exit.noGoto_ret]
    refine ⟨by simp, .inl ⟨_, _, rfl, run_takeDeferred hKd, ?_⟩⟩
    exact ⟨.bool false, by simp [results, Try.f38, go_sem], by rw [HY.out], hKp⟩
theorem fair_is {a : Option Addr} {n c : Nat} {zs : List Int} {who k : Int} {w : World} {p : Bool} (hz : IntCells .i64 w a n zs) (hn : n ≤ 1000000000 ∧ n ≤ c) (hk : -9223372036854775808 ≤ k ∧ k ≤ 9223372036854775807) (hw1 : who ≤ 9223372036854775807) (h : fairL zs who k = p) :
    Calls Try.prog 38 #[.slice a n c, .int .i64 who, .int .i64 k] w fun e w' => e = .returned (.bool p) ∧ Keep none_ w w' := by
  rw [← h]; exact fair_any a n c zs who k w hz hn.1 hn.2 hk.1 hk.2 hw1
end Go.Proofs.Ytcdmlinaebnbcaa
