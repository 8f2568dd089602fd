/- fair.Windows: what it hands back, and what that tells when it is ranged over. -/
import Derived.Test.YtcdmlinaebnbcaaClone
import Derived.Test.YtcdmlinaebnbcaaRangeFn
import Derived.WalkSpells
import Derived.WalkLawsBesides
namespace Go.Proofs.Ytcdmlinaebnbcaa
open Go.RowKit
attribute [local go_sem] Oper.semAt_some

/-- All so many, one behind the other, each with its place. -/
def wins (zs : List Int) (k : Int) : List (Nat × List Int) :=
  if 1 ≤ k ∧ k ≤ zs.length then (List.range (zs.length + 1 - k.toNat)).map fun i => (i, (zs.drop i).take k.toNat) else []
def EncW (W : World) (x : Nat × List Int) (args : Array Value) : Prop := ∃ a c, args = #[.int .i64 x.1, .slice a x.2.length c] ∧ IntCells .i64 W a x.2.length x.2 ∧ x.2.length ≤ c

theorem IntCells.own {k : IntKind} {a : Option Addr} {n : Nat} {zs : List Int} (B : Nat) : OwnFrom B (fun (_ : Unit) W => IntCells k W a n zs) := by
  rintro s W W' row ⟨hl, h⟩ hg hr
  refine ⟨hl, fun h0 => ?_⟩
  obtain ⟨b, off, e, hc⟩ := h h0
  exact ⟨b, off, e, fun j hj => cell_kept (hc j hj) hg (fun r e => (hr r e).2)⟩
theorem EncW.own (x : Nat × List Int) (args : Array Value) (B : Nat) : OwnFrom B (fun (_ : Unit) W => EncW W x args) := by
  rintro s W W' row ⟨a, c, e, h, hc⟩ hg hr
  exact ⟨a, c, e, IntCells.own B () W W' row h hg hr, hc⟩

set_option maxHeartbeats 400000 in
theorem win_any (a : Option Addr) (n c : Nat) (k : Int) (w : World) :
    Calls Try.prog 17 #[.slice a n c, .int .i64 k] w fun e w' => e = .returned (.func (.func 42) #[] #[.pointer (some ⟨w.heap.size + 1, 0, none⟩), .pointer (some ⟨w.heap.size, 0, none⟩)]) ∧ Blk w' w.heap.size [.slice a n c] 22 ∧ Blk w' (w.heap.size + 1) [.int .i64 k] 3 ∧ Keep none_ w w' := by
  have hmf : ∀ (fn : Fn) (first cap : Array Value) (w : World), (Instr.makeFunc fn first cap).run Try.prog w = .ok (.func fn first cap) w := fun _ _ _ _ => rfl
  have hb : ∀ w : World, Hid (Blk ((w.alloc (.cells #[.slice a n c] 22)).alloc (.cells #[.int .i64 k] 3)) w.heap.size [.slice a n c] 22 ∧ Blk ((w.alloc (.cells #[.slice a n c] 22)).alloc (.cells #[.int .i64 k] 3)) (w.heap.size + 1) [.int .i64 k] 3) := fun w =>
    ⟨(Blk.new w [.slice a n c] 22).alloc _, by have := Blk.new (w.alloc (.cells #[.slice a n c] 22)) [.int .i64 k] 3; simpa using this⟩
  go_enter Try.func17, Try.ntmps17
  go_wp2
  go_ret
  exact ⟨rfl, (hb _).out.1, (hb _).out.2, ((Keep.refl _ _).alloc _).alloc _⟩

/-- What the iterator reads again and again: its two boxes, and the numbers. -/
def winG (a : Option Addr) (n kB pB : Nat) : Nat → Prop := fun i => i = kB ∨ i = pB ∨ (0 < n ∧ ∃ b off, a = some ⟨b, off, none⟩ ∧ i = b)

set_option maxRecDepth 100000 in
set_option maxHeartbeats 1000000 in
theorem win_seq (a : Option Addr) (n c : Nat) (k : Int) (kB pB : Nat) (zs : List Int) (m : Nat) (w : World) (hz : IntCells .i64 w a n zs) (hnc : n ≤ c) (hn : n ≤ 1000000000) (hk0 : -9223372036854775808 ≤ k) (hk1 : k ≤ 9223372036854775807)
    (hbk : Blk w kB [.int .i64 k] 3) (hbp : Blk w pB [.slice a n c] 22) :
    SeqL Fence.wide m Try.prog 42 #[.pointer (some ⟨kB, 0, none⟩), .pointer (some ⟨pB, 0, none⟩)] (wins zs k) EncW (winG a n kB pB) w := by
  intro l J Jx W hW hJ hJx hY h0
  have hbk1 := hW.blk hbk (fun f => f)
  have hbp1 := hW.blk hbp (fun f => f)
  have hz1 := hz.below hW
  have hc0 := hbk1.cell 0 (v := .int .i64 k) rfl
  refine callsIn_of_wp Try.func42 rfl trivial ?_ rfl
  simp only [Try.ntmps42, List.size_toArray, List.length_cons, List.length_nil, Nat.reduceAdd, Nat.reduceSub, Array.replicate_succ, Array.replicate_zero, List.push_toArray, List.append_toArray, List.nil_append, List.cons_append]
  by_cases hk : k < 1
  · have he : wins zs k = [] := by unfold wins; rw [if_neg (by omega)]
    rw [he]
    clear hY
    gi_wp2
    refine bodyPost_ret (results_none rfl _ _ _) rfl ?_
    exact ⟨⟨_, rfl⟩, .inl h0⟩
  · obtain ⟨q, rfl⟩ : ∃ q : Nat, k = q := ⟨k.toNat, by omega⟩
    have hq1 : 1 ≤ q := by omega
    have hlen : (wins zs q).length = n + 1 - q := by
      have := hz.len
      unfold wins
      split
      · simp [this]
      · simp; omega
    have hget : ∀ j, j < n + 1 - q → (wins zs q)[j]? = some (j, (zs.drop j).take q) := fun j hj => by
      have hl := hz.len
      unfold wins
      rw [if_pos (by omega)]
      simp [hl, hj]
    have hwl : ∀ j, j < n + 1 - q → ((zs.drop j).take q).length = q := fun j hj => by have := hz.len; simp; omega
    have HG := Lib.hid hget; have HL := Lib.hid hlen; have HWL := Lib.hid hwl
    have hkI : (1 : Int) ≤ (q : Int) := by omega
    clear hget hlen hk hwl
    gi_wp2
    gi_loopw [4] (fun i wr => ∃ j : Nat, j ≤ n + 1 - q ∧ i = .int .i64 j ∧ J j wr ∧ Holds (winG a n kB pB) W wr) (fun i _ => n + 1 - q - (intOf i).toNat)
    case atStart => exact ⟨0, by omega, rfl, h0, Holds.refl _ _⟩
    case round =>
      obtain ⟨j, hj, rfl, hJj, hH⟩ := hrel
      have b1 := hH.blk (.inl rfl) hbk1
      have b2 := hH.blk (.inr (.inl rfl)) hbp1
      have c1 := b1.cell 0 (v := .int .i64 q) rfl
      have c2 := b2.cell 0 (v := .slice a n c) rfl
      by_cases hlt : j < n + 1 - q
      · obtain ⟨b, off, rfl, hc⟩ := hz1.at_ (by omega)
        have hzr : IntCells .i64 wr (some ⟨b, off, none⟩) n zs := ⟨hz1.len, fun _ => ⟨b, off, rfl, fun i hi => by
          have := hc i hi
          rw [World.cell?_of_block (w := W) (hH.same b (.inr (.inr ⟨by omega, b, off, rfl, rfl⟩)))]; exact this⟩⟩
        have hcut := hzr.cut2 (c := c) j q (by omega) hnc
        have hcj : ¬ c = j := by omega
        have ecut : cutA (some ⟨b, off, none⟩) c j = some ⟨b, off + j, none⟩ := by simp [cutA, hcj, Addr.add]
        rw [ecut] at hcut
        have HC := Lib.hid (cloneI_cells (some ⟨b, off + j, none⟩) q (c - j) _ wr hcut.toCells (fun e => by cases e) (by omega) (fun u hu => by obtain ⟨z, _, rfl⟩ := List.mem_map.1 hu; rfl))
        have hjle : (j : Int) ≤ (n : Int) - q := by omega
        have hjc : (j : Int) + q ≤ c := by omega
        have HY := Lib.hid hY
        have HJ := Lib.hid hJj
        have hGlt : ∀ i, winG (some ⟨b, off, none⟩) n kB pB i → i < wr.heap.size := by
          rintro i (rfl | rfl | ⟨_, b', off', e, rfl⟩)
          · exact b1.lt
          · exact b2.lt
          · injection e with e; injection e with e1 e2; subst e1
            obtain ⟨b2', o2', e2', h2'⟩ := hzr.at_ (by omega)
            injection e2' with e2'; injection e2' with e3 e4; subst e3
            exact World.block_lt_of_cell? _ _ (h2' 0 (by omega))
        have HGL := Lib.hid hGlt
        clear hGlt
        clear hc hzr hcut ecut hY hJj
        gi_wp2_with fail
        refine ⟨trivial, fun h => (by cases h), CallsIn.mono (callsIn_wide.2 HC.out) ?_⟩
        rintro e w1 ⟨v', rfl, hown, hkp⟩
        obtain ⟨a', c', rfl, hic, hle⟩ := IntCells.ofOwn' hown
        have hj1 := hJ j _ _ HJ.out hkp
        have hwl' := HWL.out j hlt
        obtain ⟨fn, tmps, assign, body, hy, hR⟩ := HY.out j _ #[.int .i64 j, .slice a' q c'] w1 (HG.out j hlt) hj1 ⟨a', c', by simp only [hwl'], by simp only [hwl']; exact hic, by simp only [hwl']; exact hle⟩
        clear hwl' hj1 hown hic
        gi_wp2_with fail
        refine ⟨fun h => (by cases h), hR.mono ?_⟩
        rintro e W' (⟨rfl, hJ', hk⟩ | ⟨rfl, hJx'⟩)
        · gi_wp2_with fail
          go_roundw
          case rel => exact ⟨j + 1, by omega, by go_num, hJ', (hH.trans (Holds.ofKeep hkp (fun i hi => ⟨HGL.out i hi, fun f => f⟩))).trans hk⟩
          case measure => simp [intOf]; omega
        · gi_wp2_with fail
          refine bodyPost_ret (results_none rfl _ _ _) rfl ?_
          exact ⟨⟨_, rfl⟩, .inr ⟨j + 1, by rw [HL.out]; omega, hJx'⟩⟩
      · clear hY
        have hje : j = n + 1 - q := by omega
        have hgt : ¬ ((j : Int) ≤ (n : Int) - q) := by omega
        have HJE := Lib.hid hje
        clear hje
        gi_wp2_with fail
        go_end0
        exact ⟨⟨_, rfl⟩, .inl (by rw [HL.out, ← HJE.out]; exact hJj)⟩
theorem wins_get {zs : List Int} {k : Int} {j : Nat} {x : Nat × List Int} (h : (wins zs k)[j]? = some x) : 1 ≤ k ∧ j + k.toNat ≤ zs.length ∧ x = (j, (zs.drop j).take k.toNat) := by
  unfold wins at h
  split at h
  · rename_i hk
    rw [List.getElem?_map] at h
    obtain ⟨i, hi, rfl⟩ := Option.map_eq_some_iff.1 h
    obtain ⟨hl, e⟩ := List.getElem?_eq_some_iff.1 hi
    simp at hl e
    subst e
    exact ⟨hk.1, by omega, rfl⟩
  · simp at h
theorem wins_len (zs : List Int) (k : Int) : ((wins zs k).length : Int) = if 1 ≤ k ∧ k ≤ zs.length then zs.length - k + 1 else 0 := by
  unfold wins
  split
  · simp; omega
  · rfl
end Go.Proofs.Ytcdmlinaebnbcaa
