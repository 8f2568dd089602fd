/- Parts of a walk, put together by a small program of mine from texts of their own: Own Slots Slots2. -/
import Derived.Test.YtjdnkhljgnjkcaaGreatDoorRows
import Derived.Test.YtjdnkhljgnjkcaaGreatDoorZzc
import Derived.WalkKit
import Derived.WalkSpells
import Derived.WalkLawsBesides
import Derived.Lib.Hide
import Derived.ArgAppend
import Derived.Deep.DeepAppendRoom
/- Rows of the call's own: their form, a store into one, an append of one cell. -/
namespace Go.Proofs.YtjdnkhljgnjkcaaGreatDoor
open Go.RowKit

def app9 (ats : Array TypeId) (ty : TypeId) (args : Array Value) : Sem Value := Builtin.append_ ats ty args
theorem app9_of (ats : Array TypeId) (ty : TypeId) (args : Array Value) : Builtin.append_ ats ty args = app9 ats ty args := rfl
theorem Tryz.infoInt : (Tryz.prog.info? 3).map (fun i => (i.zero, i.size, i.bytes)) = some (some (.int .i64 0), 1, 8) := by kernel_rfl
theorem Tryz.infoInts : (Tryz.prog.info? 40).map (fun i => (i.zero, i.size, i.bytes)) = some (some (.slice none 0 0), 1, 24) := by kernel_rfl
/-! ### Rows of the call's own -/
theorem own_form {w : World} {e : TypeId} {v : Value} {n : Nat} {xs : List Value} (h : w.ownsRow 0 e 1 v n xs) : ∃ a cap, v = .slice a n cap ∧ xs.length = n ∧ n ≤ cap ∧ (a = none → cap = 0) ∧
    ∀ j u, xs[j]? = some u → ∃ g, a = some ⟨g, 0, none⟩ ∧ w.cell? ⟨g, j, none⟩ = some u ∧ w.frozen? ⟨g, j, none⟩ = false := by
  obtain ⟨hl, hf⟩ := h
  have hl' : xs.length = n := by simpa using hl
  rcases hf with ⟨rfl, rfl⟩ | ⟨g, cap, cur, rfl, _, hg, hn, _, hs, hc⟩
  · have : xs = [] := List.eq_nil_of_length_eq_zero hl'
    subst this
    exact ⟨none, 0, rfl, rfl, Nat.le_refl _, fun _ => rfl, fun j u h => by simp at h⟩
  · refine ⟨_, cap, rfl, hl', hn, fun h => (by cases h), fun j u hj => ⟨g, rfl, ?_, ?_⟩⟩
    · have hj2 := (List.getElem?_eq_some_iff.1 hj).1
      rw [← hc] at hj
      rw [List.getElem?_take_of_lt (by omega)] at hj
      simp [World.cell?, hg]
      simpa using hj
    · simp [World.frozen?, hg]
theorem own_block {w : World} {e : TypeId} {g n cap : Nat} {xs : List Value} (h : w.ownsRow 0 e 1 (.slice (some ⟨g, 0, none⟩) n cap) n xs) : ∃ cur : Array Value, w.heap[g]? = some (.cells cur e (0, 0)) := by
  rcases h.2 with ⟨h, _⟩ | ⟨g', cap', cur, hv, _, hg, _⟩
  · cases h
  · cases hv
    exact ⟨cur, hg⟩
/-- Rows of two element types, in two blocks. -/
theorem own_ne2 {w : World} {e e' : TypeId} {v u : Value} {n m : Nat} {xs ys : List Value} (h : w.ownsRow 0 e 1 v n xs) (h' : w.ownsRow 0 e' 1 u m ys) (hne : e ≠ e') {k : Nat} (hv : v.ownBlock = some k) (hu : u.ownBlock = some k) : False := by
  rcases h.2 with ⟨rfl, _⟩ | ⟨g, cap, cur, rfl, _, hg, _⟩
  · simp [Value.ownBlock] at hv
  · rcases h'.2 with ⟨rfl, _⟩ | ⟨g', cap', cur', rfl, _, hg', _⟩
    · simp [Value.ownBlock] at hu
    · simp [Value.ownBlock] at hv hu
      subst hv hu
      rw [hg] at hg'
      simp at hg'
      exact hne hg'.2
theorem own_set {w : World} {e : TypeId} {g n cap : Nat} {xs : List Value} (h : w.ownsRow 0 e 1 (.slice (some ⟨g, 0, none⟩) n cap) n xs) (j : Nat) (u : Value) :
    (w.setCell ⟨g, j, none⟩ u).ownsRow 0 e 1 (.slice (some ⟨g, 0, none⟩) n cap) n (xs.set j u) := by
  rcases h with ⟨hl, hf⟩
  refine ⟨by simpa using hl, ?_⟩
  rcases hf with ⟨h, _⟩ | ⟨g', cap', cur, hv, hb, hg, hn, hm, hs, hc⟩
  · cases h
  · cases hv
    have hlt := (Array.getElem?_eq_some_iff.1 hg).1
    refine .inr ⟨g, cap, cur.set! j u, rfl, hb, ?_, hn, hm, by simpa using hs, ?_⟩
    · have h' : w.heap[g] = .cells cur e (0, 0) := by simpa [Array.getElem?_eq_getElem hlt] using hg
      show (w.heap.modify g _)[g]? = _
      rw [Array.getElem?_eq_getElem (by simpa using hlt), Array.getElem_modify_self, h']
      simp
    · rw [← hc]
      simp [List.take_set]
theorem own_other {w : World} {e : TypeId} {v : Value} {n : Nat} {xs : List Value} (h : w.ownsRow 0 e 1 v n xs) {a : Addr} (ha : ∀ k, v.ownBlock = some k → k ≠ a.block) (u : Value) : (w.setCell a u).ownsRow 0 e 1 v n xs :=
  ownsRow_setCell_other h (fun e => ha _ e rfl) u
theorem own_grown {w w' : World} {e : TypeId} {v : Value} {n : Nat} {xs : List Value} {row : Option Nat} (h : w.ownsRow 0 e 1 v n xs) (g : w.grownBy w' row) (hne : ∀ k, v.ownBlock = some k → row ≠ some k) : w'.ownsRow 0 e 1 v n xs :=
  own_keep (S := fun i => row = some i) h ⟨g.os, g.tape, g.output, g.size, fun k hk n => g.block k hk (fun e => n e.symm)⟩ (fun B hB hr => hne B hB hr)

/-- append of one row: where the grown row lies. -/
theorem app_where {P : Program} (w : World) (t ty e : TypeId) (ht : P.underlying t = some (.slice e)) {z : Value} {bytes : Nat} (hi : (P.info? e).map (fun i => (i.zero, i.size, i.bytes)) = some (some z, 1, bytes)) (hzs : z.cells.size = 1)
    {v : Value} {n : Nat} {xs : List Value} (hown : w.ownsRow 0 e 1 v n xs) {N : Nat} {u : Value} (hN : w.cell? ⟨N, 0, none⟩ = some u) (hu : u.oneCell' = true) (hb : bytes ≤ 1000) (hn : n ≤ 100000000000) :
    ∃ g cap w', (Builtin.append_ #[t, t] ty #[v, .slice (some ⟨N, 0, none⟩) 1 1]).run P w = .ok (.slice (some ⟨g, 0, none⟩) (n + 1) cap) w' ∧ w'.ownsRow 0 e 1 (.slice (some ⟨g, 0, none⟩) (n + 1) cap) (n + 1) (xs ++ [u]) ∧
      w.grownBy w' v.ownBlock ∧ (v.ownBlock = some g ∨ w.heap.size ≤ g) := by
  obtain ⟨i, hi1, hi2, hi3, hi4⟩ := info_parts hi
  have hbytes : (n + 1) * bytes ≤ 140737488355328 := Nat.le_trans (Nat.mul_le_mul (show n + 1 ≤ 100000000001 by omega) hb) (by decide)
  have hnews : ∀ j x, [u][j]? = some x → w.cell? ((⟨N, 0, none⟩ : Addr).add j) = some x := by
    intro j x hj
    cases j with
    | zero => simp at hj; subst hj; simpa [Addr.add] using hN
    | succ j => simp at hj
  have h1 : ∀ x ∈ [u], x.oneCell' = true := by simpa using hu
  have shape : ∀ {v' : Value} {W : World} {B : Nat}, W.ownsRow B e 1 v' (n + 1) (xs ++ [u]) → ∃ g cap, v' = .slice (some ⟨g, 0, none⟩) (n + 1) cap ∧ B ≤ g := by
    intro v' W B h
    rcases h.2 with ⟨_, h0⟩ | ⟨g, cap, cur, rfl, hB, _⟩
    · omega
    · exact ⟨g, cap, rfl, hB⟩
  rcases hown.2 with ⟨rfl, rfl⟩ | ⟨g, cap, cur, rfl, hbg, hg, hnc, hcm, hcs, htake⟩
  · have hown' : w.ownsRow w.heap.size e 1 (.slice none 0 0) 0 xs := ⟨hown.1, .inl ⟨rfl, rfl⟩⟩
    obtain ⟨v', w', hr, h2, h3, _⟩ := run_append_own (P := P) w w.heap.size t ty e i z 1 bytes ht hi1 hi2 hi3 hi4 hzs (by decide) _ 0 xs hown' ⟨N, 0, none⟩ 1 1 [u] rfl hnews h1 (by unfold maxLen; omega) hbytes (Nat.le_refl _)
    obtain ⟨g, cap, rfl, hB⟩ := shape h2
    exact ⟨g, cap, w', hr, own_low h2 (Nat.zero_le _), h3, .inr hB⟩
  · by_cases hroom : n + 1 ≤ cap
    · obtain ⟨w', hr, h2, h3⟩ := run_append_own_spare (P := P) w 0 t ty e i 1 ht hi1 hi3 g n cap xs hown ⟨N, 0, none⟩ 1 1 [u] rfl hnews h1 hroom
      exact ⟨g, cap, w', hr, h2, h3, .inl rfl⟩
    · have holds : ∀ j x, xs[j]? = some x → w.cell? ((⟨g, 0, none⟩ : Addr).add j) = some x := hown.cells (g := g) rfl
      obtain ⟨v', w', hr, h2, h3⟩ := run_append_arg_grows (P := P) w t ty e i z 1 bytes ht hi1 hi2 hi3 hi4 hzs (by decide) ⟨g, 0, none⟩ n cap xs hown.1 holds ⟨N, 0, none⟩ 1 1 [u] rfl hnews (by omega) (by unfold maxLen; omega) hbytes
      obtain ⟨g', cap', rfl, hB⟩ := shape h2
      exact ⟨g', cap', w', hr, own_low h2 (Nat.zero_le _), ⟨h3.os, h3.tape, h3.output, h3.size, fun k hk _ => h3.block k hk (by simp)⟩, .inr hB⟩
end Go.Proofs.YtjdnkhljgnjkcaaGreatDoor

/- The slots of a block: class.Starts, addr.Slot, addr.Slots. -/
namespace Go.Proofs.YtjdnkhljgnjkcaaGreatDoor
open Go.RowKit
attribute [local go_sem] Oper.semAt_some
attribute [local go_sem ↓] app9_of

section
variable {c : Conf} {b ww : Nat} (hok : c.ok = true) (hb : c.b = b) (hw : c.w = ww)
include hok hb hw
set_option maxRecDepth 4000 in
set_option maxHeartbeats 1000000 in
theorem adSlot_in (k B0 s : Nat) (hk : k < 4) (hB : B0 < b) (hs : s < ww / 2 ^ (k + 1)) (w : World) (hT : Tabs w) (hS : Sizes w) : Calls Tryz.prog 159 #[.agg c.cells.toArray, .int .i64 (k : Int), .int .i64 (B0 : Int), .int .i64 (s : Int)] w fun e w' => e = .returned (.int .i64 (((B0 * ww + s * 2 ^ (k + 1) : Nat) : Int) + 1)) ∧ Keep none_ w w' := by
  obtain ⟨W0, hW0⟩ : ∃ W', W' = w.alloc (.cells c.cells.toArray 23) := ⟨_, rfl⟩
  have HK : Hid (Keep none_ w W0) := by rw [hW0]; exact (Keep.refl _ _).alloc _
  have HO := Lib.hid (adOf_in hok hb hw k B0 s hk hB hs W0 (hT.keep HK.out) (hS.keep HK.out))
  have hB := show Blk W0 w.heap.size c.cells 23 by rw [hW0]; exact Blk.new w _ _
  obtain ⟨R, hR⟩ : ∃ R : Int, R = ((B0 * ww + s * 2 ^ (k + 1) : Nat) : Int) + 1 := ⟨_, rfl⟩
  rw [← hR] at HO ⊢
  clear hR
  obtain ⟨c0, c1, c2, c3, c4, c5, c6⟩ := c
  simp only [Conf.cells] at *
  have y0 := hB.cell 0 rfl; have y1 := hB.cell 1 rfl; have y2 := hB.cell 2 rfl; have y3 := hB.cell 3 rfl; have y4 := hB.cell 4 rfl; have y5 := hB.cell 5 rfl; have y6 := hB.cell 6 rfl
  clear hT hS hok hb hw hs hB
  go_enter Tryz.func159, Tryz.ntmps159
  go_wp2_with fail
  rw [← hW0]
  clear hW0
  refine HO.out.mono ?_
  rintro e w1 ⟨rfl, hk1⟩
  have HK1 := Lib.hid (HK.out.trans hk1)
  clear hk1 HK HO y0 y1 y2 y3 y4 y5 y6
  go_wp2_with fail
  go_ret
  exact ⟨rfl, HK1.out⟩
end
/-- What class.Starts tells. -/
def startL (per z : Nat) : List (Nat × Nat) := (List.range per).map fun i => (i, i * z)
theorem startL_len (per z : Nat) : (startL per z).length = per := by simp [startL]
theorem startL_at {per z j : Nat} (h : j < per) : (startL per z)[j]? = some (j, j * z) := by simp [startL, h]
def EncS (_ : World) (x : Nat × Nat) (args : Array Value) : Prop := args = #[.int .i64 (x.1 : Int), .int .i64 (x.2 : Int)]
set_option maxRecDepth 4000 in
theorem clStarts_any (ww k : Int) (w : World) : Calls Tryz.prog 158 #[.int .i64 ww, .int .i64 k] w fun e w' => e = .returned (.func (.func 194) #[] #[.pointer (some ⟨w.heap.size, 0, none⟩), .pointer (some ⟨w.heap.size + 1, 0, none⟩)]) ∧ Blk w' w.heap.size [.int .i64 ww] 3 ∧ Blk w' (w.heap.size + 1) [.int .i64 k] 3 ∧ Keep none_ w w' := by
  have hmf : ∀ (fn : Fn) (first cap : Array Value) (w : World), (Instr.makeFunc fn first cap).run Tryz.prog w = .ok (.func fn first cap) w := fun _ _ _ _ => rfl
  have hb : ∀ w : World, Hid (Blk ((w.alloc (.cells #[.int .i64 ww] 3)).alloc (.cells #[.int .i64 k] 3)) w.heap.size [.int .i64 ww] 3 ∧ Blk ((w.alloc (.cells #[.int .i64 ww] 3)).alloc (.cells #[.int .i64 k] 3)) (w.heap.size + 1) [.int .i64 k] 3) := fun w =>
    ⟨(Blk.new w [.int .i64 ww] 3).alloc _, by have := Blk.new (w.alloc (.cells #[.int .i64 ww] 3)) [.int .i64 k] 3; simpa using this⟩
  go_enter Tryz.func158, Tryz.ntmps158
  go_wp2
  go_ret
  exact ⟨rfl, (hb _).out.1, (hb _).out.2, ((Keep.refl _ _).alloc _).alloc _⟩
def startG (pB kB : Nat) : Nat → Prop := fun i => i = pB ∨ i = kB ∨ i = 1
set_option maxRecDepth 100000 in
set_option maxHeartbeats 1000000 in
theorem starts_seq (ww k pB kB : Nat) (hw : 16 ≤ ww ∧ ww ≤ 256) (hk : k < 4) (m : Nat) (w : World) (hS : Sizes w) (hbp : Blk w pB [.int .i64 (ww : Int)] 3) (hbk : Blk w kB [.int .i64 (k : Int)] 3) :
    SeqL Fence.wide m Tryz.prog 194 #[.pointer (some ⟨pB, 0, none⟩), .pointer (some ⟨kB, 0, none⟩)] (startL (ww / 2 ^ (k + 1)) (2 ^ (k + 1))) EncS (startG pB kB) w := by
  intro l J Jx W hW hJ hJx hY h0
  have hbk1 := hW.blk hbk (fun f => f)
  have hbp1 := hW.blk hbp (fun f => f)
  have hc0 := hbp1.cell 0 (v := .int .i64 (ww : Int)) rfl
  have hc1 := hbk1.cell 0 (v := .int .i64 (k : Int)) rfl
  have HP := Lib.hid (clPer_any ww k hw hk W (hS.keep hW))
  have hsz : W.cell? ⟨1, k, none⟩ = some (.int .i64 ((2 ^ (k + 1) : Nat) : Int)) := (hS.keep hW) k _ (show sizeL[k]? = some ((2 ^ (k + 1) : Nat) : Int) from by
    obtain rfl | rfl | rfl | rfl : k = 0 ∨ k = 1 ∨ k = 2 ∨ k = 3 := by omega
    all_goals rfl)
  have hz := pow_class hk
  have hper : ∀ j, j < ww / 2 ^ (k + 1) → j * 2 ^ (k + 1) ≤ 256 := fun j hj => by
    have h1 : j * 2 ^ (k + 1) ≤ (ww / 2 ^ (k + 1)) * 2 ^ (k + 1) := Nat.mul_le_mul_right _ (Nat.le_of_lt hj)
    have h2 := Nat.div_mul_le_self ww (2 ^ (k + 1))
    omega
  have hpl : ww / 2 ^ (k + 1) ≤ 256 := Nat.le_trans (Nat.div_le_self _ _) hw.2
  have hkI : (k : Int) < 4 := by omega
  generalize 2 ^ (k + 1) = z at *
  generalize ww / z = per at *
  have HPER := Lib.hid hper
  clear hper hk hw hS
  refine callsIn_of_wp Tryz.func194 rfl trivial ?_ rfl
  simp only [Tryz.ntmps194, List.size_toArray, List.length_cons, List.length_nil, Nat.reduceAdd, Nat.reduceSub, Array.replicate_succ, Array.replicate_zero, List.push_toArray, List.append_toArray, List.nil_append, List.cons_append]
  gi_wp2_with fail
  refine ⟨trivial, fun h => (by cases h), CallsIn.mono (callsIn_wide.2 HP.out) ?_⟩
  rintro e w1 ⟨rfl, rfl⟩
  gi_wp2_with fail
  gi_loopw [8] (fun i wr => ∃ j : Nat, j ≤ per ∧ i = .int .i64 j ∧ J j wr ∧ Holds (startG pB kB) W wr) (fun i _ => per - (intOf i).toNat)
  case atStart => exact ⟨0, by omega, rfl, h0, Holds.refl _ _⟩
  case round =>
    obtain ⟨j, hj, rfl, hJj, hH⟩ := hrel
    have b1 := hH.blk (.inl rfl) hbp1
    have b2 := hH.blk (.inr (.inl rfl)) hbk1
    have c1 := b1.cell 0 (v := .int .i64 (ww : Int)) rfl
    have c2 := b2.cell 0 (v := .int .i64 (k : Int)) rfl
    have c3 : wr.cell? ⟨1, k, none⟩ = some (.int .i64 (z : Int)) := by
      rw [World.cell?_of_block (w := W) (hH.same 1 (.inr (.inr rfl)))]; exact hsz
    by_cases hlt : j < per
    · have hmul : (j : Int) * (z : Int) = ((j * z : Nat) : Int) := by simp
      have hmle := HPER.out j hlt
      obtain ⟨x2, hx2⟩ : ∃ x2, x2 = j * z := ⟨_, rfl⟩
      rw [← hx2] at hmul hmle
      have hwr : IntKind.i64.wrap (x2 : Int) = (x2 : Int) := IntWalk.i64_in _ (by omega)
      have HX := Lib.hid hx2
      have HY := Lib.hid hY
      have HJ := Lib.hid hJj
      clear hx2 hY hJj
      obtain ⟨fn, tmps, assign, body, hy, hR⟩ := HY.out j (j, j * z) #[.int .i64 (j : Int), .int .i64 (x2 : Int)] wr (startL_at hlt) HJ.out (by rw [HX.out]; rfl)
      gi_wp2_with fail
      refine ⟨fun h => (by cases h), hR.mono ?_⟩
      rintro e W' (⟨rfl, hJ', hk⟩ | ⟨rfl, hJx'⟩)
      · gi_wp2_with fail
        go_roundw
        case rel => exact ⟨j + 1, by omega, by go_num, hJ', hH.trans hk⟩
        case measure => simp [intOf]; omega
      · gi_wp2_with fail
        refine bodyPost_ret (results_none rfl _ _ _) rfl ?_
        exact ⟨⟨_, rfl⟩, .inr ⟨j + 1, by rw [startL_len]; omega, hJx'⟩⟩
    · clear hY
      have hje : j = per := by omega
      have HJE := Lib.hid hje
      clear hje
      gi_wp2_with fail
      go_end0
      exact ⟨⟨_, rfl⟩, .inl (by rw [startL_len, ← HJE.out]; exact hJj)⟩
/-- The addresses of a block's slots. -/
def slotsL (per z base : Nat) : List Nat := (List.range per).map fun i => base + i * z + 1
theorem slotsL_len (per z base : Nat) : (slotsL per z base).length = per := by simp [slotsL]
theorem slotsL_succ (j z base : Nat) : slotsL (j + 1) z base = slotsL j z base ++ [base + j * z + 1] := by simp [slotsL, List.range_succ]
/-- What a round of Slots finds. -/
structure SlI (w : World) (N O : Nat) (cf : List Value) (k B0 z base : Nat) (j : Nat) (W : World) : Prop where
  keep : Keep none_ w W
  cf : Blk W w.heap.size cf 23
  k : Blk W (w.heap.size + 1) [.int .i64 (k : Int)] 3
  b : Blk W (w.heap.size + 1 + 1) [.int .i64 (B0 : Int)] 3
  big : N ≤ W.heap.size
  o : ∃ v, Blk W O [v] 40 ∧ W.ownsRow N 3 1 v j ((slotsL j z base).map fun x : Nat => .int .i64 (x : Int))
theorem SlI.own {w : World} {N O : Nat} {cf : List Value} {k B0 z base B : Nat} (hB : w.heap.size ≤ B) : OwnFrom B (SlI w N O cf k B0 z base) := by
  rintro j W W' row ⟨h1, h2, h3, h4, hN, v, h5, h6⟩ hg hr
  refine ⟨ownFrom_keep (β := Nat) hB j W W' row h1 hg hr, ownFrom_blk (β := Nat) (cs := fun _ => _) j W W' row h2 hg hr, ownFrom_blk (β := Nat) (cs := fun _ => _) j W W' row h3 hg hr, ownFrom_blk (β := Nat) (cs := fun _ => _) j W W' row h4 hg hr, Nat.le_trans hN hg.size, v, ownFrom_blk (β := Nat) (cs := fun _ => _) j W W' row h5 hg hr, ?_⟩
  refine own_keep (S := fun i => row = some i) h6 ⟨hg.os, hg.tape, hg.output, hg.size, fun k hk n => hg.block k hk (fun e => n e.symm)⟩ (fun g hg' e => ?_)
  obtain ⟨_, _, ho, hc⟩ := hr g e
  obtain ⟨n, cap, rfl⟩ : ∃ n cap, v = .slice (some ⟨g, 0, none⟩) n cap := by
    obtain ⟨a, cap, rfl, _⟩ := own_form (own_low h6 (Nat.zero_le _))
    cases a with
    | none => simp [Value.ownBlock] at hg'
    | some a =>
      rcases h6.2 with ⟨h, _⟩ | ⟨g2, cap2, cur2, hv, _⟩
      · cases h
      · cases hv
        simp [Value.ownBlock] at hg'
        subst hg'
        exact ⟨_, _, rfl⟩
  have h7 := own_low h6 (Nat.zero_le _)
  have hn : n = j := by
    rcases h6.2 with ⟨h, _⟩ | ⟨g2, cap2, cur2, hv, _⟩
    · cases h
    · cases hv; rfl
  subst hn
  obtain ⟨cur, hcur⟩ := own_block h7
  rw [hcur] at ho
  cases ho
  simp [Obj.isCells] at hc
theorem SlI.later {w : World} {N O : Nat} {cf : List Value} {k B0 z base j : Nat} {W W' : World} (h : SlI w N O cf k B0 z base j W) (hk : Keep none_ W W') : SlI w N O cf k B0 z base j W' := by
  obtain ⟨v, h5, h6⟩ := h.o
  exact ⟨h.keep.trans hk, hk.blk h.cf (fun f => f), hk.blk h.k (fun f => f), hk.blk h.b (fun f => f), Nat.le_trans h.big hk.size, v, hk.blk h5 (fun f => f), own_still h6 hk⟩
theorem own_cells {w : World} {e : TypeId} {v : Value} {n q : Nat} {xs : List Value} (h : w.ownsRow 0 e 1 v n xs) (hq : v.ownBlock = some q) : ∃ cur : Array Value, w.heap[q]? = some (.cells cur e (0, 0)) := by
  rcases h.2 with ⟨rfl, _⟩ | ⟨g2, cap2, cur2, rfl, _, hg, _⟩
  · simp [Value.ownBlock] at hq
  · simp [Value.ownBlock] at hq
    subst hq
    exact ⟨_, hg⟩
theorem own_up {w : World} {e : TypeId} {base g n cap : Nat} {xs : List Value} (h : w.ownsRow 0 e 1 (.slice (some ⟨g, 0, none⟩) n cap) n xs) (hg : base ≤ g) : w.ownsRow base e 1 (.slice (some ⟨g, 0, none⟩) n cap) n xs := by
  refine ⟨h.1, ?_⟩
  rcases h.2 with ⟨h, _⟩ | ⟨g', cap', cur, hv, _, rest⟩
  · cases h
  · cases hv
    exact .inr ⟨g, cap, cur, rfl, hg, rest⟩
end Go.Proofs.YtjdnkhljgnjkcaaGreatDoor

/- The slots of a block: addr.Slots. -/
namespace Go.Proofs.YtjdnkhljgnjkcaaGreatDoor
open Go.RowKit
attribute [local go_sem] Oper.semAt_some
attribute [local go_sem ↓] app9_of

section
variable {c : Conf} {b ww : Nat} (hok : c.ok = true) (hb : c.b = b) (hw : c.w = ww)
include hok hb hw
set_option maxRecDepth 100000 in
set_option maxHeartbeats 2000000 in
theorem adSlots_in (k B0 : Nat) (hk : k < 4) (hB : B0 < b) (w : World) (hT : Tabs w) (hS : Sizes w) : Calls Tryz.prog 122 #[.agg c.cells.toArray, .int .i64 (k : Int), .int .i64 (B0 : Int)] w fun e w' => ∃ v, e = .returned v ∧ w'.ownsRow w.heap.size 3 1 v (ww / 2 ^ (k + 1)) ((slotsL (ww / 2 ^ (k + 1)) (2 ^ (k + 1)) (B0 * ww)).map fun x : Nat => .int .i64 (x : Int)) ∧ Keep none_ w w' := by
  have hn := ok_nat hok hb hw
  have hz := pow_class hk
  have HADR : Hid (∀ j x W, x = B0 * ww + j * 2 ^ (k + 1) → j < ww / 2 ^ (k + 1) → Keep none_ w W → Calls Tryz.prog 159 #[.agg c.cells.toArray, .int .i64 (k : Int), .int .i64 (B0 : Int), .int .i64 (j : Int)] W fun e w' => e = .returned (.int .i64 ((x : Int) + 1)) ∧ Keep none_ W w') := fun j x W hx hj hW => by rw [hx]; exact adSlot_in hok hb hw k B0 j hk hB hj W (hT.keep hW) (hS.keep hW)
  have HBD : Hid (∀ j, j < ww / 2 ^ (k + 1) → B0 * ww + j * 2 ^ (k + 1) < 1048577) := fun j hj => by
    have h1 : j * 2 ^ (k + 1) ≤ (ww / 2 ^ (k + 1)) * 2 ^ (k + 1) := Nat.mul_le_mul_right _ (Nat.le_of_lt hj)
    have h2 := Nat.div_mul_le_self ww (2 ^ (k + 1))
    have h3 : (B0 + 1) * ww ≤ b * ww := Nat.mul_le_mul_right ww (Nat.succ_le_of_lt hB)
    have h4 : (B0 + 1) * ww = B0 * ww + ww := by rw [Nat.add_mul, Nat.one_mul]
    omega
  have HPL : Hid (ww / 2 ^ (k + 1) ≤ 256) := Nat.le_trans (Nat.div_le_self _ _) hn.2.2.2.1
  obtain ⟨W0, hW0⟩ : ∃ W', W' = (((w.alloc (.cells c.cells.toArray 23)).alloc (.cells #[.int .i64 (k : Int)] 3)).alloc (.cells #[.int .i64 (B0 : Int)] 3)).alloc (.cells #[.slice none 0 0] 40) := ⟨_, rfl⟩
  have hk0 : Keep none_ w W0 := by rw [hW0]; exact ((((Keep.refl _ _).alloc _).alloc _).alloc _).alloc _
  have HK := Lib.hid hk0
  have HC0 := Lib.hid (show Blk W0 w.heap.size c.cells 23 by rw [hW0]; exact (((Blk.new w _ _).alloc _).alloc _).alloc _)
  have HK0 : Hid (Blk W0 (w.heap.size + 1) [.int .i64 (k : Int)] 3) := by
    rw [hW0]
    have h := Blk.new (w.alloc (.cells c.cells.toArray 23)) [.int .i64 (k : Int)] 3
    rw [World.size_alloc] at h
    exact (h.alloc _).alloc _
  have HB0 : Hid (Blk W0 (w.heap.size + 1 + 1) [.int .i64 (B0 : Int)] 3) := by
    rw [hW0]
    have h := Blk.new ((w.alloc (.cells c.cells.toArray 23)).alloc (.cells #[.int .i64 (k : Int)] 3)) [.int .i64 (B0 : Int)] 3
    rw [World.size_alloc, World.size_alloc] at h
    exact h.alloc _
  have HO0 : Hid (Blk W0 (w.heap.size + 1 + 1 + 1) [.slice none 0 0] 40) := by
    rw [hW0]
    have h := Blk.new (((w.alloc (.cells c.cells.toArray 23)).alloc (.cells #[.int .i64 (k : Int)] 3)).alloc (.cells #[.int .i64 (B0 : Int)] 3)) [.slice none 0 0] 40
    rw [World.size_alloc, World.size_alloc, World.size_alloc] at h
    exact h
  have HST := Lib.hid (clStarts_any (ww : Int) (k : Int) W0)
  have HSZ : Hid (W0.heap.size = w.heap.size + 1 + 1 + 1 + 1) := by rw [Hid, hW0]; simp
  have HSEQ : Hid (∀ W, Keep none_ w W → ∀ pB kB, Blk W pB [.int .i64 (ww : Int)] 3 → Blk W kB [.int .i64 (k : Int)] 3 → SeqL Fence.wide 8 Tryz.prog 194 #[.pointer (some ⟨pB, 0, none⟩), .pointer (some ⟨kB, 0, none⟩)] (startL (ww / 2 ^ (k + 1)) (2 ^ (k + 1))) EncS (startG pB kB) W) := fun W hW pB kB h1 h2 => starts_seq ww k pB kB ⟨hn.2.2.1, hn.2.2.2.1⟩ hk 8 W (hS.keep hW) h1 h2
  have HSG : Hid (1 < w.heap.size) := by
    have h := hS 0 2 rfl
    exact World.block_lt_of_cell? _ _ h
  generalize 2 ^ (k + 1) = z at *
  generalize ww / z = per at *
  generalize hbase : B0 * ww = base at *
  obtain ⟨c0, c1, c2, c3, c4, c5, c6⟩ := c
  simp only at hb hw
  subst hb hw
  simp only [Conf.cells] at *
  have y1 := HC0.out.cell 1 rfl
  have y2 := HK0.out.cell 0 rfl
  clear hT hS hok hn hz hk hB hk0 hbase
  refine (callsIn_wide (n := 9)).1 ?_
  refine callsIn_of_wp_marks Tryz.func122 rfl trivial ?_ rfl
  refine wpIn_wide.2 ?_
  simp only [Tryz.ntmps122, List.size_toArray, List.length_cons, List.length_nil, Nat.reduceAdd, Nat.reduceSub, Array.replicate_succ, Array.replicate_zero, List.push_toArray, List.append_toArray, List.nil_append, List.cons_append]
  go_wp2_with fail
  rw [← hW0]
  clear hW0 y1 y2
  refine HST.out.mono ?_
  rintro e w1 ⟨rfl, hp1, hk1, hkk⟩
  have HSQ := Lib.hid (HSEQ.out w1 (HK.out.trans hkk) _ _ hp1 hk1)
  have HI1 : Hid (SlI w w1.heap.size (w.heap.size + 1 + 1 + 1) [.int .i64 (b : Int), .int .i64 (ww : Int), .int .i64 c2, .int .i64 c3, .int .i64 c4, .int .i64 c5, .int .i64 c6] k B0 z base 0 w1) :=
    ⟨HK.out.trans hkk, hkk.blk HC0.out (fun f => f), hkk.blk HK0.out (fun f => f), hkk.blk HB0.out (fun f => f), Nat.le_refl _, _, hkk.blk HO0.out (fun f => f), ⟨rfl, .inl ⟨rfl, rfl⟩⟩⟩
  have HGL : Hid (∀ i, startG W0.heap.size (W0.heap.size + 1) i → i < w1.heap.size ∧ i ≠ w.heap.size + 1 + 1 + 1) := by
    have h1 := hk1.lt; have h2 := HSZ.out; have h3 := HSG.out; have h4 := hkk.size
    rintro i (rfl | rfl | rfl)
    · exact ⟨by omega, by omega⟩
    · exact ⟨by omega, by omega⟩
    · exact ⟨by omega, by omega⟩
  have HWL : Hid (w.heap.size ≤ w1.heap.size ∧ w.heap.size + 1 + 1 + 1 < w1.heap.size) := ⟨(HK.out.trans hkk).size, by have h1 := hk1.lt; have h2 := HSZ.out; omega⟩
  have HW01 : Hid (W0.heap.size + 2 ≤ w1.heap.size) := by have h1 := hk1.lt; unfold Hid; omega
  clear hp1 hk1 hkk HST HSEQ HC0 HK0 HB0 HO0
  go_wp2_with fail
  refine wpIn_wide (n := 9) |>.1 ?_
  refine rangeFn rfl (by decide) (gf := 194) (lb := #[.pointer (some ⟨W0.heap.size, 0, none⟩), .pointer (some ⟨W0.heap.size + 1, 0, none⟩)]) rfl trivial (fun args w => by simp [callFunc, Tryz.func194, go_sem]; rfl) (all := startL per z) (Enc := EncS) (G := startG W0.heap.size (W0.heap.size + 1))
    HSQ.out ?hG ?hps
    (fun j W => SlI w w1.heap.size (w.heap.size + 1 + 1 + 1) [.int .i64 (b : Int), .int .i64 (ww : Int), .int .i64 c2, .int .i64 c3, .int .i64 c4, .int .i64 c5, .int .i64 c6] k B0 z base j W)
    (fun _ _ _ => False)
    ?hI ?hIx ?h0 ?round ?done ?stop
  case hI => exact SlI.own HWL.out.1
  case hIx => exact fun c s W W' row h hg hr => h
  case h0 => exact HI1.out
  case hG => exact fun i hi => (HGL.out i hi).1
  case hps =>
    rintro W x args h
    rw [h]; rfl
  case stop => exact fun D c k W hD hk h => h.elim
  case round =>
    rintro l j x args W hx henc hI
    have hj : j < per := by
      have h := (List.getElem?_eq_some_iff.1 hx).1
      rwa [startL_len] at h
    rw [startL_at hj] at hx
    injection hx with hx
    subst hx
    obtain rfl : args = _ := henc
    have HI := Lib.hid hI
    clear hI
    gi_wp2_with fail
    refine ⟨fun W => SlI w w1.heap.size (w.heap.size + 1 + 1 + 1) [.int .i64 (b : Int), .int .i64 (ww : Int), .int .i64 c2, .int .i64 c3, .int .i64 c4, .int .i64 c5, .int .i64 c6] k B0 z base j W, KeepsFrom.refl _ _, Holds.refl _ _, HI.out, (fun _ W' W'' row h hg hr => SlI.own HWL.out.1 j W' W'' row h hg hr), ?_⟩
    clear HI
    rintro W2 hI
    have HG3 : Hid (w1.heap.size ≤ W2.heap.size) := hI.big
    have q0 := hI.cf.cell 0 rfl; have q1 := hI.cf.cell 1 rfl; have q2 := hI.cf.cell 2 rfl; have q3 := hI.cf.cell 3 rfl; have q4 := hI.cf.cell 4 rfl; have q5 := hI.cf.cell 5 rfl; have q6 := hI.cf.cell 6 rfl
    have qk := hI.k.cell 0 rfl
    have qb := hI.b.cell 0 rfl
    have hbd := HBD.out j hj
    obtain ⟨x, hx⟩ : ∃ x, x = base + j * z := ⟨_, rfl⟩
    rw [← hx] at hbd
    have HX := Lib.hid hx
    have hpos : (0 : Int) < (x : Int) + 1 := by omega
    have HA := Lib.hid (HADR.out j x W2 hx hj hI.keep)
    clear hx
    have HI := Lib.hid hI
    clear hI
    gi_wp2_with fail
    refine ⟨trivial, CallsIn.mono (CallsIn.inRound l (callsIn_wide.2 HA.out)) ?_⟩
    rintro e w3 ⟨rfl, hk3⟩
    have HI3 := Lib.hid (HI.out.later hk3)
    have HKF := Lib.hid (KeepsFrom.ofKeep (B := w1.heap.size) hk3)
    have HHD := Lib.hid (Holds.ofKeep (G := startG W0.heap.size (W0.heap.size + 1)) hk3 (fun i hi => ⟨Nat.lt_of_lt_of_le (HGL.out i hi).1 (HG3.out), fun f => f⟩))
    clear hk3 q0 q1 q2 q3 q4 q5 q6 qk qb HI HA
    obtain ⟨v, hbo, hrow⟩ := HI3.out.o
    obtain ⟨W4, hW4⟩ : ∃ W', W' = w3.alloc (.cells #[.int .i64 ((x : Int) + 1)] 3) := ⟨_, rfl⟩
    have hk4 : Keep none_ w3 W4 := by rw [hW4]; exact (Keep.refl _ _).alloc _
    obtain ⟨g, cap, w5, hrun, hown, hgr, hwh⟩ := app_where (P := Tryz.prog) W4 40 40 3 (by kernel_rfl) Tryz.infoInt rfl (own_low (own_still hrow hk4) (Nat.zero_le _)) (N := w3.heap.size) (u := .int .i64 ((x : Int) + 1)) (by rw [hW4]; exact (Blk.new w3 _ _).cell 0 rfl) rfl (by decide) (by have := HPL.out; omega)
    have hrun9 : (app9 #[40, 40] 40 #[v, .slice (some ⟨w3.heap.size, 0, none⟩) 1 1]).run Tryz.prog (w3.alloc (.cells #[.int .i64 ((x : Int) + 1)] 3)) = .ok (.slice (some ⟨g, 0, none⟩) (j + 1) cap) w5 := by rw [← hW4]; exact hrun
    have cO := hbo.cell 0 (v := v) rfl
    have hne : v.ownBlock ≠ some (w.heap.size + 1 + 1 + 1) := own_ne hbo hrow (by decide)
    have hbo5 := (hk4.blk hbo (fun f => f)).grown hgr hne
    have cO5 := hbo5.cell 0 (v := v) rfl
    have fO5 := hbo5.free 0
    have hge : ∀ q, v.ownBlock = some q → w1.heap.size ≤ q := fun q hq => (World.ownsRow.lt hrow q hq).1
    have hge' : w1.heap.size ≤ g := by
      rcases hwh with h | h
      · exact hge g h
      · have h1 := HI3.out.big; have h2 := hk4.size; omega
    have HEND : Hid (SlI w w1.heap.size (w.heap.size + 1 + 1 + 1) [.int .i64 (b : Int), .int .i64 (ww : Int), .int .i64 c2, .int .i64 c3, .int .i64 c4, .int .i64 c5, .int .i64 c6] k B0 z base (j + 1) (w5.setCell ⟨w.heap.size + 1 + 1 + 1, 0, none⟩ (.slice (some ⟨g, 0, none⟩) (j + 1) cap)) ∧ KeepsFrom w1.heap.size W2 (w5.setCell ⟨w.heap.size + 1 + 1 + 1, 0, none⟩ (.slice (some ⟨g, 0, none⟩) (j + 1) cap)) ∧ Holds (startG W0.heap.size (W0.heap.size + 1)) W2 (w5.setCell ⟨w.heap.size + 1 + 1 + 1, 0, none⟩ (.slice (some ⟨g, 0, none⟩) (j + 1) cap))) := by
      have hk5 : Keep none_ w w5 := (HI3.out.keep.trans hk4).grew (own_still hrow hk4) HWL.out.1 hgr
      have hneq : ∀ q, q < w1.heap.size → v.ownBlock ≠ some q := fun q hq e => by have := hge q e; omega
      have h01 := HWL.out
      refine ⟨⟨hk5.putNew (by omega) _ _, ?_, ?_, ?_, ?_, .slice (some ⟨g, 0, none⟩) (j + 1) cap, ?_, ?_⟩, ?_, ?_⟩
      · exact (((hk4.blk HI3.out.cf (fun f => f)).grown hgr (hneq _ (by omega))).other (by simp; omega) _)
      · exact (((hk4.blk HI3.out.k (fun f => f)).grown hgr (hneq _ (by omega))).other (by simp) _)
      · exact (((hk4.blk HI3.out.b (fun f => f)).grown hgr (hneq _ (by omega))).other (by simp) _)
      · have h1 := HI3.out.big; have h2 := hk4.size; have h3 := hgr.size; simp; omega
      · exact hbo5.set 0 _
      · rw [slotsL_succ, List.map_append, ← HX.out]
        exact own_up (own_other (a := ⟨w.heap.size + 1 + 1 + 1, 0, none⟩) hown (fun q hq => by simp [Value.ownBlock] at hq; show q ≠ w.heap.size + 1 + 1 + 1; have h1 := HWL.out; omega) _) hge'
      · refine (HKF.out.trans (KeepsFrom.ofKeep hk4)).trans (KeepsFrom.trans (Y := w5) ⟨hgr.size, fun q o hB hq ho => (hgr.block q (Array.getElem?_eq_some_iff.1 hq).1 (fun e => ?_)).trans hq⟩ ((KeepsOthers.setCell _ _ _).from _))
        obtain ⟨cur, hcur⟩ := own_cells (own_low (own_still hrow hk4) (Nat.zero_le _)) e.symm
        rw [hcur] at hq
        cases hq
        simp [Obj.isCells] at ho
      · refine (HHD.out.trans (Holds.ofKeep hk4 (fun i hi => ⟨Nat.lt_of_lt_of_le (HGL.out i hi).1 HI3.out.big, fun f => f⟩))).trans ⟨by simp; exact hgr.size, fun i hi => ?_⟩
        have h1 := HGL.out i hi
        rw [Below.heap_setCell _ _ _ _ (by simp; exact h1.2)]
        exact hgr.block i (Nat.lt_of_lt_of_le h1.1 (Nat.le_trans HI3.out.big hk4.size)) (fun e => hneq i h1.1 e.symm)
    clear hge hge' hne hbo hbo5 hgr hown hwh hrun hk4 hrow hW4
    gi_wp2_with fail
    exact ⟨HEND.out.2.1, HEND.out.2.2, HEND.out.1⟩
  case done =>
    rintro D W hD hI hKd
    rw [startL_len] at hI
    obtain ⟨v, hbo, hrow⟩ := hI.o
    have cO := hbo.cell 0 (v := v) rfl
    have hKp := hI.keep.takeDeferred (D := D) (by have := HWL.out.1; omega) (.deferred none)
    have HROW := Lib.hid hrow
    clear hrow
    go_wp2_with fail
    refine ⟨by simp, .inl ⟨_, _, rfl, run_takeDeferred hKd, ?_⟩⟩
    refine ⟨v, by simp [results, Tryz.f122, go_sem], v, rfl, own_low (own_keep (S := fun i => i = D) HROW.out ⟨rfl, rfl, rfl, by simp, fun q _ n => World.putObj_heap_other n⟩ (fun q hq e => ?_)) HWL.out.1, hKp⟩
    obtain ⟨cur, hcur⟩ := own_cells (own_low HROW.out (Nat.zero_le _)) hq
    rw [e, hKd] at hcur
    cases hcur
end
end Go.Proofs.YtjdnkhljgnjkcaaGreatDoor
