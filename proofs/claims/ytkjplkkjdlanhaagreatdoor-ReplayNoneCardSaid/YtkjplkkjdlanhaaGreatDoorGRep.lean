/- A graph in memory: its struct, its rows of registers, its cells, its objects; what a store, and a new object, make of it. -/
import Derived.Test.YtkjplkkjdlanhaaGreatDoorOp3
import Derived.Test.YtkjplkkjdlanhaaGreatDoorGrow
import Derived.Test.YtkjplkkjdlanhaaGreatDoorRowV
import Derived.ArgAppend
import Derived.Deep.DeepAppendRoom
namespace Go.Proofs.YtkjplkkjdlanhaaGreatDoor
open Go.RowKit Go.Sort

def app9 (ats : Array TypeId) (ty : TypeId) (args : Array Value) : Sem Value := Builtin.append_ ats ty args
theorem app9_of (ats : Array TypeId) (ty : TypeId) (args : Array Value) : Builtin.append_ ats ty args = app9 ats ty args := rfl
theorem Tryz.infoInt : (Tryz.prog.info? 3).map (fun i => (i.zero, i.size, i.bytes)) = some (some (.int .i64 0), 1, 8) := by kernel_rfl
theorem Tryz.infoInts : (Tryz.prog.info? 46).map (fun i => (i.zero, i.size, i.bytes)) = some (some (.slice none 0 0), 1, 24) := by kernel_rfl
/-! ### Rows of the call's own -/
theorem own_form {w : World} {e : TypeId} {v : Value} {n : Nat} {xs : List Value} (h : w.ownsRow 0 e 1 v n xs) : ∃ a cap, v = .slice a n cap ∧ xs.length = n ∧ n ≤ cap ∧ (a = none → cap = 0) ∧
    ∀ j u, xs[j]? = some u → ∃ g, a = some ⟨g, 0, none⟩ ∧ w.cell? ⟨g, j, none⟩ = some u ∧ w.frozen? ⟨g, j, none⟩ = false := by
  obtain ⟨hl, hf⟩ := h
  have hl' : xs.length = n := by simpa using hl
  rcases hf with ⟨rfl, rfl⟩ | ⟨g, cap, cur, rfl, _, hg, hn, _, hs, hc⟩
  · have : xs = [] := List.eq_nil_of_length_eq_zero hl'
    subst this
    exact ⟨none, 0, rfl, rfl, Nat.le_refl _, fun _ => rfl, fun j u h => by simp at h⟩
  · refine ⟨_, cap, rfl, hl', hn, fun h => (by cases h), fun j u hj => ⟨g, rfl, ?_, ?_⟩⟩
    · have hj2 := (List.getElem?_eq_some_iff.1 hj).1
      rw [← hc] at hj
      rw [List.getElem?_take_of_lt (by omega)] at hj
      simp [World.cell?, hg]
      simpa using hj
    · simp [World.frozen?, hg]
theorem own_block {w : World} {e : TypeId} {g n cap : Nat} {xs : List Value} (h : w.ownsRow 0 e 1 (.slice (some ⟨g, 0, none⟩) n cap) n xs) : ∃ cur : Array Value, w.heap[g]? = some (.cells cur e (0, 0)) := by
  rcases h.2 with ⟨h, _⟩ | ⟨g', cap', cur, hv, _, hg, _⟩
  · cases h
  · cases hv
    exact ⟨cur, hg⟩
/-- Rows of two element types, in two blocks. -/
theorem own_ne2 {w : World} {e e' : TypeId} {v u : Value} {n m : Nat} {xs ys : List Value} (h : w.ownsRow 0 e 1 v n xs) (h' : w.ownsRow 0 e' 1 u m ys) (hne : e ≠ e') {k : Nat} (hv : v.ownBlock = some k) (hu : u.ownBlock = some k) : False := by
  rcases h.2 with ⟨rfl, _⟩ | ⟨g, cap, cur, rfl, _, hg, _⟩
  · simp [Value.ownBlock] at hv
  · rcases h'.2 with ⟨rfl, _⟩ | ⟨g', cap', cur', rfl, _, hg', _⟩
    · simp [Value.ownBlock] at hu
    · simp [Value.ownBlock] at hv hu
      subst hv hu
      rw [hg] at hg'
      simp at hg'
      exact hne hg'.2
theorem own_set {w : World} {e : TypeId} {g n cap : Nat} {xs : List Value} (h : w.ownsRow 0 e 1 (.slice (some ⟨g, 0, none⟩) n cap) n xs) (j : Nat) (u : Value) :
    (w.setCell ⟨g, j, none⟩ u).ownsRow 0 e 1 (.slice (some ⟨g, 0, none⟩) n cap) n (xs.set j u) := by
  rcases h with ⟨hl, hf⟩
  refine ⟨by simpa using hl, ?_⟩
  rcases hf with ⟨h, _⟩ | ⟨g', cap', cur, hv, hb, hg, hn, hm, hs, hc⟩
  · cases h
  · cases hv
    have hlt := (Array.getElem?_eq_some_iff.1 hg).1
    refine .inr ⟨g, cap, cur.set! j u, rfl, hb, ?_, hn, hm, by simpa using hs, ?_⟩
    · have h' : w.heap[g] = .cells cur e (0, 0) := by simpa [Array.getElem?_eq_getElem hlt] using hg
      show (w.heap.modify g _)[g]? = _
      rw [Array.getElem?_eq_getElem (by simpa using hlt), Array.getElem_modify_self, h']
      simp
    · rw [← hc]
      simp [List.take_set]
theorem own_other {w : World} {e : TypeId} {v : Value} {n : Nat} {xs : List Value} (h : w.ownsRow 0 e 1 v n xs) {a : Addr} (ha : ∀ k, v.ownBlock = some k → k ≠ a.block) (u : Value) : (w.setCell a u).ownsRow 0 e 1 v n xs :=
  ownsRow_setCell_other h (fun e => ha _ e rfl) u
theorem own_grown {w w' : World} {e : TypeId} {v : Value} {n : Nat} {xs : List Value} {row : Option Nat} (h : w.ownsRow 0 e 1 v n xs) (g : w.grownBy w' row) (hne : ∀ k, v.ownBlock = some k → row ≠ some k) : w'.ownsRow 0 e 1 v n xs :=
  own_keep (S := fun i => row = some i) h ⟨g.os, g.tape, g.output, g.size, fun k hk n => g.block k hk (fun e => n e.symm)⟩ (fun B hB hr => hne B hB hr)

/-- append of one row: where the grown row lies. -/
theorem app_where {P : Program} (w : World) (t ty e : TypeId) (ht : P.underlying t = some (.slice e)) {z : Value} {bytes : Nat} (hi : (P.info? e).map (fun i => (i.zero, i.size, i.bytes)) = some (some z, 1, bytes)) (hzs : z.cells.size = 1)
    {v : Value} {n : Nat} {xs : List Value} (hown : w.ownsRow 0 e 1 v n xs) {N : Nat} {u : Value} (hN : w.cell? ⟨N, 0, none⟩ = some u) (hu : u.oneCell' = true) (hb : bytes ≤ 1000) (hn : n ≤ 100000000000) :
    ∃ g cap w', (Builtin.append_ #[t, t] ty #[v, .slice (some ⟨N, 0, none⟩) 1 1]).run P w = .ok (.slice (some ⟨g, 0, none⟩) (n + 1) cap) w' ∧ w'.ownsRow 0 e 1 (.slice (some ⟨g, 0, none⟩) (n + 1) cap) (n + 1) (xs ++ [u]) ∧
      w.grownBy w' v.ownBlock ∧ (v.ownBlock = some g ∨ w.heap.size ≤ g) := by
  obtain ⟨i, hi1, hi2, hi3, hi4⟩ := info_parts hi
  have hbytes : (n + 1) * bytes ≤ 140737488355328 := Nat.le_trans (Nat.mul_le_mul (show n + 1 ≤ 100000000001 by omega) hb) (by decide)
  have hnews : ∀ j x, [u][j]? = some x → w.cell? ((⟨N, 0, none⟩ : Addr).add j) = some x := by
    intro j x hj
    cases j with
    | zero => simp at hj; subst hj; simpa [Addr.add] using hN
    | succ j => simp at hj
  have h1 : ∀ x ∈ [u], x.oneCell' = true := by simpa using hu
  have shape : ∀ {v' : Value} {W : World} {B : Nat}, W.ownsRow B e 1 v' (n + 1) (xs ++ [u]) → ∃ g cap, v' = .slice (some ⟨g, 0, none⟩) (n + 1) cap ∧ B ≤ g := by
    intro v' W B h
    rcases h.2 with ⟨_, h0⟩ | ⟨g, cap, cur, rfl, hB, _⟩
    · omega
    · exact ⟨g, cap, rfl, hB⟩
  rcases hown.2 with ⟨rfl, rfl⟩ | ⟨g, cap, cur, rfl, hbg, hg, hnc, hcm, hcs, htake⟩
  · have hown' : w.ownsRow w.heap.size e 1 (.slice none 0 0) 0 xs := ⟨hown.1, .inl ⟨rfl, rfl⟩⟩
    obtain ⟨v', w', hr, h2, h3, _⟩ := run_append_own (P := P) w w.heap.size t ty e i z 1 bytes ht hi1 hi2 hi3 hi4 hzs (by decide) _ 0 xs hown' ⟨N, 0, none⟩ 1 1 [u] rfl hnews h1 (by unfold maxLen; omega) hbytes (Nat.le_refl _)
    obtain ⟨g, cap, rfl, hB⟩ := shape h2
    exact ⟨g, cap, w', hr, own_low h2 (Nat.zero_le _), h3, .inr hB⟩
  · by_cases hroom : n + 1 ≤ cap
    · obtain ⟨w', hr, h2, h3⟩ := run_append_own_spare (P := P) w 0 t ty e i 1 ht hi1 hi3 g n cap xs hown ⟨N, 0, none⟩ 1 1 [u] rfl hnews h1 hroom
      exact ⟨g, cap, w', hr, h2, h3, .inl rfl⟩
    · have holds : ∀ j x, xs[j]? = some x → w.cell? ((⟨g, 0, none⟩ : Addr).add j) = some x := hown.cells (g := g) rfl
      obtain ⟨v', w', hr, h2, h3⟩ := run_append_arg_grows (P := P) w t ty e i z 1 bytes ht hi1 hi2 hi3 hi4 hzs (by decide) ⟨g, 0, none⟩ n cap xs hown.1 holds ⟨N, 0, none⟩ 1 1 [u] rfl hnews (by omega) (by unfold maxLen; omega) hbytes
      obtain ⟨g', cap', rfl, hB⟩ := shape h2
      exact ⟨g', cap', w', hr, own_low h2 (Nat.zero_le _), ⟨h3.os, h3.tape, h3.output, h3.size, fun k hk _ => h3.block k hk (by simp)⟩, .inr hB⟩

/-! ### The graph -/
structure GRep (F : Nat → Prop) (B : Nat) (c : Conf) (m : Nat) (vs : List Value) (vr vc vo : Value) (R : List (List Int)) (w : World) : Prop where
  len : vs.length = R.length
  lt : m < R.length
  mid : vs[m]? = some vc
  blk : Blk w B [.int .i64 c.b, .int .i64 c.w, .int .i64 c.m, .int .i64 c.r, .int .i64 c.c, .int .i64 c.l, .int .i64 c.s, vr, vc, vo] 65
  regs : w.ownsRow 0 46 1 vr m (vs.take m)
  objs : w.ownsRow 0 46 1 vo (R.length - (m + 1)) (vs.drop (m + 1))
  row : ∀ (i : Nat) (v : Value) (zs : List Int), vs[i]? = some v → R[i]? = some zs → w.ownsRow 0 3 1 v zs.length (zs.map (Value.int .i64))
  apart : ∀ (i j : Nat) (v u : Value) (k : Nat), vs[i]? = some v → vs[j]? = some u → v.ownBlock = some k → u.ownBlock = some k → i = j
  apart2 : ∀ k, vr.ownBlock = some k → vo.ownBlock = some k → False
  fB : F B
  fr : ∀ k, vr.ownBlock = some k → F k
  fo : ∀ k, vo.ownBlock = some k → F k
  fv : ∀ (i : Nat) (v : Value) (k : Nat), vs[i]? = some v → v.ownBlock = some k → F k

section
variable {F F' : Nat → Prop} {B : Nat} {c : Conf} {m : Nat} {vs : List Value} {vr vc vo : Value} {R : List (List Int)} {w w' : World}

theorem GRep.rowAt (h : GRep F B c m vs vr vc vo R w) (i : Nat) (hi : i < R.length) : ∃ v, vs[i]? = some v ∧ w.ownsRow 0 3 1 v R[i].length (R[i].map (Value.int .i64)) := by
  have h1 : i < vs.length := by rw [h.len]; exact hi
  exact ⟨vs[i], List.getElem?_eq_getElem h1, h.row i _ _ (List.getElem?_eq_getElem h1) (List.getElem?_eq_getElem hi)⟩
theorem GRep.rowOf (h : GRep F B c m vs vr vc vo R w) {i : Nat} {v : Value} (hv : vs[i]? = some v) : ∃ zs, R[i]? = some zs ∧ w.ownsRow 0 3 1 v zs.length (zs.map (Value.int .i64)) := by
  have h1 : i < R.length := by rw [← h.len]; exact (List.getElem?_eq_some_iff.1 hv).1
  exact ⟨R[i], List.getElem?_eq_getElem h1, h.row i _ _ hv (List.getElem?_eq_getElem h1)⟩
theorem GRep.keep {S : Nat → Prop} (h : GRep F B c m vs vr vc vo R w) (k : Keep S w w') (hs : ∀ i, F i → ¬ S i) : GRep F B c m vs vr vc vo R w' :=
  ⟨h.len, h.lt, h.mid, k.blk h.blk (hs B h.fB), own_keep h.regs k (fun b hb => hs b (h.fr b hb)), own_keep h.objs k (fun b hb => hs b (h.fo b hb)),
    fun i v zs hv hz => own_keep (h.row i v zs hv hz) k (fun b hb => hs b (h.fv i v b hv hb)), h.apart, h.apart2, h.fB, h.fr, h.fo, h.fv⟩
theorem GRep.still (h : GRep F B c m vs vr vc vo R w) (k : Keep none_ w w') : GRep F B c m vs vr vc vo R w' := h.keep k (fun _ _ f => f)
theorem GRep.mono (h : GRep F B c m vs vr vc vo R w) (hF : ∀ k, F k → F' k) : GRep F' B c m vs vr vc vo R w :=
  ⟨h.len, h.lt, h.mid, h.blk, h.regs, h.objs, h.row, h.apart, h.apart2, hF _ h.fB, fun k hk => hF k (h.fr k hk), fun k hk => hF k (h.fo k hk), fun i v k hv hk => hF k (h.fv i v k hv hk)⟩
/-- All of its blocks are there. -/
theorem GRep.there (h : GRep F B c m vs vr vc vo R w) : GRep (fun k => F k ∧ k < w.heap.size) B c m vs vr vc vo R w :=
  ⟨h.len, h.lt, h.mid, h.blk, h.regs, h.objs, h.row, h.apart, h.apart2, ⟨h.fB, h.blk.lt⟩, fun k hk => ⟨h.fr k hk, (World.ownsRow.lt h.regs k hk).2⟩, fun k hk => ⟨h.fo k hk, (World.ownsRow.lt h.objs k hk).2⟩,
    fun i v k hv hk => ⟨h.fv i v k hv hk, by obtain ⟨zs, _, ho⟩ := h.rowOf hv; exact (World.ownsRow.lt ho k hk).2⟩⟩
/-- A store into one row. -/
theorem GRep.set (h : GRep F B c m vs vr vc vo R w) {i : Nat} {g n cap : Nat} {zs : List Int} (hv : vs[i]? = some (.slice (some ⟨g, 0, none⟩) n cap)) (hz : R[i]? = some zs) (j : Nat) (x : Int) :
    GRep F B c m vs vr vc vo (R.set i (zs.set j x)) (w.setCell ⟨g, j, none⟩ (.int .i64 x)) := by
  have ho := h.row i _ _ hv hz
  have hn : n = zs.length := by obtain ⟨a, cap', e, _⟩ := own_form ho; cases e; rfl
  subst hn
  obtain ⟨cur, hg⟩ := own_block ho
  have hBg : B ≠ g := by
    intro e; subst e
    have h1 := h.blk
    unfold Blk at h1
    rw [hg] at h1
    simp at h1
  refine ⟨by simpa using h.len, by simpa using h.lt, h.mid, h.blk.other (a := ⟨g, j, none⟩) hBg _, ?_, ?_, ?_, h.apart, h.apart2, h.fB, h.fr, h.fo, h.fv⟩
  · exact own_other h.regs (fun k hk e => own_ne2 h.regs ho (by decide) hk (by simp at e; simp [Value.ownBlock, e])) _
  · rw [List.length_set]
    exact own_other h.objs (fun k hk e => own_ne2 h.objs ho (by decide) hk (by simp at e; simp [Value.ownBlock, e])) _
  · intro i' v' zs' hv' hz'
    by_cases hi : i = i'
    · subst hi
      rw [hv] at hv'
      cases hv'
      have hlt := (List.getElem?_eq_some_iff.1 hz).1
      rw [List.getElem?_set_self hlt] at hz'
      cases hz'
      have := own_set ho j (.int .i64 x)
      rw [List.length_set, List.map_set]
      exact this
    · rw [List.getElem?_set_ne hi] at hz'
      refine own_other (h.row i' v' zs' hv' hz') (fun k hk e => ?_) _
      exact hi (h.apart i i' _ _ g hv hv' rfl (by simp at e; rw [hk, e]))
end
end Go.Proofs.YtkjplkkjdlanhaaGreatDoor
