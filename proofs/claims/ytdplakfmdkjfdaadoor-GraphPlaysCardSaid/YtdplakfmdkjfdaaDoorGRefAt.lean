/- The reference's graph in memory; At and Lay. -/
import Derived.Test.YtdplakfmdkjfdaaDoorGRefP
import Derived.Test.YtdplakfmdkjfdaaDoorGrowR
import Derived.Deep.DeepCutAuto
namespace Go.Proofs.YtdplakfmdkjfdaaDoor
open Go.RowKit Go.Sort

theorem Tryd.infoPlace : (Tryd.prog.info? 88).map (fun i => (i.zero, i.size, i.bytes)) = some (some (.agg #[.int .i64 0, .int .i64 0, .int .i64 0, .int .i64 0]), 4, 32) := by kernel_rfl
def plc (L : List PlaceR) : List Value := (L.map PlaceR.cells).flatten
theorem plc_rows (L : List PlaceR) : ∀ r ∈ L.map PlaceR.cells, r.length = 4 := by
  intro r hr
  obtain ⟨p, _, rfl⟩ := List.mem_map.1 hr
  rfl
/-- The reference's graph in memory, its blocks among F. -/
structure RRep (F : Nat → Prop) (B : Nat) (c : Conf) (S : List Int) (L : List PlaceR) (vs vl : Value) (w : World) : Prop where
  blk : Blk w B [.int .i64 c.b, .int .i64 c.w, .int .i64 c.m, .int .i64 c.r, .int .i64 c.c, .int .i64 c.l, .int .i64 c.s, vs, vl] 54
  siz : w.ownsRow 0 3 1 vs S.length (S.map (Value.int .i64))
  lst : w.ownsRow 0 88 4 vl L.length (plc L)
  fB : F B
  fs : ∀ k, vs.ownBlock = some k → F k
  fl : ∀ k, vl.ownBlock = some k → F k
section
variable {F F' : Nat → Prop} {B : Nat} {c : Conf} {S : List Int} {L : List PlaceR} {vs vl : Value} {w w' : World}
theorem RRep.keep {T : Nat → Prop} (h : RRep F B c S L vs vl w) (k : Keep T w w') (hs : ∀ i, F i → ¬ T i) : RRep F B c S L vs vl w' :=
  ⟨k.blk h.blk (hs B h.fB), own_keep h.siz k (fun b hb => hs b (h.fs b hb)), own_keep h.lst k (fun b hb => hs b (h.fl b hb)), h.fB, h.fs, h.fl⟩
theorem RRep.still (h : RRep F B c S L vs vl w) (k : Keep none_ w w') : RRep F B c S L vs vl w' := h.keep k (fun _ _ f => f)
theorem RRep.mono (h : RRep F B c S L vs vl w) (hF : ∀ k, F k → F' k) : RRep F' B c S L vs vl w := ⟨h.blk, h.siz, h.lst, hF _ h.fB, fun k hk => hF k (h.fs k hk), fun k hk => hF k (h.fl k hk)⟩
theorem RRep.there (h : RRep F B c S L vs vl w) : RRep (fun k => F k ∧ k < w.heap.size) B c S L vs vl w :=
  ⟨h.blk, h.siz, h.lst, ⟨h.fB, h.blk.lt⟩, fun k hk => ⟨h.fs k hk, (World.ownsRow.lt h.siz k hk).2⟩, fun k hk => ⟨h.fl k hk, (World.ownsRow.lt h.lst k hk).2⟩⟩
theorem RRep.list (h : RRep F B c S L vs vl w) : ∃ a cap, vl = .slice a L.length cap ∧ RecAt w a L.length 4 (L.map PlaceR.cells) ∧ L.length ≤ cap :=
  RecAt.ofOwn h.lst (plc_rows L) (by simp)
theorem RRep.sizes (h : RRep F B c S L vs vl w) : ∃ a cap, vs = .slice a S.length cap ∧ IntCells .i64 w a S.length S ∧ S.length ≤ cap := by
  obtain ⟨a, cap, h1, h2, h3⟩ := IntCells.ofOwn' h.siz
  exact ⟨a, cap, h1, h2, h3⟩
end
theorem placeCells {w : World} {a : Option Addr} {L : List PlaceR} (h : RecAt w a L.length 4 (L.map PlaceR.cells)) (i : Nat) (hi : i < L.length) : ∃ b off, a = some ⟨b, off, none⟩ ∧ ∃ p : PlaceR, L[i]? = some p ∧ w.cell? ⟨b, off + i * 4, none⟩ = some (.int .i64 p.k) ∧ w.cell? ⟨b, off + i * 4 + 1, none⟩ = some (.int .i64 p.m) ∧ w.cell? ⟨b, off + i * 4 + 2, none⟩ = some (.int .i64 p.n) ∧ w.cell? ⟨b, off + i * 4 + 3, none⟩ = some (.int .i64 p.h) := by
  obtain ⟨b, off, e, hc⟩ := h.at_ (by omega)
  have h1 : L[i]? = some L[i] := List.getElem?_eq_getElem hi
  have h2 := hc i L[i].cells (by simp [h1])
  exact ⟨b, off, e, _, h1, h2 0 _ rfl, h2 1 _ rfl, h2 2 _ rfl, h2 3 _ rfl⟩
theorem find_at {L : List PlaceR} {k m n : Int} {j : Nat} {p : PlaceR} (hj : L[j]? = some p) (hp : p.is k m n = true) (hno : ∀ (i : Nat) (q : PlaceR), i < j → L[i]? = some q → q.is k m n = false) : atL L k m n = p.h := by
  unfold atL
  have hjl := (List.getElem?_eq_some_iff.1 hj).1
  have e : L.find? (fun p => p.is k m n) = some p := by
    rw [List.find?_eq_some_iff_getElem]
    refine ⟨hp, j, hjl, (List.getElem?_eq_some_iff.1 hj).2, fun i hi => ?_⟩
    have := hno i L[i] hi (List.getElem?_eq_getElem (by omega))
    simp [this]
  rw [e]
theorem find_none {L : List PlaceR} {k m n : Int} (hno : ∀ (i : Nat) (q : PlaceR), i < L.length → L[i]? = some q → q.is k m n = false) : atL L k m n = 0 := by
  unfold atL
  have e : L.find? (fun p => p.is k m n) = none := by
    rw [List.find?_eq_none]
    intro p hp
    obtain ⟨i, hi⟩ := List.mem_iff_getElem?.1 hp
    have := hno i p (List.getElem?_eq_some_iff.1 hi).1 hi
    simp [this]
  rw [e]
/-- A place fits, or where it doesn't. -/
theorem is_cases (p : PlaceR) (k m n : Int) : (p.is k m n = false ∧ (((p.k == k) = false ∧ (p.k != k) = true) ∨ (((p.k == k) = true ∧ (p.k != k) = false) ∧ ((p.m == m) = false ∧ (p.m != m) = true)) ∨ (((p.k == k) = true ∧ (p.k != k) = false) ∧ ((p.m == m) = true ∧ (p.m != m) = false) ∧ ((p.n == n) = false ∧ (p.n != n) = true)))) ∨
    (p.is k m n = true ∧ ((p.k == k) = true ∧ (p.k != k) = false) ∧ ((p.m == m) = true ∧ (p.m != m) = false) ∧ ((p.n == n) = true ∧ (p.n != n) = false)) := by
  unfold PlaceR.is bne
  cases h1 : p.k == k <;> cases h2 : p.m == m <;> cases h3 : p.n == n <;> simp

section
variable {F : Nat → Prop} {B : Nat} {c : Conf} {S : List Int} {L : List PlaceR} {vs vl : Value} {w : World}
set_option maxRecDepth 4000 in
set_option maxHeartbeats 2000000 in
theorem rAt_any (h : RRep F B c S L vs vl w) (hl : L.length ≤ 100000) (k m n : Int) : Calls Tryd.prog 30 #[.pointer (some ⟨B, 0, none⟩), .int .i64 k, .int .i64 m, .int .i64 n] w fun e w' => e = .returned (.int .i64 (atL L k m n)) ∧ w' = w := by
  obtain ⟨a, cap, rfl, hr, hcp⟩ := h.list
  have HR := Lib.hid hr
  have y8 := h.blk.cell 8 rfl
  obtain ⟨x, hx⟩ : ∃ x, x = atL L k m n := ⟨_, rfl⟩
  rw [← hx]
  have HX := Lib.hid hx
  clear h hr hx hcp
  obtain ⟨N, hN⟩ : ∃ N, N = L.length := ⟨_, rfl⟩
  have HN := Lib.hid hN
  rw [← hN] at y8 hl
  clear hN
  go_enter Tryd.func30, Tryd.ntmps30
  go_wp2_with fail
  go_loopg [9] N (fun g i wr => ∃ j : Nat, g + j = N ∧ i = .int .i64 j ∧ Hid (∀ (i : Nat) (q : PlaceR), i < j → L[i]? = some q → q.is k m n = false) ∧ w = wr)
  case atStart => exact ⟨0, rfl, rfl, (fun i q hi => absurd hi (by omega)), rfl⟩
  case round =>
    obtain ⟨j, hg, rfl, HNO, rfl⟩ := hrel
    by_cases hlt : j < N
    · have hjN : j < L.length := by rw [← HN.out]; exact hlt
      obtain ⟨b, off, rfl, p, hp, c0, c1, c2, c3⟩ := placeCells HR.out j hjN
      have hltI : (j : Int) < (N : Int) := by omega
      have hj0 : (0 : Int) ≤ (j : Int) := by omega
      have HP := Lib.hid hp
      clear hp
      have hic := is_cases p k m n
      have HIS := Lib.hid hic
      obtain ⟨pk, pm, pn, ph⟩ := p
      simp only at c0 c1 c2 c3 hic
      rcases hic with ⟨hi, hic⟩ | ⟨hi, ⟨t1, t2⟩, ⟨t3, t4⟩, t5, t6⟩
      · have HI := Lib.hid hi
        clear hi hjN
        rcases hic with ⟨t1, t2⟩ | ⟨⟨t1, t2⟩, t3, t4⟩ | ⟨⟨t1, t2⟩, ⟨t3, t4⟩, t5, t6⟩
        all_goals
          go_wp2_with fail
          go_roundg (gk - 1)
          case measure => omega
          case rel => exact ⟨j + 1, by omega, by go_num, (fun i q hi hq => by
            rcases Nat.lt_or_ge i j with h | h
            · exact HNO.out i q h hq
            · obtain rfl : i = j := by omega
              have e := HP.out
              rw [hq] at e
              cases e
              exact HI.out), rfl⟩
      · have HI := Lib.hid hi
        clear hi hjN
        have HE := find_at HP.out HI.out HNO.out
        have HE2 : Hid (x = ph) := by rw [Hid, HX.out, HE]
        clear HE
        go_wp2_with fail
        go_ret
        exact ⟨by rw [HE2.out]; rfl, rfl⟩
    · obtain rfl : j = N := by omega
      have HE2 : Hid (x = 0) := by rw [Hid, HX.out]; exact find_none (by rw [← HN.out]; exact HNO.out)
      go_wp2_with fail
      go_ret
      exact ⟨by rw [HE2.out]; rfl, rfl⟩
end
end Go.Proofs.YtdplakfmdkjfdaaDoor
