/- A local array of four rows; the state of QueuePlays. -/
import Derived.Test.YtcdmlinaebnbcaaQueuePlain
namespace Go.Proofs.Ytcdmlinaebnbcaa
open Go.RowKit

structure RwAt (w : World) (R : Nat) (rows : List (List Int)) : Prop where
  len : rows.length = 4
  blk : ∃ vs : List Value, vs.length = 4 ∧ Blk w R vs 50 ∧ ∀ (i : Nat) (v : Value) (zs : List Int), vs[i]? = some v → rows[i]? = some zs → RowV w 3 v (zs.map (Value.int .i64))
theorem RwAt.at_ {w R rows} (h : RwAt w R rows) (k : Nat) (hk : k < 4) : ∃ a n c, w.cell? ⟨R, k, none⟩ = some (.slice a n c) ∧ RowV w 3 (.slice a n c) ((rows.getD k []).map (Value.int .i64)) ∧ n = (rows.getD k []).length := by
  obtain ⟨hl, vs, hv, hb, hr⟩ := h
  have h1 : vs[k]? = some (vs[k]'(by omega)) := List.getElem?_eq_getElem _
  have h2 : rows[k]? = some (rows.getD k []) := by
    rw [List.getD_eq_getElem?_getD, List.getElem?_eq_getElem (by omega)]; rfl
  have hrow := hr _ _ _ h1 h2
  obtain ⟨a, c, e, h3⟩ := id hrow
  refine ⟨a, _, c, ?_, e ▸ hrow, by simp⟩
  rw [← e]
  exact hb.cell _ h1
theorem RwAt.free {w R rows} (h : RwAt w R rows) (i : Nat) : w.frozen? ⟨R, i, none⟩ = false := by
  obtain ⟨_, vs, _, hb, _⟩ := h
  exact hb.free i
theorem RwAt.lt {w R rows} (h : RwAt w R rows) : R < w.heap.size := by
  obtain ⟨_, vs, _, hb, _⟩ := h
  exact hb.lt
theorem RwAt.still {w w' R rows} (h : RwAt w R rows) (k : Keep none_ w w') : RwAt w' R rows := by
  obtain ⟨hl, vs, hv, hb, hr⟩ := h
  exact ⟨hl, vs, hv, k.blk hb (fun f => f), fun i v zs h1 h2 => (hr i v zs h1 h2).still k⟩
theorem RwAt.drewN {w R rows} (h : RwAt w R rows) (n : Nat) : RwAt (w.drewN n) R rows := h.still ((Keep.refl none_ w).drewN n)
theorem QuAt.ne {w B q R rows} (h : QuAt w B q) (r : RwAt w R rows) : B ≠ R := by
  rintro rfl
  obtain ⟨_, vs, _, hb, _⟩ := h
  obtain ⟨_, us, _, hb', _⟩ := r
  have := (hb.uniq hb').2
  exact absurd this (by decide)
/-- What the queue does keeps the rows. -/
theorem RwAt.queue {w w' R rows B q} (h : RwAt w R rows) (hq : QuAt w B q) (k : Keep (only B) w w') : RwAt w' R rows := by
  have hne := hq.ne h
  obtain ⟨_, us, _, hbq, _⟩ := hq
  obtain ⟨hl, vs, hv, hb, hr⟩ := h
  exact ⟨hl, vs, hv, k.blk hb (fun e => hne e.symm), fun i v zs h1 h2 => (hr i v zs h1 h2).only k hbq (by decide)⟩
/-- What is done to the rows keeps the queue. -/
theorem QuAt.rows {w w' R rows B q} (hq : QuAt w B q) (h : RwAt w R rows) (k : Keep (only R) w w') : QuAt w' B q := by
  have hne := hq.ne h
  obtain ⟨_, us, _, hbr, _⟩ := h
  obtain ⟨hl, vs, hv, hb, hr⟩ := hq
  exact ⟨hl, vs, hv, k.blk hb (fun e => hne e), fun i v zs h1 h2 => (hr i v zs h1 h2).only k hbr (by decide)⟩
theorem RwAt.setRow {w R rows} (h : RwAt w R rows) (k : Nat) (hk : k < 4) {v : Value} {zs : List Int} (hv : RowV w 3 v (zs.map (Value.int .i64))) :
    RwAt (w.setCell ⟨R, k, none⟩ v) R (rows.set k zs) := by
  obtain ⟨hl, vs, hvl, hb, hr⟩ := h
  have hkeep : ∀ u, Keep (only R) w (w.setCell ⟨R, k, none⟩ u) := fun u => (Keep.refl (only R) _).put _ _
  refine ⟨by simpa using hl, vs.set k v, by simpa using hvl, hb.set k v, fun i u zs' h1 h2 => ?_⟩
  by_cases e : k = i
  · subst e
    rw [List.getElem?_set_self (by omega)] at h1 h2
    simp at h1 h2
    subst h1 h2
    exact hv.only (hkeep _) hb (by decide)
  · rw [List.getElem?_set_ne e] at h1 h2
    exact (hr i u zs' h1 h2).only (hkeep _) hb (by decide)
theorem RwAt.new (w : World) : RwAt (w.alloc (.cells #[.slice none 0 0, .slice none 0 0, .slice none 0 0, .slice none 0 0] 50)) w.heap.size [[], [], [], []] := by
  refine ⟨rfl, [.slice none 0 0, .slice none 0 0, .slice none 0 0, .slice none 0 0], rfl, Blk.new w _ 50, fun i v zs h1 h2 => ?_⟩
  match i with
  | 0 => simp at h1 h2; subst h1 h2; exact RowV.nil _ _
  | 1 => simp at h1 h2; subst h1 h2; exact RowV.nil _ _
  | 2 => simp at h1 h2; subst h1 h2; exact RowV.nil _ _
  | 3 => simp at h1 h2; subst h1 h2; exact RowV.nil _ _
  | n + 4 => simp at h1

/-- The state of QueuePlays behind i deeds. -/
structure QP (w : World) (R i : Nat) (q : Qu) (W : World) : Prop where
  qu : QuAt W w.heap.size q
  rw : RwAt W R q.rows
  new : w.heap.size ≤ R
  tot : q.tot ≤ i
  opn : q.opn ≤ i
  keep : Keep none_ w W
theorem QP.drewN {w R i q W} (h : QP w R i q W) (n : Nat) : QP w R i q (W.drewN n) :=
  ⟨h.qu.still ((Keep.refl none_ W).drewN n), h.rw.drewN n, h.new, h.tot, h.opn, h.keep.drewN n⟩
theorem QP.cell {w R i q W} (h : QP w R i q W) (k : Nat) (hk : k < 4) : ∃ a n c, W.cell? ⟨R, k, none⟩ = some (.slice a n c) ∧ RowV W 3 (.slice a n c) ((q.rw k).map (Value.int .i64)) ∧ n = (q.rw k).length := h.rw.at_ k hk
theorem QP.mono {w R i j q W} (h : QP w R i q W) (hij : i ≤ j) : QP w R j q W := ⟨h.qu, h.rw, h.new, Nat.le_trans h.tot hij, Nat.le_trans h.opn hij, h.keep⟩
/-- One is taken of the class k, from both. -/
theorem QP.take {w R i q W W2} (h : QP w R i q W) (k : Nat) (hk : k < 4) (hp : 1 ≤ (q.rw k).length) (h2 : QuAt W2 w.heap.size (q.take k)) (hk2 : Keep (only w.heap.size) W W2) {a : Option Addr} {n c : Nat}
    (hr : RowV W 3 (.slice a n c) ((q.rw k).map (Value.int .i64))) :
    QP w R (i + 1) (q.take k) (W2.setCell ⟨R, k, none⟩ (.slice (cutA a c 1) (n - 1) (c - 1))) := by
  have hrw2 := h.rw.queue h.qu hk2
  have hnlen := hr.cells.1
  have hr2 : RowV W2 3 (.slice a n c) ((q.rw k).map (Value.int .i64)) := by
    obtain ⟨_, us, _, hbq, _⟩ := h.qu
    exact hr.only hk2 hbq (by decide)
  have hcut := hr2.cut 1 (by rw [hnlen, List.length_map]; exact hp)
  rw [← List.map_drop] at hcut
  have hset := hrw2.setRow k hk hcut
  have hkR : Keep (only R) W2 (W2.setCell ⟨R, k, none⟩ (.slice (cutA a c 1) (n - 1) (c - 1))) := (Keep.refl (only R) _).put _ _
  have hl := h.qu.len
  have ht := q.take_tot hl k hk hp
  have := h.tot
  have := h.opn
  have hkn : Keep none_ w W2 := h.keep.onNew hk2 (Nat.le_refl _)
  refine ⟨h2.rows hrw2 hkR, ?_, h.new, by omega, ?_, hkn.putNew h.new _ _⟩
  · have e : (q.take k).rows = q.rows.set k ((q.rw k).drop 1) := by simp [Qu.take, Qu.row_of]
    rw [e]; exact hset
  · have e : (q.take k).opn = q.opn + 1 := rfl
    omega

theorem QP.done {w R i q q' W W2} (h : QP w R i q W) (h2 : QuAt W2 w.heap.size q') (hr : q'.rows = q.rows) (ho : q'.opn ≤ q.opn) (hk : Keep (only w.heap.size) W W2) : QP w R (i + 1) q' W2 := by
  have ht : q'.tot = q.tot := by simp [Qu.tot, Qu.rw, hr]
  have h3 := h.tot
  have h4 := h.opn
  exact ⟨h2, by rw [hr]; exact h.rw.queue h.qu hk, h.new, by omega, by omega, h.keep.onNew hk (Nat.le_refl _)⟩
theorem Qu.least (q : Qu) : (∀ j, j < 4 → q.rw j = []) ∨ ∃ m x xs, m < 4 ∧ q.rw m = x :: xs ∧ ∀ j, j < m → q.rw j = [] := by
  have c : ∀ m, q.rw m ≠ [] → ∃ x xs, q.rw m = x :: xs := fun m h => by
    cases e : q.rw m with
    | nil => exact absurd e h
    | cons x xs => exact ⟨x, xs, rfl⟩
  by_cases e0 : q.rw 0 = []
  · by_cases e1 : q.rw 1 = []
    · by_cases e2 : q.rw 2 = []
      · by_cases e3 : q.rw 3 = []
        · exact .inl fun j hj => by
            match j, hj with
            | 0, _ => exact e0
            | 1, _ => exact e1
            | 2, _ => exact e2
            | 3, _ => exact e3
        · obtain ⟨x, xs, h⟩ := c 3 e3
          exact .inr ⟨3, x, xs, by omega, h, fun j hj => by
            match j, hj with
            | 0, _ => exact e0
            | 1, _ => exact e1
            | 2, _ => exact e2⟩
      · obtain ⟨x, xs, h⟩ := c 2 e2
        exact .inr ⟨2, x, xs, by omega, h, fun j hj => by
          match j, hj with
          | 0, _ => exact e0
          | 1, _ => exact e1⟩
    · obtain ⟨x, xs, h⟩ := c 1 e1
      exact .inr ⟨1, x, xs, by omega, h, fun j hj => by
        match j, hj with
        | 0, _ => exact e0⟩
  · obtain ⟨x, xs, h⟩ := c 0 e0
    exact .inr ⟨0, x, xs, by omega, h, fun j hj => absurd hj (by omega)⟩

def Qu.sumR (q : Qu) : Nat → Nat
  | 0 => 0
  | k + 1 => q.sumR k + (q.rw k).length
theorem Qu.sumR_tot (q : Qu) : q.sumR 4 = q.tot := by simp only [Qu.sumR, Qu.tot]; omega
theorem Qu.sumR_le (q : Qu) (k : Nat) (hk : k ≤ 4) : q.sumR k ≤ q.tot := by
  rw [← q.sumR_tot]
  match k, hk with
  | 0, _ => exact Nat.zero_le _
  | 1, _ => simp only [Qu.sumR]; omega
  | 2, _ => simp only [Qu.sumR]; omega
  | 3, _ => simp only [Qu.sumR]; omega
  | 4, _ => exact Nat.le_refl _
theorem qLen_at {B : Nat} {q : Qu} {k n : Nat} {w : World} (h : QuAt w B q) (hk : k < 4) (hn : n = (q.rw k).length) (m : Nat) :
    Calls Try.prog 34 #[.pointer (some ⟨B, 0, none⟩), .int .i64 k] (w.drewN m) fun e w' => e = .returned (.int .i64 n) ∧ w' = w.drewN m :=
  (qLen_is (h.still ((Keep.refl none_ w).drewN m)) (by rw [q.len_rw k hk, hn])).mono fun _ _ ⟨h1, h2⟩ => ⟨h1, h2.symm⟩
theorem qLen_four {B : Nat} {q : Qu} {w : World} (h : QuAt w B q) : Calls Try.prog 34 #[.pointer (some ⟨B, 0, none⟩), .int .i64 4] w fun e w' => e = .returned (.int .i64 0) ∧ w = w' :=
  qLen_is h (by simp [Qu.len, cls])
theorem qOpen_at {B : Nat} {q : Qu} {w : World} (h : QuAt w B q) : Calls Try.prog 35 #[.pointer (some ⟨B, 0, none⟩)] w fun e w' => e = .returned (.int .i64 q.opn) ∧ w = w' := qOpen_any B q w h
theorem qRests_at {B : Nat} {q : Qu} {w : World} {p : Bool} (h : QuAt w B q) (h1 : q.opn ≤ 1000000) (h2 : q.tot ≤ 1000000) (hp : decide (q.opn + q.tot = 0) = p) : Calls Try.prog 36 #[.pointer (some ⟨B, 0, none⟩)] w fun e w' => e = .returned (.bool p) ∧ w = w' := by
  rw [← hp, ← q.rests_of]
  exact qRests_any B q w h (q.small_of h.len h1 h2)
end Go.Proofs.Ytcdmlinaebnbcaa
