/- Rows of records that a call makes: append of one record; a store into the last one. Of no program. -/
import Derived.Test.YtdplakfmdkjfdaaDoorGrow
import Derived.Test.YtdplakfmdkjfdaaDoorRecAt
import Derived.Laws.OwnMore
namespace Go.Proofs.YtdplakfmdkjfdaaDoor
open Go.RowKit Go.Deep

section
variable {P : Program} {w : World}
/-- 'append(s, x)', x a record in a new block of its own, s nil or a row of the call's own. -/
theorem appendR {ops : Array Oper} {rest : List Oper} {o : Oper} {a : Act} {Q : Exit → Act → World → Prop} (hgd : o.guard = none) (s x : Operand) (t : TypeId)
    (ho : o.op = .call { callee := .builtin .append, args := #[s, x], argTypes := #[t, t] }) {base : Nat} {e : TypeId} {z : Value} {size bytes : Nat} (ht : P.underlying t = some (.slice e))
    (hi : (P.info? e).map (fun i => (i.zero, i.size, i.bytes)) = some (some z, size, bytes)) (hzs : z.cells.size = size) (h0 : 0 < size) {v : Value} {n : Nat} {xs : List Value} (hs : a.eval s = v) (hown : w.ownsRow base e size v n xs)
    {us : List Value} {N : Nat} (hN : w.heap.size = N) (hx : a.eval x = .slice (some ⟨N, 0, none⟩) 1 1) (hul : us.length = size) (hu : ∀ u ∈ us, u.oneCell' = true) (hb : bytes ≤ 1000) (hn : n ≤ 100000000000) (hbase : base ≤ w.heap.size)
    (h : ∀ v' w', w'.ownsRow base e size v' (n + 1) (xs ++ us) → w.grownBy w' v.ownBlock → wpList P ops Q rest (a.put o.dst v') w') : wpList P ops Q (o :: rest) a (w.alloc (.cells us.toArray e)) := by
  subst hN
  obtain ⟨i, hi1, hi2, hi3, hi4⟩ := info_parts hi
  have hbytes : (n + 1) * bytes ≤ 140737488355328 := Nat.le_trans (Nat.mul_le_mul (show n + 1 ≤ 100000000001 by omega) hb) (by decide)
  refine wpList_append_own _ hgd s x t ho base e i z size bytes ht hi1 hi2 hi3 hi4 hzs h0 v n xs hs (hown.alloc _) ⟨w.heap.size, 0, none⟩ 1 1 us hx (by simpa using hul) ?_ hu ?_ hbytes (by simp; omega) ?_
  · intro j v' hj
    have : (⟨w.heap.size, 0, none⟩ : Addr).add j = ⟨w.heap.size, j, none⟩ := by simp only [Addr.add]; split <;> simp_all
    rw [this]
    exact (Blk.new w us e).cell j hj
  · unfold maxLen; omega
  · intro v' w' h1 h2 _
    exact h v' w' h1 ⟨h2.os, h2.tape, h2.output, Nat.le_trans (by simp) h2.size, fun k hk hr => (h2.block k (by simp; omega) hr).trans (Below.heap_alloc _ _ _ hk)⟩
end

/-- Records, one behind the other. -/
theorem flat_len {sz : Nat} : ∀ (rs : List (List Value)), (∀ r ∈ rs, r.length = sz) → rs.flatten.length = rs.length * sz
  | [], _ => by simp
  | r :: rs, h => by
    have := flat_len rs (fun r hr => h r (by simp [hr]))
    have h0 := h r (by simp)
    simp [Nat.succ_mul, h0, this, Nat.add_comm]
theorem flat_last_get {sz : Nat} (rs : List (List Value)) (h : ∀ r ∈ rs, r.length = sz) (r : List Value) (j : Nat) (v : Value) (hj : r[j]? = some v) : (rs ++ [r]).flatten[rs.length * sz + j]? = some v := by
  rw [List.flatten_append, List.getElem?_append_right (by rw [flat_len rs h]; omega), flat_len rs h, Nat.add_sub_cancel_left]
  simpa using hj
theorem flat_last_set {sz : Nat} (rs : List (List Value)) (h : ∀ r ∈ rs, r.length = sz) (r : List Value) (j : Nat) (v : Value) : (rs ++ [r]).flatten.set (rs.length * sz + j) v = (rs ++ [r.set j v]).flatten := by
  rw [List.flatten_append, List.set_append_right _ _ (by rw [flat_len rs h]; omega), flat_len rs h, Nat.add_sub_cancel_left]
  simp
end Go.Proofs.YtdplakfmdkjfdaaDoor
