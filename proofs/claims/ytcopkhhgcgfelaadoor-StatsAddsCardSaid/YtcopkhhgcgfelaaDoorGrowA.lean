/- append of a slice that came in, nil or not, to a row of the call's own. Of no program. -/
import Derived.Test.YtcopkhhgcgfelaaDoorGrowR
import Derived.Laws.AppendOwnNone
namespace Go.Proofs.YtcopkhhgcgfelaaDoor
open Go.RowKit

theorem rec_cells {w : World} {ad : Addr} {n sz : Nat} {rs : List (List Value)} (h : RecAt w (some ad) n sz rs) (hr : ∀ r ∈ rs, r.length = sz) : ∀ j u, rs.flatten[j]? = some u → w.cell? (ad.add j) = some u := by
  intro j u hj
  have hjl := (List.getElem?_eq_some_iff.1 hj).1
  rw [flat_len rs hr] at hjl
  have hn : 0 < n := by
    rw [← h.len]
    rcases Nat.eq_zero_or_pos rs.length with h0 | h0
    · rw [h0, Nat.zero_mul] at hjl; omega
    · exact h0
  obtain ⟨b, off, e, hc⟩ := h.at_ hn
  injection e with e
  subst e
  have key : ∀ (rs : List (List Value)), (∀ r ∈ rs, r.length = sz) → ∀ j u, rs.flatten[j]? = some u → ∃ i r q, rs[i]? = some r ∧ r[q]? = some u ∧ j = i * sz + q := by
    intro rs
    induction rs with
    | nil => intro _ j u h; simp at h
    | cons r0 rs ih =>
      intro hr j u hj
      have h0 : r0.length = sz := hr r0 (by simp)
      rw [List.flatten_cons] at hj
      rcases Nat.lt_or_ge j r0.length with hlt | hge
      · rw [List.getElem?_append_left hlt] at hj
        exact ⟨0, r0, j, rfl, hj, by simp⟩
      · rw [List.getElem?_append_right hge] at hj
        obtain ⟨i, r, q, h1, h2, h3⟩ := ih (fun r hr' => hr r (by simp [hr'])) _ u hj
        exact ⟨i + 1, r, q, by simpa using h1, h2, by rw [Nat.succ_mul]; omega⟩
  obtain ⟨i, r, q, h1, h2, rfl⟩ := key rs hr j u hj
  have := hc i r h1 q u h2
  have ea : (⟨b, off, none⟩ : Addr).add (i * sz + q) = ⟨b, off + (i * sz + q), none⟩ := by simp only [Addr.add]; split <;> simp_all
  rw [ea, ← Nat.add_assoc]
  exact this

/-- 'append(s, x...)', x a slice that came in. -/
theorem appendA {P : Program} {w : World} {ops : Array Oper} {rest : List Oper} {o : Oper} {a : Act} {Q : Exit → Act → World → Prop} (hgd : o.guard = none) (s x : Operand) (t : TypeId)
    (ho : o.op = .call { callee := .builtin .append, args := #[s, x], argTypes := #[t, t] }) {base : Nat} {e : TypeId} {z : Value} {size bytes : Nat} (ht : P.underlying t = some (.slice e))
    (hi : (P.info? e).map (fun i => (i.zero, i.size, i.bytes)) = some (some z, size, bytes)) (hzs : z.cells.size = size) (h0 : 0 < size) {v : Value} {n : Nat} {xs : List Value} (hs : a.eval s = v) (hown : w.ownsRow base e size v n xs)
    {ao : Option Addr} {m c : Nat} {rs : List (List Value)} (hx : a.eval x = .slice ao m c) (hnil : ao = none → m = 0 ∧ c = 0) (hrec : RecAt w ao m size rs) (hr : ∀ r ∈ rs, r.length = size ∧ ∀ u ∈ r, u.oneCell' = true)
    (hb : bytes ≤ 1000) (hn : n + m ≤ 100000000000) (hbase : base ≤ w.heap.size)
    (h : ∀ v' w', w'.ownsRow base e size v' (n + m) (xs ++ rs.flatten) → w.grownBy w' v.ownBlock → wpList P ops Q rest (a.put o.dst v') w') : wpList P ops Q (o :: rest) a w := by
  obtain ⟨i, hi1, hi2, hi3, hi4⟩ := info_parts hi
  cases ao with
  | none =>
    obtain ⟨rfl, rfl⟩ := hnil rfl
    have : rs = [] := List.eq_nil_of_length_eq_zero hrec.len
    subst this
    refine wpList_append_own_none hgd s x t ho base e i size ht hi1 v n xs hs hown hx ?_
    exact h v w (by simpa using hown) (World.grownBy.refl w _)
  | some ad =>
    have hbytes : (n + m) * bytes ≤ 140737488355328 := Nat.le_trans (Nat.mul_le_mul hn hb) (by decide)
    refine wpList_append_own _ hgd s x t ho base e i z size bytes ht hi1 hi2 hi3 hi4 hzs h0 v n xs hs hown ad m c rs.flatten hx ?_ ?_ ?_ ?_ hbytes hbase ?_
    · rw [flat_len rs (fun r h => (hr r h).1), hrec.len]
    · exact rec_cells hrec (fun r h => (hr r h).1)
    · intro u hu
      obtain ⟨r, h1, h2⟩ := List.mem_flatten.1 hu
      exact (hr r h1).2 u h2
    · unfold maxLen; omega
    · exact fun v' w' h1 h2 _ => h v' w' h1 h2
end Go.Proofs.YtcopkhhgcgfelaaDoor
