/- Rows that a call makes and appends to: what is kept of them, and append of one element. Of no program. -/
import Derived.Test.YtkjplkkjdlanhaaGreatDoorMem
import Derived.WalkKit
import Derived.Deep.OwnRows
namespace Go.Proofs.YtkjplkkjdlanhaaGreatDoor
open Go.RowKit Go.Deep

theorem Keep.grown {S : Nat → Prop} {w0 w w' : World} {row : Option Nat} (h : Keep S w0 w) (g : w.grownBy w' row) (hr : ∀ k, row = some k → k < w0.heap.size → S k) : Keep S w0 w' :=
  h.trans' (T := fun i => row = some i) ⟨g.os, g.tape, g.output, g.size, fun k hk n => g.block k hk (fun e => n e.symm)⟩ (fun i hi e => hr i e hi)
/-- A row of the call's own grew: nothing that was there has turned. -/
theorem Keep.grew {w0 w w' : World} {base n size : Nat} {e : TypeId} {v : Value} {xs : List Value} (h : Keep none_ w0 w) (hown : w.ownsRow base e size v n xs) (hb : w0.heap.size ≤ base) (g : w.grownBy w' v.ownBlock) : Keep none_ w0 w' :=
  h.grown g (fun k hk hl => by have := (hown.lt k hk).1; omega)
theorem Blk.grown {w w' : World} {B : Nat} {cs : List Value} {T : TypeId} {row : Option Nat} (h : Blk w B cs T) (g : w.grownBy w' row) (hne : row ≠ some B) : Blk w' B cs T := by
  have hlt := h.lt
  unfold Blk at *
  rw [g.block B hlt (fun e => hne e.symm)]; exact h
/-- A row and a block of another element type are two. -/
theorem own_ne {w : World} {B : Nat} {cs : List Value} {T e : TypeId} {base n size : Nat} {v : Value} {xs : List Value} (hb : Blk w B cs T) (h : w.ownsRow base e size v n xs) (hne : e ≠ T) : v.ownBlock ≠ some B := by
  rcases h.2 with ⟨rfl, _⟩ | ⟨g, cap, cur, rfl, _, hg, _⟩
  · simp [Value.ownBlock]
  · intro hx
    simp [Value.ownBlock] at hx
    subst hx
    unfold Blk at hb
    rw [hg] at hb
    simp at hb
    exact hne hb.2
theorem own_keep {w w' : World} {S : Nat → Prop} {e : TypeId} {base n size : Nat} {v : Value} {xs : List Value} (h : w.ownsRow base e size v n xs) (k : Keep S w w') (hne : ∀ B, v.ownBlock = some B → ¬ S B) : w'.ownsRow base e size v n xs := by
  refine ⟨h.1, ?_⟩
  rcases h.2 with hn | ⟨g, cap, cur, rfl, hb, hg, rest⟩
  · exact .inl hn
  · refine .inr ⟨g, cap, cur, rfl, hb, ?_, rest⟩
    rw [k.block g (Array.getElem?_eq_some_iff.1 hg).1 (hne g rfl)]
    exact hg

theorem own_low {w : World} {base base' n size : Nat} {e : TypeId} {v : Value} {xs : List Value} (h : w.ownsRow base e size v n xs) (hb : base' ≤ base) : w.ownsRow base' e size v n xs := by
  refine ⟨h.1, ?_⟩
  rcases h.2 with hn | ⟨g, cap, cur, rfl, hg, rest⟩
  · exact .inl hn
  · exact .inr ⟨g, cap, cur, rfl, Nat.le_trans hb hg, rest⟩
theorem own_still {w w' : World} {base n size : Nat} {e : TypeId} {v : Value} {xs : List Value} (h : w.ownsRow base e size v n xs) (k : Keep none_ w w') : w'.ownsRow base e size v n xs := own_keep h k (fun _ _ f => f)

section
variable {P : Program} {w : World}
/-- 'append(s, x)', s nil or a row of the call's own. -/
theorem append1 {ops : Array Oper} {rest : List Oper} {o : Oper} {a : Act} {Q : Exit → Act → World → Prop} (hgd : o.guard = none) (s x : Operand) (t : TypeId)
    (ho : o.op = .call { callee := .builtin .append, args := #[s, x], argTypes := #[t, t] }) {base : Nat} {e : TypeId} {z : Value} {bytes : Nat} (ht : P.underlying t = some (.slice e))
    (hi : (P.info? e).map (fun i => (i.zero, i.size, i.bytes)) = some (some z, 1, bytes)) (hzs : z.cells.size = 1) {v : Value} {n : Nat} {xs : List Value} (hs : a.eval s = v) (hown : w.ownsRow base e 1 v n xs)
    {u : Value} (hx : a.eval x = .slice (some ⟨w.heap.size, 0, none⟩) 1 1) (hu : u.oneCell' = true) (hb : bytes ≤ 1000) (hn : n ≤ 100000000000) (hbase : base ≤ w.heap.size)
    (h : ∀ v' w', w'.ownsRow base e 1 v' (n + 1) (xs ++ [u]) → w.grownBy w' v.ownBlock → wpList P ops Q rest (a.put o.dst v') w') : wpList P ops Q (o :: rest) a (w.alloc (.cells #[u] e)) := by
  obtain ⟨i, hi1, hi2, hi3, hi4⟩ := info_parts hi
  have hbytes : (n + 1) * bytes ≤ 140737488355328 := Nat.le_trans (Nat.mul_le_mul (show n + 1 ≤ 100000000001 by omega) hb) (by decide)
  refine wpList_append_own _ hgd s x t ho base e i z 1 bytes ht hi1 hi2 hi3 hi4 hzs (by decide) v n xs hs (hown.alloc _) ⟨w.heap.size, 0, none⟩ 1 1 [u] hx rfl ?_ (by simpa using hu) ?_ hbytes (by simp; omega) ?_
  · intro j v' hj
    cases j with
    | zero => simp at hj; subst hj; simp [Addr.add]
    | succ j => simp at hj
  · unfold maxLen; omega
  · intro v' w' h1 h2 _
    exact h v' w' h1 ⟨h2.os, h2.tape, h2.output, Nat.le_trans (by simp) h2.size, fun k hk hr => (h2.block k (by simp; omega) hr).trans (Below.heap_alloc _ _ _ hk)⟩

/-- n cells of one value. -/
def zeros (z : Value) (n : Nat) : List Value := List.replicate n z
theorem zeros_len (z : Value) (n : Nat) : (zeros z n).length = n := by simp [zeros]
theorem made_zeros (z : Value) (n : Nat) : madeCells #[z] n = (zeros z n).toArray := by
  apply Array.ext
  · simp [madeCells, zeros]
  · intro i h1 h2
    simp [madeCells, zeros, Nat.mod_one]
/-- 'make([]T, n)', an element one cell. -/
theorem run_mk {T e : TypeId} {z : Value} {bytes : Nat} (ht : P.underlying T = some (.slice e)) (hi : (P.info? e).map (fun i => (i.zero, i.size, i.bytes)) = some (some z, 1, bytes)) (hz : z.cells = #[z]) (hb : bytes ≤ 1000)
    (n : Nat) (hn : n ≤ 100000000000) (L : Int) (hL : L = n) (w : World) :
    (Instr.makeSlice T (.int .i64 L) (.int .i64 L)).run P w = .ok (.slice (some ⟨w.heap.size, 0, none⟩) n n) (w.alloc (.cells (zeros z n).toArray e)) := by
  subst hL
  rw [← made_zeros]
  exact run_make_row' T e z bytes ht hi hz .i64 .i64 n (Nat.le_trans (Nat.mul_le_mul hb hn) (by decide)) (by omega) w
end
end Go.Proofs.YtkjplkkjdlanhaaGreatDoor
