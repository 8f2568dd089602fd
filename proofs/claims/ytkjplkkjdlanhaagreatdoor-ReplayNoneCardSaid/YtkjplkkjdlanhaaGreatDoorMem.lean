/- Plain facts on blocks of memory, of no program: what a block holds, what a store makes of it, and what a call leaves as it was. -/
import Derived.Below
import Derived.Laws.AppendOwn
import Derived.WalkKit
import Derived.OneCell
import Derived.WalkSmall
namespace Go.Proofs.YtkjplkkjdlanhaaGreatDoor
open Go.RowKit

/-- Block B holds just these cells, of an element type, none frozen. -/
def Blk (w : World) (B : Nat) (cs : List Value) (T : TypeId) : Prop := w.heap[B]? = some (.cells cs.toArray T (0, 0))

theorem Blk.cell {w B cs T} (h : Blk w B cs T) (i : Nat) {v : Value} (hi : cs[i]? = some v) : w.cell? ⟨B, i, none⟩ = some v := by
  unfold Blk at h
  simp [World.cell?, h, hi]
theorem Blk.free {w B cs T} (h : Blk w B cs T) (i : Nat) : w.frozen? ⟨B, i, none⟩ = false := by
  unfold Blk at h
  simp [World.frozen?, h]
theorem Blk.lt {w B cs T} (h : Blk w B cs T) : B < w.heap.size := lt_of_block h
theorem Blk.set {w B cs T} (h : Blk w B cs T) (i : Nat) (v : Value) : Blk (w.setCell ⟨B, i, none⟩ v) B (cs.set i v) T := by
  have hlt := h.lt
  unfold Blk at h
  have h' : w.heap[B] = .cells cs.toArray T (0, 0) := by simpa [Array.getElem?_eq_getElem hlt] using h
  show (w.heap.modify B _)[B]? = _
  rw [Array.getElem?_eq_getElem (by simpa using hlt), Array.getElem_modify_self, h']
  simp
theorem Blk.other {w B cs T} (h : Blk w B cs T) {a : Addr} (ha : B ≠ a.block) (v : Value) : Blk (w.setCell a v) B cs T := by
  unfold Blk at *
  rw [Below.heap_setCell _ _ _ _ ha]; exact h
theorem Blk.alloc {w B cs T} (h : Blk w B cs T) (o : Obj) : Blk (w.alloc o) B cs T := by
  have hlt := h.lt
  unfold Blk at *
  rw [Below.heap_alloc _ _ _ hlt]; exact h
theorem Blk.drew {w B cs T} (h : Blk w B cs T) : Blk w.drew B cs T := h
theorem Blk.new (w : World) (cs : List Value) (T : TypeId) : Blk (w.alloc (.cells cs.toArray T)) w.heap.size cs T := by
  show (w.heap.push _)[w.heap.size]? = _
  simp
theorem Blk.uniq {w B cs cs' T T'} (h : Blk w B cs T) (h' : Blk w B cs' T') : cs = cs' ∧ T = T' := by
  unfold Blk at *
  rw [h] at h'
  simp at h'; exact h'

/-- Behind a call the world is as it was, but for the blocks of S, and for new ones. -/
structure Keep (S : Nat → Prop) (w w' : World) : Prop where
  os : w'.os = w.os
  tape : w'.tape = w.tape
  output : w'.output = w.output
  size : w.heap.size ≤ w'.heap.size
  block : ∀ k, k < w.heap.size → ¬ S k → w'.heap[k]? = w.heap[k]?

theorem Keep.refl (S : Nat → Prop) (w : World) : Keep S w w := ⟨rfl, rfl, rfl, Nat.le_refl _, fun _ _ _ => rfl⟩
theorem Keep.trans {S : Nat → Prop} {a b c : World} (h : Keep S a b) (k : Keep S b c) : Keep S a c :=
  ⟨k.os.trans h.os, k.tape.trans h.tape, k.output.trans h.output, Nat.le_trans h.size k.size, fun i hi hs => (k.block i (Nat.lt_of_lt_of_le hi h.size) hs).trans (h.block i hi hs)⟩
/-- A narrower call behind another one: what it may write was to be written, or is new. -/
theorem Keep.trans' {S T : Nat → Prop} {a b c : World} (h : Keep S a b) (k : Keep T b c) (hs : ∀ i, i < a.heap.size → T i → S i) : Keep S a c :=
  ⟨k.os.trans h.os, k.tape.trans h.tape, k.output.trans h.output, Nat.le_trans h.size k.size, fun i hi n => (k.block i (Nat.lt_of_lt_of_le hi h.size) (fun t => n (hs i hi t))).trans (h.block i hi n)⟩
theorem Keep.mono {S T : Nat → Prop} {a b : World} (h : Keep S a b) (hs : ∀ i, i < a.heap.size → S i → T i) : Keep T a b :=
  ⟨h.os, h.tape, h.output, h.size, fun i hi n => h.block i hi (fun s => n (hs i hi s))⟩
theorem Keep.setCell {S : Nat → Prop} {a w : World} (h : Keep S a w) {p : Addr} (hp : p.block < a.heap.size → S p.block) (u : Value) : Keep S a (w.setCell p u) :=
  h.trans' (T := fun i => i = p.block) ⟨rfl, rfl, rfl, by simp [World.setCell], fun k _ n => Below.heap_setCell _ _ _ _ n⟩ (fun i hi e => by subst e; exact hp hi)
theorem Keep.alloc {S : Nat → Prop} {a w : World} (h : Keep S a w) (o : Obj) : Keep S a (w.alloc o) :=
  h.trans ⟨rfl, rfl, rfl, by simp, fun k hk _ => Below.heap_alloc _ _ _ hk⟩
theorem Keep.drew {S : Nat → Prop} {a w : World} (h : Keep S a w) : Keep S a w.drew := ⟨h.os, h.tape, h.output, h.size, h.block⟩
theorem Keep.drewN {S : Nat → Prop} {a w : World} (h : Keep S a w) (n : Nat) : Keep S a (w.drewN n) := ⟨h.os, h.tape, h.output, h.size, h.block⟩
theorem Keep.blk {S : Nat → Prop} {w w' : World} (h : Keep S w w') {B cs T} (hb : Blk w B cs T) (hs : ¬ S B) : Blk w' B cs T := by
  have hlt := hb.lt
  unfold Blk at *
  rw [h.block B hlt hs]; exact hb
theorem Keep.cell {S : Nat → Prop} {w w' : World} (h : Keep S w w') {p : Addr} (hp : p.block < w.heap.size) (hs : ¬ S p.block) : w'.cell? p = w.cell? p := World.cell?_of_block (w := w) (h.block p.block hp hs)
theorem Keep.cellv {S : Nat → Prop} {w w' : World} (h : Keep S w w') {p : Addr} {v : Value} (hc : w.cell? p = some v) (hs : ¬ S p.block) : w'.cell? p = some v := by
  rw [h.cell (World.block_lt_of_cell? _ _ hc) hs]; exact hc
theorem Keep.frozen {S : Nat → Prop} {w w' : World} (h : Keep S w w') {p : Addr} (hp : p.block < w.heap.size) (hs : ¬ S p.block) : w'.frozen? p = w.frozen? p := World.frozen?_of_block (w := w) (h.block p.block hp hs)
theorem Keep.below {S : Nat → Prop} {a w w' : World} {N : Nat} (h : Keep S w w') (hb : Below N a w) (hN : N ≤ w.heap.size) (hs : ∀ i, i < N → ¬ S i) : Below N a w' :=
  hb.trans ⟨h.os, h.tape, h.output, h.size, fun k hk => h.block k (by omega) (hs k hk)⟩
theorem Keep.ofBelow {w w' : World} (h : Below w.heap.size w w') (S : Nat → Prop) : Keep S w w' := ⟨h.os, h.tape, h.output, h.size, fun k hk _ => h.block k hk⟩
theorem Keep.toBelow {w w' : World} (h : Keep (fun _ => False) w w') : Below w.heap.size w w' := ⟨h.os, h.tape, h.output, h.size, fun k hk => h.block k hk (fun f => f)⟩

/-- What a call may write: one block. -/
def only (B : Nat) : Nat → Prop := fun i => i = B
def none_ : Nat → Prop := fun _ => False
theorem Keep.still {w w' : World} (h : Keep none_ w w') {p : Addr} {v : Value} (hc : w.cell? p = some v) : w'.cell? p = some v := h.cellv hc (fun f => f)
/-- Writes into a block that is new since w0 turn nothing that was there. -/
theorem Keep.onNew {w0 w w' : World} {B : Nat} (h : Keep none_ w0 w) (k : Keep (only B) w w') (hB : w0.heap.size ≤ B) : Keep none_ w0 w' := h.trans' k (fun i hi e => by unfold only at e; omega)
theorem Keep.put {w0 w : World} {B : Nat} (h : Keep (only B) w0 w) (i : Nat) (v : Value) : Keep (only B) w0 (w.setCell ⟨B, i, none⟩ v) := h.setCell (p := ⟨B, i, none⟩) (fun _ => rfl) v
theorem Keep.puts {S : Nat → Prop} {w0 w : World} {B : Nat} (h : Keep S w0 w) (hB : S B) (i : Nat) (v : Value) : Keep S w0 (w.setCell ⟨B, i, none⟩ v) := h.setCell (p := ⟨B, i, none⟩) (fun _ => hB) v
/-- A store into a block that is new since w0. -/
theorem Keep.putNew {S : Nat → Prop} {w0 w : World} {B : Nat} (h : Keep S w0 w) (hB : w0.heap.size ≤ B) (i : Nat) (v : Value) : Keep S w0 (w.setCell ⟨B, i, none⟩ v) := h.setCell (p := ⟨B, i, none⟩) (fun hl => absurd hl (by simp; omega)) v

end Go.Proofs.YtkjplkkjdlanhaaGreatDoor
