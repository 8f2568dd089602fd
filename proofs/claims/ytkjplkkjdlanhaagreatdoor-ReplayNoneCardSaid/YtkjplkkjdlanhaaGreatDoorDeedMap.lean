/- deeds: the map of what each kind does. -/
import Derived.Test.YtkjplkkjdlanhaaGreatDoorDeed4
import Derived.Maps.Own
namespace Go.Proofs.YtkjplkkjdlanhaaGreatDoor
open Go.RowKit Go.Sort

def deedR : Value → Option (DataW Nat × List MemPlace)
  | .nilFunc => some (.nil, [])
  | .func (.func f) a b => if a.size = 0 ∧ b.size = 0 then some (.held f, []) else none
  | _ => none
theorem deedR_inv {v : Value} {f : Nat} {ps : List MemPlace} (h : deedR v = some (.held f, ps)) : v = .func (.func f) #[] #[] := by
  unfold deedR at h
  split at h
  · simp at h
  · split at h
    · rename_i h1
      simp at h
      obtain ⟨rfl, _⟩ := h
      obtain ⟨h1, h2⟩ := h1
      rw [Array.eq_empty_of_size_eq_zero h1, Array.eq_empty_of_size_eq_zero h2]
    · simp at h
  · simp at h

def deedD : DataW Nat := ((((((((DataW.map []).put (.int .i64 1) (.held 58)).put (.int .i64 2) (.held 59)).put (.int .i64 3) (.held 60)).put (.int .i64 4) (.held 61)).put (.int .i64 5) (.held 62)).put (.int .i64 6) (.held 63)).put (.int .i64 7) (.held 64)).put (.int .i64 8) (.held 65)
def deedNo (k : Int) : Option Nat := if k = 1 then some 58 else if k = 2 then some 59 else if k = 3 then some 60 else if k = 4 then some 61 else if k = 5 then some 62 else if k = 6 then some 63 else if k = 7 then some 64 else if k = 8 then some 65 else none

theorem Tryz.keyI : Maps.Keyed Tryz.prog 3 := Maps.int_keyed (q := .i64) (by kernel_rfl)
theorem Tryz.mapU : Tryz.prog.underlying 89 = some (.map 3 88) := by kernel_rfl

theorem deed_up {w : World} {b n : Nat} {D : DataW Nat} (h : w.ownsMap Tryz.prog 3 deedR b n D) (hn : n ≤ 100) (k : Int) (hk : (Lit.int .i64 k).wf = true) (f : Nat) :
    ∃ w', (Instr.mapUpdate 89 (.map (some b)) (.int .i64 k) (.func (.func f) #[] #[])).run Tryz.prog w = .ok () w' ∧ w'.ownsMap Tryz.prog 3 deedR b (n + 1) (D.put (.int .i64 k) (.held f)) ∧ w.grownBy w' (some b) :=
  h.update Tryz.keyI Tryz.mapU (by unfold maxLen; omega) (Maps.keyOf_int_mk (q := .i64) (by kernel_rfl) hk) (show deedR (.func (.func f) #[] #[]) = some (.held f, []) from rfl)
theorem deed_look {w : World} {b n : Nat} (h : w.ownsMap Tryz.prog 3 deedR b n deedD) (k : Int) (f : Nat) (hk : deedNo k = some f) : (Instr.lookup 89 (.map (some b)) (.int .i64 k) false).run Tryz.prog w = .ok (.func (.func f) #[] #[]) w := by
  have key : ∀ k f, (Lit.int .i64 k).wf = true → deedD.atKey (.int .i64 k) .nil = .held f → (Instr.lookup 89 (.map (some b)) (.int .i64 k) false).run Tryz.prog w = .ok (.func (.func f) #[] #[]) w := fun k f hwf hat => by
    obtain ⟨v, ps, hr, hv⟩ := h.lookup (z := .nilFunc) Tryz.keyI Tryz.mapU (by kernel_rfl) (zd := .nil) (zp := []) rfl (Maps.keyOf_int_mk (q := .i64) (by kernel_rfl) hwf)
    rw [hat] at hv
    rw [hr, deedR_inv hv]
  unfold deedNo at hk
  split at hk
  · cases hk; subst k; exact key 1 _ (by decide) rfl
  split at hk
  · cases hk; subst k; exact key 2 _ (by decide) rfl
  split at hk
  · cases hk; subst k; exact key 3 _ (by decide) rfl
  split at hk
  · cases hk; subst k; exact key 4 _ (by decide) rfl
  split at hk
  · cases hk; subst k; exact key 5 _ (by decide) rfl
  split at hk
  · cases hk; subst k; exact key 6 _ (by decide) rfl
  split at hk
  · cases hk; subst k; exact key 7 _ (by decide) rfl
  split at hk
  · cases hk; subst k; exact key 8 _ (by decide) rfl
  · cases hk

set_option maxRecDepth 4000 in
set_option maxHeartbeats 1000000 in
theorem deeds_any (w : World) : Calls Tryz.prog 42 #[] w fun e w' => ∃ b, e = .returned (.map (some b)) ∧ Keep none_ w w' ∧ ∀ W, Keep none_ w' W → ∀ k f, deedNo k = some f → (Instr.lookup 89 (.map (some b)) (.int .i64 k) false).run Tryz.prog W = .ok (.func (.func f) #[] #[]) W := by
  have hmm := @run_makeMap Tryz.prog
  have h0 := World.ownsMap_made w Tryz.prog 3 deedR
  obtain ⟨w1, r1, h1, g1⟩ := deed_up h0 (by decide) 1 (by decide) 58
  obtain ⟨w2, r2, h2, g2⟩ := deed_up h1 (by decide) 2 (by decide) 59
  obtain ⟨w3, r3, h3, g3⟩ := deed_up h2 (by decide) 3 (by decide) 60
  obtain ⟨w4, r4, h4, g4⟩ := deed_up h3 (by decide) 4 (by decide) 61
  obtain ⟨w5, r5, h5, g5⟩ := deed_up h4 (by decide) 5 (by decide) 62
  obtain ⟨w6, r6, h6, g6⟩ := deed_up h5 (by decide) 6 (by decide) 63
  obtain ⟨w7, r7, h7, g7⟩ := deed_up h6 (by decide) 7 (by decide) 64
  obtain ⟨w8, r8, h8, g8⟩ := deed_up h7 (by decide) 8 (by decide) 65
  have hk0 : Keep none_ w (w.alloc (.map #[] 0)) := (Keep.refl _ _).alloc _
  have up : ∀ {a b : World}, Keep none_ w a → a.grownBy b (some w.heap.size) → Keep none_ w b := fun ha hg => ha.grown hg (fun k e hk => by injection e with e; omega)
  have HK := Lib.hid (up (up (up (up (up (up (up (up hk0 g1) g2) g3) g4) g5) g6) g7) g8)
  have HL : Hid (∀ W, Keep none_ w8 W → ∀ k f, deedNo k = some f → (Instr.lookup 89 (.map (some w.heap.size)) (.int .i64 k) false).run Tryz.prog W = .ok (.func (.func f) #[] #[]) W) := fun W hk k f hf =>
    deed_look (h8.kept (row := none) ⟨hk.os, hk.tape, hk.output, hk.size, fun i hi _ => hk.block i hi (fun f => f)⟩ (by simp)) k f hf
  clear h0 h1 h2 h3 h4 h5 h6 h7 h8 g1 g2 g3 g4 g5 g6 g7 g8 hk0 up
  go_enter Tryz.func42, Tryz.ntmps42
  go_wp2_with fail
  go_ret
  exact ⟨_, rfl, HK.out, HL.out⟩
end Go.Proofs.YtkjplkkjdlanhaaGreatDoor
