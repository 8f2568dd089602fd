/- What Check tells of an operation, by a config. -/
import Derived.Test.YtkjplkkjdlanhaaGreatDoorOp2
import Derived.Laws.EntriesVeiled
namespace Go.Proofs.YtkjplkkjdlanhaaGreatDoor
open Go.RowKit Go.Sort

def numOf (o : OpR) (j : Nat) : Int := if j = 0 then o.a else if j = 1 then o.b else o.c
def chkN (c : Conf) (o : OpR) : Nat → Int
  | 0 => 0
  | j + 1 => letterStep c (chkN c o j) ((useL o.k).getD j 0) (numOf o j)
def chk (c : Conf) (o : OpR) : Int := if c.ok && isKind o.k then chkN c o (useL o.k).length else 1

/-- What lies in Check's boxes behind j letters. -/
structure CkI (c : Conf) (o : OpR) (C B O V : Nat) (j : Nat) (W : World) : Prop where
  hc : Blk W C c.cells 23
  hb : Blk W B o.cells 52
  ho : Blk W O [.int .i64 (chkN c o j)] 24
  hv : Blk W V [.func (.func 55) #[] #[.pointer (some ⟨O, 0, none⟩)]] 112

theorem CkI.later {c : Conf} {o : OpR} {C B O V j : Nat} {W W' : World} (h : CkI c o C B O V j W) (k : Keep none_ W W') : CkI c o C B O V j W' :=
  ⟨k.blk h.hc (fun f => f), k.blk h.hb (fun f => f), k.blk h.ho (fun f => f), k.blk h.hv (fun f => f)⟩
theorem CkI.step {c : Conf} {o : OpR} {C B O V j : Nat} {W : World} {l : UInt8} (h : CkI c o C B O V j W) (hl : (useL o.k)[j]? = some l) (hC : C ≠ O) (hB : B ≠ O) (hV : V ≠ O) :
    Calls Tryz.prog 57 (#[.int .u8 l.toNat, .pointer (some ⟨B, j + 1, none⟩)] ++ #[.pointer (some ⟨V, 0, none⟩), .pointer (some ⟨C, 0, none⟩)]) W fun x W' => x = .returned (.tuple #[]) ∧ CkI c o C B O V (j + 1) W' ∧ Keep (only O) W W' := by
  have hj3 : j < 3 := Nat.lt_of_lt_of_le (List.getElem?_eq_some_iff.1 hl).1 (useL_len o.k)
  have hn : W.cell? ⟨B, j + 1, none⟩ = some (.int .i64 (numOf o j)) := by
    refine h.hb.cell (j + 1) ?_
    rcases (by omega : j = 0 ∨ j = 1 ∨ j = 2) with rfl | rfl | rfl <;> rfl
  refine (letter_any c l (numOf o j) (chkN c o j) B (j + 1) O V C W h.ho h.hv h.hc hn).mono ?_
  rintro x W' ⟨rfl, hb, hk⟩
  have e : chkN c o (j + 1) = letterStep c (chkN c o j) l (numOf o j) := by
    rw [chkN, List.getD_eq_getElem?_getD, hl]; rfl
  exact ⟨rfl, ⟨hk.blk h.hc hC, hk.blk h.hb hB, by rw [e]; exact hb, hk.blk h.hv hV⟩, hk⟩

set_option maxRecDepth 4000 in
set_option maxHeartbeats 4000000 in
theorem check_any (c : Conf) (o : OpR) (w : World) (hT : Tabs w) : Calls Tryz.prog 41 #[.agg c.cells.toArray, .agg o.cells.toArray] w fun e w' => e = .returned (.int .i64 (chk c o)) ∧ Keep none_ w w' := by
  obtain ⟨W0, hW0⟩ : ∃ W', W' = (w.alloc (.cells c.cells.toArray 23)).alloc (.cells o.cells.toArray 52) := ⟨_, rfl⟩
  have HC0 : Hid (Blk W0 w.heap.size c.cells 23) := by rw [hW0]; exact (Blk.new w _ _).alloc _
  have HO0 : Hid (Blk W0 (w.heap.size + 1) o.cells 52) := by rw [hW0]; have h := Blk.new (w.alloc (.cells c.cells.toArray 23)) o.cells 52; simp only [World.size_alloc] at h; exact h
  have HK0 : Hid (Keep none_ w W0) := by rw [hW0]; exact ((Keep.refl _ _).alloc _).alloc _
  have HT := Lib.hid (hT.keep HK0.out)
  have HR := Lib.hid (right_any c W0 HT.out)
  have HIS := Lib.hid (is_any o.k)
  clear hT
  have k0 : W0.cell? ⟨w.heap.size, 0, none⟩ = some (.int .i64 c.b) := HC0.out.cell 0 rfl
  have k1 : W0.cell? ⟨w.heap.size, 1, none⟩ = some (.int .i64 c.w) := HC0.out.cell 1 rfl
  have k2 : W0.cell? ⟨w.heap.size, 2, none⟩ = some (.int .i64 c.m) := HC0.out.cell 2 rfl
  have k3 : W0.cell? ⟨w.heap.size, 3, none⟩ = some (.int .i64 c.r) := HC0.out.cell 3 rfl
  have k4 : W0.cell? ⟨w.heap.size, 4, none⟩ = some (.int .i64 c.c) := HC0.out.cell 4 rfl
  have k5 : W0.cell? ⟨w.heap.size, 5, none⟩ = some (.int .i64 c.l) := HC0.out.cell 5 rfl
  have k6 : W0.cell? ⟨w.heap.size, 6, none⟩ = some (.int .i64 c.s) := HC0.out.cell 6 rfl
  have hcc : c.cells.toArray = #[.int .i64 c.b, .int .i64 c.w, .int .i64 c.m, .int .i64 c.r, .int .i64 c.c, .int .i64 c.l, .int .i64 c.s] := rfl
  have hoc : o.cells.toArray = #[.int .i64 o.k, .int .i64 o.a, .int .i64 o.b, .int .i64 o.c] := rfl
  rw [hcc, hoc] at hW0 ⊢
  rw [hcc] at HR
  clear hcc hoc
  go_enter Tryz.func41, Tryz.ntmps41
  go_wp2_with fail
  rw [← hW0]
  clear hW0 k0 k1 k2 k3 k4 k5 k6
  refine HR.out.mono ?_
  rintro e w1 ⟨rfl, hk1⟩
  have HC1 := Lib.hid (hk1.blk HC0.out (fun f => f))
  have HO1 := Lib.hid (hk1.blk HO0.out (fun f => f))
  have HK1 := Lib.hid (HK0.out.trans hk1)
  have HT1 := Lib.hid (HT.out.keep hk1)
  have HSZ : Hid (w.heap.size + 2 ≤ w1.heap.size) := by have h := HO1.out.lt; unfold Hid; omega
  clear hk1 HC0 HO0 HK0 HT HR
  cases hok : c.ok with
  | false =>
    have HE : Hid (chk c o = 1) := by simp [Hid, chk, hok]
    clear hok
    go_wp2_with fail
    go_ret
    exact ⟨by rw [HE.out]; rfl, HK1.out⟩
  | true =>
    cases hik : isKind o.k with
    | false =>
      have HE : Hid (chk c o = 1) := by simp [Hid, chk, hik]
      have d0 : w1.cell? ⟨w.heap.size + 1, 0, none⟩ = some (.int .i64 o.k) := HO1.out.cell 0 rfl
      rw [hik] at HIS
      clear hok hik
      go_wp2_with (go_at_call 54; refine (HIS.out _).mono ?_; rintro e w1 ⟨rfl, rfl⟩)
      go_ret
      exact ⟨by rw [HE.out]; rfl, HK1.out⟩
    | true =>
      have HE : Hid (chk c o = chkN c o (useL o.k).length) := by simp [Hid, chk, hok, hik]
      have d0 : w1.cell? ⟨w.heap.size + 1, 0, none⟩ = some (.int .i64 o.k) := HO1.out.cell 0 rfl
      rw [hik] at HIS
      clear hok hik
      have hmf : ∀ (fn : Fn) (first cap : Array Value) (w : World), (Instr.makeFunc fn first cap).run Tryz.prog w = .ok (.func fn first cap) w := fun _ _ _ _ => rfl
      obtain ⟨W2, hW2⟩ : ∃ W', W' = (w1.alloc (.cells #[.int .i64 0] 24)).alloc (.cells #[.func (.func 55) #[] #[.pointer (some ⟨w1.heap.size, 0, none⟩)]] 112) := ⟨_, rfl⟩
      have hk2 : Keep none_ w1 W2 := by rw [hW2]; exact ((Keep.refl _ _).alloc _).alloc _
      have hO2 : Blk W2 w1.heap.size [.int .i64 0] 24 := by rw [hW2]; exact (Blk.new w1 _ _).alloc _
      have hV2 : Blk W2 (w1.heap.size + 1) [.func (.func 55) #[] #[.pointer (some ⟨w1.heap.size, 0, none⟩)]] 112 := by rw [hW2]; have h := Blk.new (w1.alloc (.cells #[.int .i64 0] 24)) [.func (.func 55) #[] #[.pointer (some ⟨w1.heap.size, 0, none⟩)]] 112; simp only [World.size_alloc] at h; exact h
      have hI : CkI c o w.heap.size (w.heap.size + 1) w1.heap.size (w1.heap.size + 1) 0 W2 := ⟨hk2.blk HC1.out (fun f => f), hk2.blk HO1.out (fun f => f), hO2, hV2⟩
      have hsz := HSZ.out
      have HEACH := Lib.hid (each_any 57 #[.pointer (some ⟨w1.heap.size + 1, 0, none⟩), .pointer (some ⟨w.heap.size, 0, none⟩)] (only w1.heap.size) (CkI c o w.heap.size (w.heap.size + 1) w1.heap.size (w1.heap.size + 1)) (w.heap.size + 1) o.k W2 (HT1.out.keep hk2) (hk2.still d0) hI
        (fun args w => by simp [callFunc, Tryz.func57, go_sem]; rfl) (fun j W W' h k => h.later k) (fun i hi => by unfold only at hi; have := hV2.lt; omega)
        (fun j l W hl h k => h.step hl (by omega) (by omega) (by omega)))
      have HK2 := Lib.hid (HK1.out.trans hk2)
      clear hk2 hO2 hV2 hI hsz
      go_wp2_with (go_at_call 54; refine (HIS.out _).mono ?_; rintro e w1 ⟨rfl, rfl⟩)
      rw [← hW2]
      clear hW2
      refine HEACH.out.mono ?_
      rintro e w3 ⟨rfl, hI3, hk3⟩
      have c3 := hI3.ho.cell 0 rfl
      have hK := HK2.out.trans' hk3 (fun i hi h => absurd hi (by unfold only at h; have := HSZ.out; omega))
      clear hI3 hk3
      go_wp2_with fail
      go_ret
      exact ⟨by rw [HE.out]; rfl, hK⟩
end Go.Proofs.YtkjplkkjdlanhaaGreatDoor
