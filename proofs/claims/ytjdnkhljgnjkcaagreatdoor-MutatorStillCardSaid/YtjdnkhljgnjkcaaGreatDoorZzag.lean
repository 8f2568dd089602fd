/- Parts of a walk, put together by a small program of mine from texts of their own: HeapObj SesMore Same01 LawMStill. -/
import Derived.Test.YtjdnkhljgnjkcaaGreatDoorZzaf
import Derived.Test.YtjdnkhljgnjkcaaGreatDoorZzj
import Derived.Test.YtjdnkhljgnjkcaaGreatDoorZzac
import Derived.Test.YtjdnkhljgnjkcaaGreatDoorZzz
import Derived.Deep.QuietTactic
import Derived.BigQuiet
import Derived.Deep.LoopGhost
import Derived.Test.YtjdnkhljgnjkcaaGreatDoorZzad
import Derived.BigRegion
import Derived.Deep.RegionHeld3
/- A heap's objects: Objects. -/
namespace Go.Proofs.YtjdnkhljgnjkcaaGreatDoor
open Go.RowKit
attribute [local go_sem] Oper.semAt_some

def HS.objs (H : HS) : List Nat := setL H.bn H.sz
section
variable {w w' : World} {D : Nat → Nat} {H : HS}
theorem setL_congr {s s' : Nat → Bool} {size : Nat} (h : ∀ k, k < size → s k = s' k) : setL s size = setL s' size := List.filter_congr (fun x hx => h x (List.mem_range.1 hx))
set_option maxRecDepth 8000 in
theorem collSet_any {B X size : Nat} {s : Nat → Bool} (h : SetF w B X size s) (h1 : 1 ≤ size) (hT : TabB w) : ∀ W, W = w.alloc (.cells #[.pointer (some ⟨B, 0, none⟩)] 116) → Calls Tryz.prog 58 #[.func (.func 99) #[] #[.pointer (some ⟨w.heap.size, 0, none⟩)]] W fun e w' => ∃ v, e = .returned v ∧ w'.ownsRow w.heap.size 3 1 v (setL s size).length (tabV (setL s size)) ∧ Keep none_ w w' := by
  intro W hW
  obtain ⟨ws, hs, hb⟩ := h
  have hk : Keep none_ w W := by rw [hW]; exact (Keep.refl _ _).alloc _
  have hp : Blk W w.heap.size [.pointer (some ⟨B, 0, none⟩)] 116 := by rw [hW]; exact Blk.new w _ _
  have e : setL (bitL ws) size = setL s size := setL_congr (fun k hk => by
    rw [← hb k]
    unfold hasP
    rw [decide_eq_true (by omega), Bool.true_and, Int.toNat_natCast])
  have hsz := hs.sz
  have hdB : 0 < w.heap.size := World.block_lt_of_cell? _ _ (hT 0 (by decide))
  have hl := setL_len s size
  refine (collect_any 99 #[.pointer (some ⟨w.heap.size, 0, none⟩)] (setL s size) setTs (by decide) (by decide) (by omega) W (fun args w => by simp [callFunc, Tryz.func99, go_sem]; rfl) (fun V hV => ?_)).mono ?_
  · rw [← e]
    exact all_seq ((hs.still hk).still hV) h1 ((hT.still hk).still hV) (Nat.lt_of_lt_of_le hdB hk.size) w.heap.size (hV.blk hp (fun f => f)) 8
  · rintro e w' ⟨v, rfl, h2, k2⟩
    exact ⟨v, rfl, own_low h2 hk.size, hk.trans k2⟩
set_option maxRecDepth 8000 in
theorem hObjects_any (h : HeapAt w D H) (hT : TabB w) : Calls Tryz.prog 23 #[.pointer (some ⟨D 0, 0, none⟩)] w fun e w' => ∃ v, e = .returned v ∧ w'.ownsRow w.heap.size 3 1 v H.objs.length (tabV H.objs) ∧ Keep none_ w w' := by
  have c3 := h.blk.cell 3 rfl
  have HC := Lib.hid (collSet_any h.born (by show 1 ≤ H.b * H.ww + 1; omega) hT)
  unfold HS.objs
  generalize setL H.bn H.sz = l at *
  clear h hT
  go_enter Tryz.func23, Tryz.ntmps23
  go_wp2_with fail
  refine (bAll_w _ _).mono ?_
  rintro e w1 ⟨rfl, hw⟩
  have HC1 := Lib.hid (HC.out w1 hw)
  clear HC hw c3
  go_wp2_with fail
  refine HC1.out.mono ?_
  rintro e w2 ⟨v, rfl, h1, k1⟩
  have HE := Lib.hid (And.intro h1 k1)
  clear h1 k1 HC1
  go_wp2_with fail
  go_ret
  exact ⟨v, rfl, HE.out.1, HE.out.2⟩
set_option maxRecDepth 4000 in
theorem hObjects_nil (w : World) : Calls Tryz.prog 23 #[.pointer none] w fun e w' => e = .returned (.slice none 0 0) ∧ w = w' := by
  go_enter Tryz.func23, Tryz.ntmps23
  go_wp2_with fail
  go_ret
  exact ⟨rfl, rfl⟩
end
end Go.Proofs.YtjdnkhljgnjkcaaGreatDoor

/- A mutator alone in a call: registers, objects, mode; rows of the call's own. -/
namespace Go.Proofs.YtjdnkhljgnjkcaaGreatDoor
open Go.RowKit
attribute [local go_sem] Oper.semAt_some

theorem op_of {cs : List Value} (h : FlatOk [.int .i64, .int .i64, .int .i64, .int .i64] cs) : ∃ o : OpR, cs = o.cells ∧ True := by
  obtain ⟨hl, hv⟩ := h
  match cs, hl with
  | [a, b, c, d], _ =>
    obtain ⟨va, e0, ka, rfl, _⟩ := hv 0 (.int .i64) rfl
    obtain ⟨vb, e1, kb, rfl, _⟩ := hv 1 (.int .i64) rfl
    obtain ⟨vc, e2, kc, rfl, _⟩ := hv 2 (.int .i64) rfl
    obtain ⟨vd, e3, kd, rfl, _⟩ := hv 3 (.int .i64) rfl
    simp at e0 e1 e2 e3
    subst e0 e1 e2 e3
    exact ⟨⟨ka, kb, kc, kd⟩, rfl, trivial⟩
theorem ops_of : ∀ z : List (List Value), (∀ r ∈ z, FlatOk [.int .i64, .int .i64, .int .i64, .int .i64] r) → ∃ prog, z = opCells prog
  | [], _ => ⟨[], rfl⟩
  | r :: z, h => by
    obtain ⟨o, e, _⟩ := op_of (h r (by simp))
    obtain ⟨p, e2⟩ := ops_of z (fun r hr => h r (by simp [hr]))
    exact ⟨o :: p, by rw [e, e2]; rfl⟩
theorem tabB_of {rest : List (String × DataW Unit)} {w : World} (h : laidMet Tryz.prog (("math/bits.deBruijn64tab", Rows.laid_math_bits_deBruijn64tab) :: rest) w) : TabB w := by
  obtain ⟨ps, ⟨g, t, cs, fuel, p, q, hg, ht, hvar, hd, _, _⟩, _⟩ := h
  obtain rfl : 0 = g := Option.some.inj ((show Tryz.prog.globalNamed "math/bits.deBruijn64tab" = some 0 by kernel_rfl).symm.trans hg)
  obtain rfl : 214 = t := Option.some.inj ((show (Tryz.prog.globals[0]?).map (·.type) = some 214 by kernel_rfl).symm.trans ht)
  obtain ⟨cs, rfl⟩ : ∃ l : List Value, cs = l.toArray := ⟨cs.toList, by simp⟩
  have e : cs = (Lib.deBruijn64tab.map fun x : Nat => (x : Int)).map (Value.int .u8) := Lib.cells_of_tab (zs := Lib.deBruijn64tab.map fun x : Nat => (x : Int)) (show Tryz.prog.underlying 214 = some (.array 64 5) by kernel_rfl) (show Tryz.prog.underlying 5 = some (.int .u8) by kernel_rfl) (by kernel_rfl) (by kernel_rfl) hd
  intro j hj
  rw [World.var?_cell (P := Tryz.prog) hg hvar j, e]
  rw [List.getD_eq_getElem?_getD, List.getElem?_eq_getElem hj]
  simp [hj]
section
variable {w W W' : World} {Z : List (Nat × List Value × TypeId)} {G : Geo} {g : MG} {s : Sh} {m : MS}
/-- Blocks that hold a row. -/
theorem own_entries {base n : Nat} {T : TypeId} {v : Value} {xs : List Value} (h : W.ownsRow base T 1 v n xs) : ∃ Zr : List (Nat × List Value × TypeId), (∀ z ∈ Zr, base ≤ z.1 ∧ Blk W z.1 z.2.1 z.2.2) ∧ ∀ V, (∀ z ∈ Zr, Blk V z.1 z.2.1 z.2.2) → V.ownsRow base T 1 v n xs := by
  obtain ⟨hl, h2⟩ := h
  rcases h2 with ⟨h3, h4⟩ | ⟨g, cap, cur, rfl, hg0, hg, hr⟩
  · exact ⟨[], fun z hz => (by cases hz), fun V _ => ⟨hl, .inl ⟨h3, h4⟩⟩⟩
  · refine ⟨[(g, cur.toList, T)], fun z hz => ?_, fun V hV => ⟨hl, .inr ⟨g, cap, cur, rfl, hg0, ?_, hr⟩⟩⟩
    · rw [List.mem_singleton] at hz
      subst hz
      exact ⟨hg0, by unfold Blk; simpa using hg⟩
    · have h9 := hV _ (List.mem_singleton.2 rfl)
      unfold Blk at h9
      simpa using h9
theorem SesZ.add {Zr : List (Nat × List Value × TypeId)} (h : SesZ w W Z G g s m) (k : Keep none_ W W') (hz : ∀ z ∈ Zr, W.heap.size ≤ z.1 ∧ Blk W' z.1 z.2.1 z.2.2) : SesZ w W' (Zr ++ Z) G g s m := by
  obtain ⟨o, h1, h2, h3, h4⟩ := h
  obtain ⟨ev, nv, h5, _⟩ := id h1
  refine ⟨o, h1.still k, h2, h3.trans k, fun z hzm => ?_⟩
  rcases List.mem_append.1 hzm with h6 | h6
  · exact ⟨h5.sh.fut _ (hz z h6).1, (hz z h6).2⟩
  · exact ⟨(h4 z h6).1, k.blk (h4 z h6).2 (fun f => f)⟩
/-- A row that lies in blocks of the call's own. -/
def RowZ (Z : List (Nat × List Value × TypeId)) (v : Value) (l : List Nat) : Prop := ∀ V, (∀ z ∈ Z, Blk V z.1 z.2.1 z.2.2) → ∃ a c, v = .slice a l.length c ∧ IntCells .i64 V a l.length (l.map fun x : Nat => (x : Int))
theorem RowZ.of {base : Nat} {v : Value} {l : List Nat} {Zr : List (Nat × List Value × TypeId)} (h : ∀ V, (∀ z ∈ Zr, Blk V z.1 z.2.1 z.2.2) → V.ownsRow base 3 1 v l.length (tabV l)) : RowZ Zr v l := fun V hV => by
  have h1 := h V hV
  obtain ⟨a, c, rfl, _⟩ := own_form (own_low h1 (Nat.zero_le _))
  exact ⟨a, c, rfl, own_ints h1⟩
theorem RowZ.more {v : Value} {l : List Nat} {Z' : List (Nat × List Value × TypeId)} (h : RowZ Z v l) (hs : ∀ z ∈ Z, z ∈ Z') : RowZ Z' v l := fun V hV => h V (fun z hz => hV z (hs z hz))
theorem SesZ.rowAt (h : SesZ w W Z G g s m) {v : Value} {l : List Nat} (hr : RowZ Z v l) : ∃ a c, v = .slice a l.length c ∧ IntCells .i64 W a l.length (l.map fun x : Nat => (x : Int)) := hr W (fun _ hz => h.blk hz)
theorem SesZ.regs (h : SesZ w W Z G g s m) : Calls Tryz.prog 13 #[.pointer (some ⟨g.M, 0, none⟩)] W fun e w' => ∃ v Zr, e = .returned v ∧ SesZ w w' (Zr ++ Z) G g s m ∧ RowZ Zr v m.regs ∧ Keep none_ W w' := by
  obtain ⟨o, ⟨ev, nv, h4, _⟩, _, _, _⟩ := id h
  refine (mRegs_any h4).mono ?_
  rintro e w' ⟨v, rfl, ho, k⟩
  obtain ⟨Zr, z1, z2⟩ := own_entries ho
  exact ⟨v, Zr, rfl, h.add k z1, RowZ.of z2, k⟩
theorem SesZ.objs (h : SesZ w W Z G g s m) (hT : TabB w) : Calls Tryz.prog 23 #[.pointer (some ⟨G.D 0, 0, none⟩)] W fun e w' => ∃ v Zr, e = .returned v ∧ SesZ w w' (Zr ++ Z) G g s m ∧ RowZ Zr v s.H.objs ∧ Keep none_ W w' := by
  obtain ⟨o, ⟨ev, nv, h4, _⟩, _, _, _⟩ := id h
  refine (hObjects_any h4.sh.heap (hT.still h.keep)).mono ?_
  rintro e w' ⟨v, rfl, ho, k⟩
  obtain ⟨Zr, z1, z2⟩ := own_entries ho
  exact ⟨v, Zr, rfl, h.add k z1, RowZ.of z2, k⟩
theorem SesZ.mode (h : SesZ w W Z G g s m) : Calls Tryz.prog 15 #[.pointer (some ⟨g.M, 0, none⟩)] W fun e w' => e = .returned (.int .i64 (m.mode : Int)) ∧ W = w' := by
  obtain ⟨o, ⟨ev, nv, h4, _⟩, _, _, _⟩ := id h
  exact mMode_any h4
theorem SesZ.busy (h : SesZ w W Z G g s m) : Calls Tryz.prog 19 #[.pointer (some ⟨g.M, 0, none⟩)] W fun e w' => e = .returned (.bool (!isNil m.next)) ∧ W = w' := by
  obtain ⟨o, h1, _, _, _⟩ := id h
  exact mBusy_any h1
theorem SesZ.pickE {N : Nat} (h : SesZ w W Z G g s m) (ok : Pok N s m) (hN : N ≤ 1000000) : Calls Tryz.prog 11 #[.pointer (some ⟨g.M, 0, none⟩)] W fun e w' => e = .returned (.tuple #[evAgg (pickM s m).2.2, evTold (pickM s m).2.2]) ∧ SesZ w w' Z G g (pickM s m).1 (pickM s m).2.1 := by
  obtain ⟨o, h1, h2, h3, h4⟩ := h
  refine (mPick_any h1 ok hN).mono ?_
  rintro e w' ⟨o', rfl, e1, g1, k1⟩
  exact ⟨rfl, SesZ.step h2 h3 h4 e1 k1 (stepI_0 _) g1⟩
end
/-- A calm mutator that has ended stays so. -/
theorem calm_still {N : Nat} {s : Sh} {m : MS} (ok : Pok N s m) (h : Calm s m) (hd : doneM m = true) : ∃ m', pickM s m = (s, m', none) ∧ Pok (N + 1) s m' ∧ Calm s m' ∧ doneM m' = true ∧ m'.regs = m.regs ∧ m'.res = m.res ∧ m'.mode = m.mode ∧ m'.prog = m.prog ∧ m'.next = m.next := by
  have e := pick_done h hd
  have hp := (pick_ok ok).1
  rw [e] at hp
  exact ⟨_, e, hp, ⟨h.s.congr ⟨rfl, rfl⟩, h.nx, h.le, h.lt⟩, hd, rfl, rfl, rfl, rfl, rfl⟩
set_option maxRecDepth 4000 in
theorem rOp_any (c : Conf) (h : 0 ≤ c.l ∧ c.l ≤ 256 ∧ 0 ≤ c.w ∧ c.w ≤ 256) (w : World) : Calls Tryz.prog 22 #[.agg c.cells.toArray] w fun e w' => e = .returned (.int .i64 (64 + 4 * c.l + c.w)) ∧ Keep none_ w w' := by
  obtain ⟨W0, hW0⟩ : ∃ W', W' = w.alloc (.cells c.cells.toArray 23) := ⟨_, rfl⟩
  have HK : Hid (Keep none_ w W0) := by rw [hW0]; exact (Keep.refl _ _).alloc _
  have hb : Blk W0 w.heap.size c.cells 23 := by rw [hW0]; exact Blk.new w _ _
  obtain ⟨c0, c1, c2, c3, c4, c5, c6⟩ := c
  simp only [Conf.cells] at *
  have y1 := hb.cell 1 rfl
  have y5 := hb.cell 5 rfl
  have hw1 : IntKind.i64.wrap (4 * c5) = 4 * c5 := IntWalk.i64_in _ (by omega)
  have hw2 : IntKind.i64.wrap (64 + 4 * c5) = 64 + 4 * c5 := IntWalk.i64_in _ (by omega)
  have hw3 : IntKind.i64.wrap (64 + 4 * c5 + c1) = 64 + 4 * c5 + c1 := IntWalk.i64_in _ (by omega)
  have HW := Lib.hid hW0
  clear hb hW0 h
  go_enter Tryz.func22, Tryz.ntmps22
  go_wp2_with fail
  rw [← HW.out]
  go_wp2_with fail
  go_ret
  exact ⟨rfl, HK.out⟩
end Go.Proofs.YtjdnkhljgnjkcaaGreatDoor

/- What Same of the reference 01 tells. -/
namespace Go.Proofs.YtjdnkhljgnjkcaaGreatDoor
open Go.RowKit

theorem getD_of {l : List Int} {j : Nat} (h : j < l.length) : l.getD j 0 = l[j] := by
  rw [List.getD_eq_getElem?_getD, List.getElem?_eq_getElem h]; rfl

set_option maxHeartbeats 400000 in
theorem same_any (a b : Option Addr) (n m c d : Nat) (xs ys : List Int) (w : World) (hx : IntCells .i64 w a n xs) (hy : IntCells .i64 w b m ys) (hn : n ≤ 9223372036854775807) (hm : m ≤ 9223372036854775807) :
    Calls Tryz.prog 24 #[.slice a n c, .slice b m d] w fun e w' => e = .returned (.bool (xs == ys)) ∧ Keep none_ w w' := by
  by_cases hl : n = m
  · subst hl
    have HL : xs.length = n ∧ ys.length = n := ⟨hx.len, hy.len⟩
    have HLL := Lib.hid HL
    clear HL
    go_enter Tryz.func24, Tryz.ntmps24
    go_wp2
    go_loopg [5] n (fun g i wr => ∃ k : Nat, g + k = n ∧ i = .int .i64 k ∧ (∀ j, j < k → xs.getD j 0 = ys.getD j 0) ∧ Keep none_ w wr)
    case atStart => exact ⟨0, by omega, rfl, fun j hj => absurd hj (by omega), Keep.refl _ _⟩
    case round =>
      obtain ⟨k, hg, rfl, hr, hk⟩ := hrel
      by_cases hlt : k < n
      · obtain ⟨ba, oa, rfl, hca⟩ := (hx.below hk).at_ (by omega)
        obtain ⟨bb, ob, rfl, hcb⟩ := (hy.below hk).at_ (by omega)
        have h1 := hca k hlt
        have h2 := hcb k hlt
        have hltI : (k : Int) < (n : Int) := by omega
        have hk0 : (0 : Int) ≤ (k : Int) := by omega
        by_cases he : xs.getD k 0 = ys.getD k 0
        · have HR : Hid (∀ j, j < k + 1 → xs.getD j 0 = ys.getD j 0) := fun j hj => by
            rcases Nat.lt_succ_iff_lt_or_eq.1 hj with h | h
            · exact hr j h
            · rw [h]; exact he
          rw [he] at h1
          generalize ys.getD k 0 = y at h1 h2
          clear hca hcb hr he
          go_wp2
          go_quiet (fail)
          go_wp2
          go_roundg (gk - 1)
          case measure => omega
          case rel => exact ⟨k + 1, by omega, by go_num, HR.out, hk.drewN _⟩
        · have HE : Hid ((xs == ys) = false) := by
            rw [Hid, beq_eq_false_iff_ne]
            intro e
            exact he (by rw [e])
          have hne : (xs.getD k 0 == ys.getD k 0) = false := by simpa using he
          have hne2 : (xs.getD k 0 != ys.getD k 0) = true := by simpa using he
          generalize xs.getD k 0 = x at h1 hne hne2
          generalize ys.getD k 0 = y at h2 hne hne2
          clear hca hcb hr he
          go_wp2
          go_quiet (fail)
          go_wp2
          go_ret
          exact ⟨by rw [HE.out]; rfl, hk.drewN _⟩
      · have HE : Hid ((xs == ys) = true) := by
          rw [Hid, beq_iff_eq]
          apply List.ext_getElem
          · rw [HLL.out.1, HLL.out.2]
          · intro j h1 h2
            have := hr j (by have := HLL.out.1; omega)
            rwa [getD_of h1, getD_of h2] at this
        clear hr
        go_wp2
        go_ret
        exact ⟨by rw [HE.out]; rfl, hk⟩
  · have HE : Hid ((xs == ys) = false) := by
      rw [Hid, beq_eq_false_iff_ne]
      intro e
      apply hl
      rw [← hx.len, ← hy.len, e]
    have h1 : ((n : Int) != m) = true := by simp; omega
    have h2 : ((n : Int) == m) = false := by simp; omega
    go_enter Tryz.func24, Tryz.ntmps24
    go_wp2
    go_ret
    exact ⟨by rw [HE.out]; rfl, Keep.refl _ _⟩
end Go.Proofs.YtjdnkhljgnjkcaaGreatDoor

/- The walk of MutatorStill. -/
namespace Go.Proofs.YtjdnkhljgnjkcaaGreatDoor
open Go.RowKit
attribute [local go_sem] Oper.semAt_some

set_option maxRecDepth 100000 in
set_option maxHeartbeats 16000000 in
theorem mutatorStill_any (z0 : List Value) (a1 : Option Addr) (n1 c1 : Nat) (z1 : List (List Value)) (nn : Int) (w : World) (h0 : FlatOk [.int .i64, .int .i64, .int .i64, .int .i64, .int .i64, .int .i64, .int .i64] z0)
    (h1 : Flats [.int .i64, .int .i64, .int .i64, .int .i64] w a1 n1 z1) (hm1 : n1 ≤ maxLen) (hnil1 : a1 = none → n1 = 0 ∧ c1 = 0) (hmo : (Lit.int .u8 nn).wf = true) (hL : laidMetH Tryz.prog Rows.mutatorStillRow.laid w) :
    Calls Tryz.prog 4 #[.agg z0.toArray, .slice a1 n1 c1, .int .u8 nn] w fun e w' => e = .returned (.bool true) ∧ Keep none_ w w' := by
  have hL' : laidMetH Tryz.prog [("math/bits.deBruijn64tab", Rows.laid_math_bits_deBruijn64tab), ("dustpan/config.limits", Rows.laid_dustpan_config_limits), ("dustpan/class.sizes", Rows.laid_dustpan_class_sizes), ("dustpan/op.kinds", Rows.laid_dustpan_op_kinds)] w := hL
  rw [MakeChecks.laidMetH_plain _ _ _ (by kernel_rfl)] at hL'
  have HT := Lib.hid (tabsM_of (laidMet.tail hL'))
  have HTB := Lib.hid (tabB_of hL')
  clear hL hL'
  unfold maxLen at hm1
  obtain ⟨c, rfl, -⟩ := conf_of h0
  have HLI := Lib.hid (fun W => little_any c W)
  obtain ⟨prog, rfl⟩ := ops_of z1 h1.ok
  have hpl : n1 = prog.length := by have := h1.len; simpa [opCells] using this.symm
  have HREC : Hid (∀ W, Keep none_ w W → RecAt W a1 n1 4 (opCells prog)) := fun W hW => (RecAt.ofFlats h1).below hW
  obtain ⟨mo, hmo1, hmo2⟩ : ∃ mo : Nat, nn = (mo : Int) ∧ mo ≤ 255 := by
    simp [Lit.wf] at hmo
    have h1 : IntKind.u8.min = 0 := by decide
    have h2 : IntKind.u8.max = 255 := by decide
    exact ⟨nn.toNat, by omega, by omega⟩
  subst hmo1
  have HMO := Lib.hid hmo2
  have hcv : IntKind.i64.wrap (mo : Int) = (mo : Int) := IntWalk.i64_in _ (by omega)
  obtain ⟨q, hq⟩ : ∃ q, q = c.little := ⟨_, rfl⟩
  rw [← hq] at HLI
  have hqok : q.ok = true := by rw [hq]; exact little_okM c
  have hqb := ok_bounds hqok
  obtain ⟨b, hb⟩ : ∃ b : Nat, q.b = b := ⟨q.b.toNat, by omega⟩
  obtain ⟨ww, hw⟩ : ∃ b : Nat, q.w = b := ⟨q.w.toNat, by omega⟩
  obtain ⟨nc, hc⟩ : ∃ b : Nat, q.c = b := ⟨q.c.toNat, by omega⟩
  obtain ⟨n, hn⟩ : ∃ b : Nat, q.m = b := ⟨q.m.toNat, by omega⟩
  obtain ⟨s0, hs0⟩ : ∃ s0, s0 = Sh.new q b ww nc n := ⟨_, rfl⟩
  obtain ⟨m0, hm0⟩ : ∃ m0, m0 = MS.new q 0 prog := ⟨_, rfl⟩
  have HAW : Hid (∀ W, Keep none_ w W → Calls Tryz.prog 21 #[] W fun e w' => e = .returned (.bool true) ∧ Hid (Keep none_ W w')) := fun W hW => (awake20_any W (HT.out.keep hW))
  have HSQ : Hid (∀ W, Keep none_ w W → Calls Tryz.prog 7 #[.agg q.cells.toArray] W fun e w' => ∃ G : Geo, e = .returned (.tuple #[.pointer (some ⟨G.S, 0, none⟩), .int .i64 0]) ∧ Hid (ShS W w' G s0) ∧ Hid (Keep none_ W w')) := fun W hW => by
    refine (share_ok q b ww nc n hqok hb hw hc hn W (HT.out.keep hW).t (HT.out.keep hW).s (HT.out.keep hW).g).mono ?_
    rintro e w' ⟨o, G, rfl, g1, g2, _, g4⟩
    refine ⟨G, rfl, ⟨o, by rw [hs0]; exact g1, g2, g4, by rw [hs0]; simp [Sh.new]; omega⟩, g4⟩
  have HNEW : Hid (n1 ≤ 40 → ∀ W1 W G, Keep none_ w W1 → ShS W1 W G s0 → ∀ Bc cs T, Bc < W1.heap.size → Blk W Bc cs T → Calls Tryz.prog 10 #[.pointer (some ⟨G.S, 0, none⟩), .int .i64 0, .slice a1 n1 c1] W fun e w' => ∃ g : MG, e = .returned (.tuple #[.pointer (some ⟨g.M, 0, none⟩), .int .i64 0]) ∧ Hid (SesZ w w' [(Bc, cs, T)] G g s0 m0)) := fun hn40 W1 W G hk1 hs Bc cs T hBl hB => by
    obtain ⟨o, g1, g2, g3, g4⟩ := hs
    have hid0 : 0 < s0.boxes.length := by rw [hs0]; simp [Sh.new]; omega
    refine (mutNew_ok g1 g4 0 hid0 prog n1 hpl (by omega) a1 c1 (HREC.out W (hk1.trans g3)) (fun e => (hnil1 e).2)).mono ?_
    rintro e w' ⟨o', g, rfl, e1, k1, k2, k3⟩
    refine ⟨g, rfl, o', ?_, fun x hx => (e1 x (Nat.lt_of_lt_of_le hx (hk1.trans g3).size)).trans (g2 x (Nat.lt_of_lt_of_le hx hk1.size)), (hk1.trans g3).trans k3, fun z hz => ?_⟩
    · have e9 : s0.H.c = q := by rw [hs0]; rfl
      rw [e9] at k1
      rw [hm0]; exact k1
    · rw [List.mem_singleton] at hz
      subst hz
      exact ⟨(e1 _ hB.lt).trans (g2 _ hBl), k3.blk hB (fun f => f)⟩
  have hok0 : Pok 0 s0 m0 := by rw [hs0, hm0]; exact Pok.first 0 _ (QOk.new _ _ _ _ _) rfl (by omega)
  have hcalm0 : Calm s0 m0 := by
    rw [hs0, hm0]
    refine Calm.first (Bd.new_pend _ _) (fun k => ?_) (by show 16 ≤ ww; omega)
    show ([[], [], [], []] : List (List Int)).getD k [] = []
    match k with
    | 0 => rfl
    | 1 => rfl
    | 2 => rfl
    | 3 => rfl
    | k + 4 => rfl
  have hww0 : s0.H.ww = ww := by rw [hs0]; rfl
  have htodo0 : todo ww m0 = n1 * (ww + 27) := by rw [hm0, hpl]; rfl
  have hmode0 : m0.prog = prog := by rw [hm0]; rfl
  have hrc0 : s0.H.sz ≤ 4000000 := by
    rw [hs0]
    show b * ww + 1 ≤ 4000000
    have h9 : b * ww ≤ 4096 * 256 := Nat.mul_le_mul (by omega) (by omega)
    omega
  obtain ⟨BB, hBB⟩ : ∃ BB : Nat, (BB : Int) = 40 * (64 + 4 * q.l + q.w + 4) := ⟨(40 * (64 + 4 * q.l + q.w + 4)).toNat, by omega⟩
  have hBB2 : 40 * (ww + 27) < BB := by omega
  have hBB3 : BB ≤ 60000 := by omega
  have HOP : Hid (∀ W, Calls Tryz.prog 22 #[.agg q.cells.toArray] W fun e w' => e = .returned (.int .i64 (64 + 4 * q.l + q.w)) ∧ Hid (Keep none_ W w')) := fun W => rOp_any q (by omega) W
  obtain ⟨W0, hW0⟩ : ∃ W', W' = w.alloc (.cells c.cells.toArray 23) := ⟨_, rfl⟩
  have hk0 : Keep none_ w W0 := by rw [hW0]; exact (Keep.refl _ _).alloc _
  have hb0 : Blk W0 w.heap.size c.cells 23 := by rw [hW0]; exact Blk.new w _ _
  have hqm : q.m = (n : Int) := hn
  obtain ⟨c0, cw, c2, c3, c4, c5, c6⟩ := c
  obtain ⟨q0, q1, q2, q3, q4, q5, q6⟩ := q
  simp only [Conf.cells] at HLI hW0 hb0 HSQ HOP hBB ⊢
  have HW0 := Lib.hid hW0
  have HK0 := Lib.hid hk0
  have HB0 := Lib.hid hb0
  have HP0 := Lib.hid hok0
  have HC0 := Lib.hid hcalm0
  have HWW := Lib.hid hww0
  have HTD := Lib.hid htodo0
  have HPG := Lib.hid hmode0
  have HSZ := Lib.hid hrc0
  have HBB := Lib.hid (And.intro hBB2 hBB3)
  have hop1 : IntKind.i64.wrap (64 + 4 * q5 + q1 + 4) = 64 + 4 * q5 + q1 + 4 := IntWalk.i64_in _ (by simp only at hqb hBB; omega)
  have hop2 : IntKind.i64.wrap (40 * (64 + 4 * q5 + q1 + 4)) = (BB : Int) := by rw [← hBB]; exact IntWalk.i64_in _ (by omega)
  have HPL := Lib.hid hpl
  clear h0 h1 hnil1 hmo hq hqok hqb hb hw hc hn hs0 hm0 hok0 hcalm0 hww0 htodo0 hmode0 hrc0 hBB hBB2 hBB3 hW0 hk0 hb0 hqm hpl HREC
  go_enter Tryz.func4, Tryz.ntmps4
  go_wp2_with fail
  rw [← HW0.out]
  refine (HLI.out W0).mono ?_
  rintro e w1 ⟨rfl, k1⟩
  have hb1 := k1.blk HB0.out (fun f => f)
  obtain ⟨W2, hW2⟩ : ∃ W2, W2 = ((((((w1.setCell ⟨w.heap.size, 0, none⟩ (.int .i64 q0)).setCell ⟨w.heap.size, 1, none⟩ (.int .i64 q1)).setCell ⟨w.heap.size, 2, none⟩ (.int .i64 q2)).setCell ⟨w.heap.size, 3, none⟩ (.int .i64 q3)).setCell ⟨w.heap.size, 4, none⟩ (.int .i64 q4)).setCell ⟨w.heap.size, 5, none⟩ (.int .i64 q5)).setCell ⟨w.heap.size, 6, none⟩ (.int .i64 q6) := ⟨_, rfl⟩
  have hb2 : Blk W2 w.heap.size [.int .i64 q0, .int .i64 q1, .int .i64 q2, .int .i64 q3, .int .i64 q4, .int .i64 q5, .int .i64 q6] 23 := by
    rw [hW2]
    exact ((((((hb1.set 0 _).set 1 _).set 2 _).set 3 _).set 4 _).set 5 _).set 6 _
  have k2 : Keep none_ w W2 := by
    rw [hW2]
    have h9 := HK0.out.trans k1
    exact ((((((h9.putNew (Nat.le_refl _) 0 _).putNew (Nat.le_refl _) 1 _).putNew (Nat.le_refl _) 2 _).putNew (Nat.le_refl _) 3 _).putNew (Nat.le_refl _) 4 _).putNew (Nat.le_refl _) 5 _).putNew (Nat.le_refl _) 6 _
  have f0 := hb1.free 0; have f1 := hb1.free 1; have f2 := hb1.free 2; have f3 := hb1.free 3; have f4 := hb1.free 4; have f5 := hb1.free 5; have f6 := hb1.free 6
  have y0 := hb1.cell 0 (v := .int .i64 c0) rfl; have y1 := hb1.cell 1 (v := .int .i64 cw) rfl; have y2 := hb1.cell 2 (v := .int .i64 c2) rfl; have y3 := hb1.cell 3 (v := .int .i64 c3) rfl; have y4 := hb1.cell 4 (v := .int .i64 c4) rfl; have y5 := hb1.cell 5 (v := .int .i64 c5) rfl; have y6 := hb1.cell 6 (v := .int .i64 c6) rfl
  have HW2 := Lib.hid hW2
  have HB2 := Lib.hid hb2
  have HK2 := Lib.hid k2
  clear hb1 hW2 hb2 k2 k1
  by_cases hn40 : n1 ≤ 40
  · have hn40I : (n1 : Int) ≤ 40 := by omega
    have d40 : decide ((40 : Int) < (n1 : Int)) = false := decide_eq_false (by omega)
    have HNW := Lib.hid (HNEW.out hn40)
    have HN40 := Lib.hid hn40
    clear hn40 HNEW
    go_wp2_with fail
    rw [← HW2.out]
    refine (HAW.out W2 HK2.out).mono ?_
    rintro e w3 ⟨rfl, k3⟩
    have hb3 := k3.out.blk HB2.out (fun f => f)
    have hk3 := HK2.out.trans k3.out
    clear f0 f1 f2 f3 f4 f5 f6 y0 y1 y2 y3 y4 y5 y6
    have y0 := hb3.cell 0 (v := .int .i64 q0) rfl; have y1 := hb3.cell 1 (v := .int .i64 q1) rfl; have y2 := hb3.cell 2 (v := .int .i64 q2) rfl; have y3 := hb3.cell 3 (v := .int .i64 q3) rfl; have y4 := hb3.cell 4 (v := .int .i64 q4) rfl; have y5 := hb3.cell 5 (v := .int .i64 q5) rfl; have y6 := hb3.cell 6 (v := .int .i64 q6) rfl
    have HS3 := Lib.hid (HSQ.out w3 hk3)
    have HB3 := Lib.hid hb3
    have HK3 := Lib.hid hk3
    clear k3 hb3 hk3 HAW HSQ HB2
    go_wp2_with fail
    refine HS3.out.mono ?_
    rintro e w4 ⟨G, rfl, h4, k4⟩
    have HN4 := Lib.hid (HNW.out w3 w4 G HK3.out h4.out w.heap.size _ _ HB3.out.lt (k4.out.blk HB3.out (fun f => f)))
    clear y0 y1 y2 y3 y4 y5 y6 h4 k4 HNW HS3
    go_wp2_with fail
    refine HN4.out.mono ?_
    rintro e w5 ⟨g, rfl, h5⟩
    have H5 := Lib.hid h5.out
    clear h5 HN4 HB3
    go_wp2_with fail
    obtain ⟨Z, hZ⟩ : ∃ Z : List (Nat × List Value × TypeId), Z = [(w.heap.size, [.int .i64 q0, .int .i64 q1, .int .i64 q2, .int .i64 q3, .int .i64 q4, .int .i64 q5, .int .i64 q6], 23)] := ⟨_, rfl⟩
    rw [← hZ] at H5
    have HZ : Hid (∀ V s' m' Z', SesZ w V (Z' ++ Z) G g s' m' → Blk V w.heap.size [.int .i64 q0, .int .i64 q1, .int .i64 q2, .int .i64 q3, .int .i64 q4, .int .i64 q5, .int .i64 q6] 23) := fun V s' m' Z' h => h.blk (z := (w.heap.size, _, _)) (by rw [hZ]; simp)
    have HTD0 : Hid (todo ww m0 + 0 ≤ 40 * (ww + 27)) := by
      rw [Hid, HTD.out, Nat.add_zero]
      exact Nat.mul_le_mul_right _ HN40.out
    have HPL0 : Hid (m0.prog.length = n1) := by rw [Hid, HPG.out]; exact HPL.out.symm
    clear hZ HTD HPG HPL HN40
    go_loopw [11] (fun i wr => ∃ (k : Nat) (s' : Sh) (m' : MS), i = .int .i64 k ∧ SesZ w wr Z G g s' m' ∧ Pok k s' m' ∧ Calm s' m' ∧ s'.H.ww = ww ∧ m'.prog.length = n1 ∧ todo ww m' + k ≤ 40 * (ww + 27)) (fun i _ => BB - (intOf i).toNat)
    case atStart => exact ⟨0, s0, m0, rfl, H5.out, HP0.out, HC0.out, HWW.out, HPL0.out, HTD0.out⟩
    case round =>
      obtain ⟨k, s', m', rfl, hs, hp, hc, hw', hpl', htd⟩ := hrel
      clear H5 HP0 HC0 HWW HPL0 HTD0
      have hkB : k < BB ∧ k ≤ 60000 := by have := HBB.out; omega
      have hkI : (k : Int) < (BB : Int) := by omega
      have hB := HZ.out wr s' m' [] hs
      have y0 := hB.cell 0 (v := .int .i64 q0) rfl; have y1 := hB.cell 1 (v := .int .i64 q1) rfl; have y2 := hB.cell 2 (v := .int .i64 q2) rfl; have y3 := hB.cell 3 (v := .int .i64 q3) rfl; have y4 := hB.cell 4 (v := .int .i64 q4) rfl; have y5 := hB.cell 5 (v := .int .i64 q5) rfl; have y6 := hB.cell 6 (v := .int .i64 q6) rfl
      have HDN : Hid (∀ V, SesZ w V Z G g s' m' → Calls Tryz.prog 20 #[.pointer (some ⟨g.M, 0, none⟩)] V fun e w' => e = .returned (.bool (doneM m')) ∧ SesZ w w' Z G g s' m') := fun V h => h.done
      have HS := Lib.hid hs
      clear hs hB
      cases hd : doneM m' with
      | false =>
        rw [hd] at HDN
        obtain ⟨hcm, hww, htd2⟩ := pick_calm hp hc hd
        have hpk := pick_ok hp
        rw [hw'] at htd2 hww
        have HNX : Hid (Pok (k + 1) (pickM s' m').1 (pickM s' m').2.1 ∧ Calm (pickM s' m').1 (pickM s' m').2.1 ∧ (pickM s' m').1.H.ww = ww ∧ (pickM s' m').2.1.prog.length = n1 ∧ todo ww (pickM s' m').2.1 + (k + 1) ≤ 40 * (ww + 27)) := ⟨hpk.1, hcm, hww, by rw [hpk.2.2.2.1]; exact hpl', by omega⟩
        have HPK : Hid (∀ V, SesZ w V Z G g s' m' → Calls Tryz.prog 11 #[.pointer (some ⟨g.M, 0, none⟩)] V fun e w' => (∃ v, e = .returned v) ∧ SesZ w w' Z G g (pickM s' m').1 (pickM s' m').2.1) := fun V h => h.pick hp (by omega)
        generalize (pickM s' m').1 = s2 at *
        generalize (pickM s' m').2.1 = m2 at *
        have hwk : IntKind.i64.wrap ((k : Int) + 1) = (k : Int) + 1 := IntWalk.i64_in _ (by omega)
        have HKB := Lib.hid hkB
        clear hp hc hw' hpl' htd hcm hww htd2 hpk hd hkB
        go_wp2_with fail
        refine (HOP.out _).mono ?_
        rintro e w6 ⟨rfl, k6⟩
        have HD6 := Lib.hid (HDN.out w6 (HS.out.still k6.out))
        clear k6 HDN HS y0 y1 y2 y3 y4 y5 y6
        go_wp2_with fail
        refine HD6.out.mono ?_
        rintro e w7 ⟨rfl, h7⟩
        have HP7 := Lib.hid (HPK.out w7 h7)
        clear h7 HPK HD6
        go_wp2_with fail
        refine HP7.out.mono ?_
        rintro e w8 ⟨⟨v, rfl⟩, h8⟩
        have H8 := Lib.hid h8
        clear h8 HP7
        go_wp2_with fail
        go_roundw
        case rel => exact ⟨k + 1, s2, m2, by go_num, H8.out, HNX.out⟩
        case measure => have := HKB.out; simp [intOf] <;> omega
      | true =>
        rw [hd] at HDN
        have HC := Lib.hid (And.intro hp (And.intro hc hd))
        have HPL2 := Lib.hid hpl'
        clear hp hc hw' hpl' htd hd
        go_wp2_with fail
        refine (HOP.out _).mono ?_
        rintro e w6 ⟨rfl, k6⟩
        have HD6 := Lib.hid (HDN.out w6 (HS.out.still k6.out))
        clear k6 HDN HS y0 y1 y2 y3 y4 y5 y6
        go_wp2_with fail
        refine HD6.out.mono ?_
        rintro e w7 ⟨rfl, h7⟩
        have HSX := Lib.hid h7
        have s7 := h7.sh.1
        clear h7 HD6
        go_wp2_with fail
        go_region_held3 (fun W' => W'.cell? ⟨G.S, 0, none⟩ = some (.pointer (some ⟨G.D 0, 0, none⟩)))
          (first
            | exact HSX.out.sh.1
            | exact (HSX.out.still ((Keep.refl none_ _).drew)).sh.1
            | fail "SFAIL")
          (first
            | (go_at_call 13
               refine (SesZ.regs (by first | exact HSX.out | exact HSX.out.still ((Keep.refl none_ _).drew))).mono ?_
               rintro e w8 ⟨vr, Zr, rfl, hs8, hr8, _⟩
               obtain ⟨ar, cr, rfl, -⟩ := hs8.rowAt (hr8.more (fun z hz => List.mem_append_left _ hz))
               have HSX := Lib.hid hs8
               have HRR := Lib.hid hr8
               clear hs8 hr8)
            | (go_at_call 23
               refine (SesZ.objs (by first | exact HSX.out | exact HSX.out.still ((Keep.refl none_ _).drew)) HTB.out).mono ?_
               rintro e w8 ⟨vo, Zo, rfl, hs8, hr8, _⟩
               obtain ⟨ao, co, rfl, -⟩ := hs8.rowAt (hr8.more (fun z hz => List.mem_append_left _ hz))
               have HSX := Lib.hid hs8
               have HRO := Lib.hid hr8
               clear hs8 hr8)
            | fail "CFAIL")
        obtain ⟨Z9, hZ9⟩ : ∃ Z9, Z9 = Zo ++ (Zr ++ Z) := ⟨_, rfl⟩
        have H9 : Hid (SesZ w w8 Z9 G g s' m') := by rw [hZ9]; exact HSX.out
        have HRR9 : Hid (RowZ Z9 (.slice ar m'.regs.length cr) m'.regs) := HRR.out.more (fun z hz => by rw [hZ9]; simp [hz])
        have HRO9 : Hid (RowZ Z9 (.slice ao s'.H.objs.length co) s'.H.objs) := HRO.out.more (fun z hz => by rw [hZ9]; simp [hz])
        clear HSX HRR HRO hZ9 s7
        have hrl : m'.regs.length ≤ 9223372036854775807 ∧ s'.H.objs.length ≤ 9223372036854775807 := by
          obtain ⟨_, ⟨_, _, hma, _⟩, _⟩ := H9.out
          have h1 := hma.rle
          have h2 := setL_len s'.H.bn s'.H.sz
          have h3 := hma.sh.heap.nat
          refine ⟨by omega, ?_⟩
          show (setL s'.H.bn s'.H.sz).length ≤ _
          have h4 : s'.H.sz = s'.H.b * s'.H.ww + 1 := rfl
          omega
        have HRL := Lib.hid hrl
        have HSAME : Hid (∀ V a1 a2 c1 c2 (l : List Nat), l.length ≤ 9223372036854775807 → IntCells .i64 V a1 l.length (l.map fun x : Nat => (x : Int)) → IntCells .i64 V a2 l.length (l.map fun x : Nat => (x : Int)) → Calls Tryz.prog 24 #[.slice a1 l.length c1, .slice a2 l.length c2] V fun e w' => e = .returned (.bool true) ∧ Keep none_ V w') := fun V a1 a2 c1 c2 l hl h1 h2 => by
          refine (same_any a1 a2 _ _ c1 c2 _ _ V h1 h2 hl hl).mono ?_
          rintro e w' ⟨rfl, k⟩
          exact ⟨by simp, k⟩
        have HKB := Lib.hid hkB
        clear hrl hkB
        go_wp2_with fail
        go_loopw [14, 15, 16] (fun i _ _ wr => ∃ (j : Nat) (m2 : MS), j ≤ mo ∧ i = .int .i64 j ∧ SesZ w wr Z9 G g s' m2 ∧ Pok (k + j) s' m2 ∧ Calm s' m2 ∧ doneM m2 = true ∧ m2.regs = m'.regs ∧ m2.prog.length = n1) (fun i _ _ _ => mo - (intOf i).toNat)
        case atStart => exact ⟨0, m', Nat.zero_le _, rfl, H9.out, HC.out.1, HC.out.2.1, HC.out.2.2, rfl, HPL2.out⟩
        case round =>
          obtain ⟨j, m2, hj, rfl, hs, hp, hc, hd, hrg, hpl2⟩ := hrel
          clear H9 HC HPL2
          have hres : m2.res.length = n1 := by
            unfold doneM at hd
            rw [Bool.and_eq_true] at hd
            rw [← hpl2]; exact of_decide_eq_true hd.2
          by_cases hlt : j < mo
          · have hltI : (j : Int) < (mo : Int) := by omega
            obtain ⟨m3, e3, p3, q3, d3, r3, r4, r5, r6, r7⟩ := calm_still hp hc hd
            have hN : k + j ≤ 1000000 := by have := HKB.out; have := HMO.out; omega
            have HPK : Hid (Calls Tryz.prog 11 #[.pointer (some ⟨g.M, 0, none⟩)] wr fun e w' => e = .returned (.tuple #[.agg zero6, .bool false]) ∧ SesZ w w' Z9 G g s' m3) := by
              have h9 := hs.pickE hp hN
              rw [e3] at h9
              exact h9
            have hnx : isNil m3.next = true := by
              unfold doneM at d3
              rw [Bool.and_eq_true] at d3; exact d3.1
            have HBZ : Hid (∀ V, SesZ w V Z9 G g s' m3 → Calls Tryz.prog 19 #[.pointer (some ⟨g.M, 0, none⟩)] V fun e w' => e = .returned (.bool false) ∧ V = w') := fun V hV => by
              have h9 := hV.busy
              rw [hnx] at h9
              exact h9
            have HN3 : Hid (Pok (k + (j + 1)) s' m3 ∧ Calm s' m3 ∧ doneM m3 = true ∧ m3.regs = m'.regs ∧ m3.prog.length = n1) := ⟨p3, q3, d3, by rw [r3]; exact hrg, by rw [r6]; exact hpl2⟩
            have hwj : IntKind.i64.wrap ((j : Int) + 1) = (j : Int) + 1 := IntWalk.i64_in _ (by have := HMO.out; omega)
            clear hs hp hc hd hrg hpl2 hres e3 p3 q3 d3 r3 r4 r5 r6 r7 hN hnx
            go_wp2_with fail
            refine HPK.out.mono ?_
            rintro e w9 ⟨rfl, h9⟩
            obtain ⟨W9, hW9⟩ : ∃ W9, W9 = w9.alloc (.cells zero6 35) := ⟨_, rfl⟩
            have hb9 : Blk W9 w9.heap.size zero6.toList 35 := by rw [hW9]; exact Blk.new w9 _ _
            have h99 : SesZ w W9 Z9 G g s' m3 := h9.still (by rw [hW9]; exact (Keep.refl _ _).alloc _)
            have HB9 := Lib.hid (HBZ.out W9 h99)
            have H99 := Lib.hid h99
            have HW9 := Lib.hid hW9
            have z0 := hb9.cell 0 (v := .int .i64 0) rfl; have z1 := hb9.cell 1 (v := .int .i64 0) rfl; have z2 := hb9.cell 2 (v := .int .i64 0) rfl; have z3 := hb9.cell 3 (v := .int .i64 0) rfl; have z4 := hb9.cell 4 (v := .int .i64 0) rfl; have z5 := hb9.cell 5 (v := .int .i64 0) rfl
            clear h9 h99 hb9 hW9 HPK HBZ
            go_wp2_with fail
            rw [← HW9.out]
            refine HB9.out.mono ?_
            rintro e w10 ⟨rfl, rfl⟩
            clear z0 z1 z2 z3 z4 z5 HB9
            go_wp2_with fail
            go_roundw
            case rel => exact ⟨j + 1, m3, by omega, by go_num, H99.out, HN3.out⟩
            case measure => simp [intOf] <;> omega
          · obtain rfl : j = mo := by omega
            have hnlt : ¬ (j : Int) < (j : Int) := by omega
            have HDN : Hid (Calls Tryz.prog 20 #[.pointer (some ⟨g.M, 0, none⟩)] wr fun e w' => e = .returned (.bool true) ∧ SesZ w w' Z9 G g s' m2) := by
              have h9 := hs.done
              rw [hd] at h9
              exact h9
            have HRG : Hid (∀ V, SesZ w V Z9 G g s' m2 → Calls Tryz.prog 13 #[.pointer (some ⟨g.M, 0, none⟩)] V fun e w' => ∃ a c, e = .returned (.slice a m'.regs.length c) ∧ SesZ w w' Z9 G g s' m2 ∧ IntCells .i64 w' a m'.regs.length (m'.regs.map fun x : Nat => (x : Int)) ∧ IntCells .i64 w' ar m'.regs.length (m'.regs.map fun x : Nat => (x : Int))) := fun V hV => by
              refine hV.regs.mono ?_
              rintro e w' ⟨v, Zr, rfl, h1, h2, k2⟩
              obtain ⟨a, c, rfl, h3⟩ := h1.rowAt (h2.more (fun z hz => List.mem_append_left _ hz))
              have h4 := hV.still k2
              obtain ⟨a2, c2, e2, h5⟩ := h4.rowAt HRR9.out
              cases e2
              rw [hrg] at h3
              exact ⟨a, c, by rw [hrg], h4, h3, h5⟩
            have HOB : Hid (∀ V, SesZ w V Z9 G g s' m2 → Calls Tryz.prog 23 #[.pointer (some ⟨G.D 0, 0, none⟩)] V fun e w' => ∃ a c, e = .returned (.slice a s'.H.objs.length c) ∧ SesZ w w' Z9 G g s' m2 ∧ IntCells .i64 w' a s'.H.objs.length (s'.H.objs.map fun x : Nat => (x : Int)) ∧ IntCells .i64 w' ao s'.H.objs.length (s'.H.objs.map fun x : Nat => (x : Int))) := fun V hV => by
              refine (hV.objs HTB.out).mono ?_
              rintro e w' ⟨v, Zr, rfl, h1, h2, k2⟩
              obtain ⟨a, c, rfl, h3⟩ := h1.rowAt (h2.more (fun z hz => List.mem_append_left _ hz))
              have h4 := hV.still k2
              obtain ⟨a2, c2, e2, h5⟩ := h4.rowAt HRO9.out
              cases e2
              exact ⟨a, c, rfl, h4, h3, h5⟩
            have HRS : Hid (∀ V, SesZ w V Z9 G g s' m2 → Calls Tryz.prog 18 #[.pointer (some ⟨g.M, 0, none⟩)] V fun e w' => (∃ a c, e = .returned (.slice a n1 c)) ∧ SesZ w w' Z9 G g s' m2) := fun V hV => by
              have h9 := hV.results (by rw [hres]; omega)
              rw [hres] at h9
              exact h9
            have HMD : Hid (∀ V, SesZ w V Z9 G g s' m2 → Calls Tryz.prog 15 #[.pointer (some ⟨g.M, 0, none⟩)] V fun e w' => e = .returned (.int .i64 0) ∧ V = w') := fun V hV => by
              have h9 := hV.mode
              rw [hc.s.mode] at h9
              exact h9
            have HRLA := HRL.out.1
            have HRLB := HRL.out.2
            have HLA := Lib.hid HRLA
            have HLB := Lib.hid HRLB
            clear hs hp hc hd hrg hpl2 hres hlt HRLA HRLB HRL
            generalize m'.regs = rl at *
            generalize s'.H.objs = ol at *
            go_wp2_with fail
            refine HDN.out.mono ?_
            rintro e w9 ⟨rfl, h9⟩
            have HR9 := Lib.hid (HRG.out w9 h9)
            clear h9 HDN HRG
            go_wp2_with fail
            refine HR9.out.mono ?_
            rintro e w10 ⟨a3, c3, rfl, h10, i3, i4⟩
            have HS10 := Lib.hid (HSAME.out w10 a3 ar c3 cr rl HLA.out i3 i4)
            have H10 := Lib.hid h10
            clear h10 i3 i4 HR9
            go_wp2_with fail
            refine HS10.out.mono ?_
            rintro e w11 ⟨rfl, k11⟩
            have h11 := H10.out.still k11
            have s11 := h11.sh.1
            have HO11 := Lib.hid (HOB.out w11 h11)
            clear h11 k11 H10 HS10 HOB
            go_wp2_with fail
            refine HO11.out.mono ?_
            rintro e w12 ⟨a4, c4', rfl, h12, i3, i4⟩
            have HS12 := Lib.hid (HSAME.out w12 a4 ao c4' co ol HLB.out i3 i4)
            have H12 := Lib.hid h12
            clear h12 i3 i4 HO11 s11
            go_wp2_with fail
            refine HS12.out.mono ?_
            rintro e w13 ⟨rfl, k13⟩
            have HR13 := Lib.hid (HRS.out w13 (H12.out.still k13))
            clear k13 HS12 H12 HRS
            go_wp2_with fail
            refine HR13.out.mono ?_
            rintro e w14 ⟨⟨a5, c5', rfl⟩, h14⟩
            have HM14 := Lib.hid (HMD.out w14 h14)
            have H14 := Lib.hid h14
            clear h14 HR13 HMD
            go_wp2_with fail
            refine HM14.out.mono ?_
            rintro e w15 ⟨rfl, rfl⟩
            go_wp2_with fail
            go_ret
            exact ⟨rfl, H14.out.keep⟩
  · have hn40I : (40 : Int) < (n1 : Int) := by omega
    have d40 : decide ((40 : Int) < (n1 : Int)) = true := decide_eq_true hn40I
    clear hn40 HNEW HSQ HOP
    go_wp2_with fail
    rw [← HW2.out]
    refine (HAW.out W2 HK2.out).mono ?_
    rintro e w3 ⟨rfl, k3⟩
    go_wp2_with fail
    go_ret
    exact ⟨rfl, HK2.out.trans k3.out⟩
end Go.Proofs.YtjdnkhljgnjkcaaGreatDoor
