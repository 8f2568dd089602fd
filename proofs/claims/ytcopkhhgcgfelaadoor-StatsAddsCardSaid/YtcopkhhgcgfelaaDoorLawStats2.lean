/- The walk of StatsTotals. -/
import Derived.Test.YtcopkhhgcgfelaaDoorLawStats1
import Derived.Test.YtcopkhhgcgfelaaDoorStats6
import Derived.Test.YtcopkhhgcgfelaaDoorStats7
import Derived.Deep.CutBlock
import Derived.Deep.MidRow
import Derived.ChangeKeysEq
import Derived.Deep.DeepCutAuto
namespace Go.Proofs.YtcopkhhgcgfelaaDoor
open Go.RowKit

theorem Blk.drewN {w : World} {B : Nat} {cs : List Value} {T : TypeId} (h : Blk w B cs T) (n : Nat) : Blk (w.drewN n) B cs T := h
theorem Keep.range {w w' : World} {b o : Nat} {cs : List Value} (k : Keep none_ w w') (h : w.rangeAt b o cs) : w'.rangeAt b o cs := fun j v hv => k.still (h j v hv)
theorem Blk.range {w : World} {B : Nat} {cs : List Value} {T : TypeId} (h : Blk w B cs T) : w.rangeAt B 0 cs := fun j v hv => by rw [Nat.zero_add]; exact h.cell j hv
theorem run_eql_self {P : Program} (T e : TypeId) (n : Nat) {i : TypeInfo} (hu : P.underlying T = some (.array n e)) (hi : P.info? e = some i) (he : P.underlying e = some (.int .i64)) (hc : P.cellsOf e = 1) (xs : List Int) (hx : xs.length = n) (d : Nat) (w : World) :
    (Op.equalIn (d + 2) T (.agg (xs.map (Value.int .i64)).toArray) (.agg (xs.map (Value.int .i64)).toArray)).run P w = .ok true w := by
  rw [run_equalIn_array w (d + 1) _ _ hu hi, hc]
  have hl : ∀ i ∈ List.range n, i < n := fun i hi => by simpa using hi
  generalize List.range n = l at hl ⊢
  induction l with
  | nil => simp [Op.eqItems]
  | cons i l ih =>
    have hi : i < n := hl i (by simp)
    have px : (part e (xs.map (Value.int .i64)).toArray (i * 1)).run P w = .ok (.int .i64 (xs.getD i 0)) w := by
      simp [part, isAgg, run_underlying he, List.getD, List.getElem?_eq_getElem (show i < xs.length by omega)]
    have pe : (Op.equalIn (d + 1) e (.int .i64 (xs.getD i 0)) (.int .i64 (xs.getD i 0))).run P w = .ok true w := by
      rw [run_equalIn_int w d e .i64 .i64 _ _ he]; simp
    simp only [Op.eqItems, Sem.run_bind, px, pe, Result.andThen_ok]
    simpa using ih fun j hj => hl j (by simp [hj])
theorem Tryd.infoInt26 : (Tryd.prog.info? 3).map (fun i => (i.zero, i.size, i.bytes)) = some (some (.int .i64 0), 1, 8) := by kernel_rfl
def Sm.cells (s : Sm) : List Value := [.int .i64 s.ops, .int .i64 s.errs, .int .i64 s.allocs, .int .i64 s.freed, .int .i64 s.cycles, .int .i64 s.full]
/-- The state behind k events. -/
structure ST (w W : World) (s : Sm) (cs : List Value) : Prop where
  sum : Blk W w.heap.size s.cells 40
  cod : Blk W (w.heap.size + 1) cs 41
  keep : Keep none_ w W
theorem ST.alloc {w W : World} {s : Sm} {cs : List Value} (h : ST w W s cs) (o : Obj) : ST w (W.alloc o) s cs := ⟨h.sum.alloc _, h.cod.alloc _, h.keep.alloc _⟩
theorem ST.drewN {w W : World} {s : Sm} {cs : List Value} (h : ST w W s cs) (n : Nat) : ST w (W.drewN n) s cs := ⟨h.sum, h.cod, h.keep.drewN n⟩
theorem ST.put {w W : World} {s s' : Sm} {cs : List Value} (h : ST w W s cs) (i : Nat) (v : Value) (e : s.cells.set i v = s'.cells) : ST w (W.setCell ⟨w.heap.size, i, none⟩ v) s' cs :=
  ⟨e ▸ h.sum.set i v, h.cod.other (by simp) v, h.keep.putNew (Nat.le_refl _) _ _⟩
theorem ST.putC {w W : World} {s : Sm} {cs cs' : List Value} (h : ST w W s cs) (i : Nat) (v : Value) (e : cs.set i v = cs') : ST w (W.setCell ⟨w.heap.size + 1, i, none⟩ v) s cs' :=
  ⟨h.sum.other (by simp) v, e ▸ h.cod.set i v, h.keep.putNew (Nat.le_succ _) _ _⟩

set_option maxRecDepth 100000 in
set_option maxHeartbeats 16000000 in
theorem statsTotals_any (pa : Option Addr) (pn pc : Nat) (pp : List (List Int)) (a0 : Option Addr) (n0 c0 : Nat) (z0 : List (List Value)) (w : World) (hp : Progs w pa pn pp) (hpm : pn ≤ maxLen) (hw0 : Flats [.int .i64, .int .i64, .int .i64, .int .i64, .int .i64, .int .i64] w a0 n0 z0) (hm0 : n0 ≤ maxLen) (hL : laidMetH Tryd.prog Rows.statsTotalsRow.laid w) :
    Calls Tryd.prog 5 #[.slice pa pn pc, .slice a0 n0 c0] w fun e w' => e = .returned (.bool true) ∧ Keep none_ w w' := by
  unfold maxLen at hm0 hpm
  have HT := Lib.hid (tab_of hL)
  clear hL
  by_cases hbig : 10 < pn
  · clear hw0 hp
    go_enter Tryd.func5, Tryd.ntmps5
    go_wp2_with (go_at_call 7; refine (awake26_any _ HT.out).mono ?_; rintro e w1 ⟨rfl, hk⟩)
    go_ret
    exact ⟨rfl, hk⟩
  by_cases hbig2 : 200 < n0
  · clear hw0 hp
    go_enter Tryd.func5, Tryd.ntmps5
    go_wp2_with (go_at_call 7; refine (awake26_any _ HT.out).mono ?_; rintro e w1 ⟨rfl, hk⟩)
    go_ret
    exact ⟨rfl, hk⟩
  obtain ⟨l, rfl, hwf⟩ := list_of (f := Ev.cells) (P := Ev.wf) (fun r h => ev_of h) z0 hw0.ok
  have HR := Lib.hid (RecAt.ofFlats hw0)
  have HW := Lib.hid hwf
  have HL : Hid (l.length = n0) := by have := hw0.len; simpa [Hid] using this
  have HP := Lib.hid hp
  have HS0 : Hid (ST w ((w.alloc (.cells #[.int .i64 0, .int .i64 0, .int .i64 0, .int .i64 0, .int .i64 0, .int .i64 0] 40)).alloc (.cells #[.int .i64 0, .int .i64 0, .int .i64 0, .int .i64 0, .int .i64 0, .int .i64 0, .int .i64 0, .int .i64 0, .int .i64 0, .int .i64 0, .int .i64 0, .int .i64 0, .int .i64 0, .int .i64 0, .int .i64 0] 41)) (tot pp []) (cods [])) :=
    ⟨(Blk.new w _ _).alloc _, by have := Blk.new (w.alloc (.cells #[.int .i64 0, .int .i64 0, .int .i64 0, .int .i64 0, .int .i64 0, .int .i64 0] 40)) [.int .i64 0, .int .i64 0, .int .i64 0, .int .i64 0, .int .i64 0, .int .i64 0, .int .i64 0, .int .i64 0, .int .i64 0, .int .i64 0, .int .i64 0, .int .i64 0, .int .i64 0, .int .i64 0, .int .i64 0] 41; rw [cods_nil]; simpa using this, ((Keep.refl _ _).alloc _).alloc _⟩
  clear hw0 hwf hp
  go_enter Tryd.func5, Tryd.ntmps5
  go_wp2_with fail
  go_loopg [7] n0 (fun g i wr => ∃ k : Nat, g + k = n0 ∧ i = .int .i64 k ∧ Hid (ST w wr (tot pp (l.take k)) (cods (l.take k))))
  case atStart => exact ⟨0, by omega, rfl, HS0⟩
  case round =>
    clear HS0
    obtain ⟨k, hg, rfl, HST⟩ := hrel
    by_cases hlt : k < n0
    · obtain ⟨b, off, rfl, ev, hc, g0, g1, g2, g3, g4, g5⟩ := evCells (HR.out.below HST.out.keep) k hlt
      have hkl : k < l.length := by rw [HL.out]; exact hlt
      have hs := tot_snoc pp l k hkl
      have hu := tot_upto pp l k (by omega)
      have hck : l[k] = ev := by
        rw [List.getElem?_eq_getElem hkl] at hc; simpa using hc
      rw [hck] at hs
      have HS := Lib.hid hs
      have HWF := Lib.hid (HW.out ev (hck ▸ List.getElem_mem _)).2.2.2.1
      have HCK := Lib.hid hck
      have HYES := Lib.hid (cods_yes l k hkl)
      have HNO := Lib.hid (cods_no l k hkl)
      have HCL : Hid (∀ c, cnt (l.take k) c ≤ 1000) := fun c => by
        have := cnt_le (l.take k) c
        have := List.length_take_le k l
        omega
      clear hs hc hck
      generalize tot pp (l.take k) = s at *
      obtain ⟨ep, ew, ek, eo, ec, ex⟩ := ev
      simp only at g0 g1 g2 g3 g4 g5 HWF
      obtain ⟨so, se, sa, sf, sc, su⟩ := s
      obtain ⟨u1, u2, u3, u4, u5, u6, u7, u8, u9, u10, u11, u12⟩ := hu
      simp only at u1 u2 u3 u4 u5 u6 u7 u8 u9 u10 u11 u12
      have hE1 : wr.heap.size ≠ w.heap.size + 1 := by have := HST.out.cod.lt; omega
      have hE0 : wr.heap.size ≠ w.heap.size := by have := HST.out.cod.lt; omega
      have hE2 : w.heap.size + 1 ≠ wr.heap.size := fun e => hE1 e.symm
      have hE3 : w.heap.size ≠ wr.heap.size := fun e => hE0 e.symm
      obtain ⟨W0, hW0⟩ : ∃ W0, W0 = wr.alloc (.cells #[.int .i64 ep, .int .i64 ew, .int .i64 ek, .int .i64 eo, .int .i64 ec, .int .i64 ex] 44) := ⟨_, rfl⟩
      have HE0 : Hid (Blk W0 wr.heap.size [.int .i64 ep, .int .i64 ew, .int .i64 ek, .int .i64 eo, .int .i64 ec, .int .i64 ex] 44) := by rw [hW0]; exact Blk.new _ _ _
      have HT0 : Hid (ST w W0 ⟨so, se, sa, sf, sc, su⟩ (cods (l.take k))) := by rw [hW0]; exact HST.out.alloc _
      have HW0 := Lib.hid hW0
      clear hW0 HST
      go_upto_region 9 with fail
      rw [← HW0.out]
      clear HW0 g0 g1 g2 g3 g4 g5
      generalize wr.heap.size = E at *
      have d0 := HT0.out.sum.cell 0 rfl; have d1 := HT0.out.sum.cell 1 rfl; have d2 := HT0.out.sum.cell 2 rfl; have d3 := HT0.out.sum.cell 3 rfl; have d4 := HT0.out.sum.cell 4 rfl; have d5 := HT0.out.sum.cell 5 rfl
      have z0 := HT0.out.sum.free 0; have z1 := HT0.out.sum.free 1; have z2 := HT0.out.sum.free 2; have z3 := HT0.out.sum.free 3; have z4 := HT0.out.sum.free 4; have z5 := HT0.out.sum.free 5
      have e0 := HE0.out.cell 0 rfl; have e1 := HE0.out.cell 1 rfl; have e2 := HE0.out.cell 2 rfl; have e3 := HE0.out.cell 3 rfl; have e4 := HE0.out.cell 4 rfl; have e5 := HE0.out.cell 5 rfl
      simp only at d0 d1 d2 d3 d4 d5
      rcases (show ek = 5 ∨ ek = 2 ∨ ek = 1 ∨ (ek ≠ 5 ∧ ek ≠ 2 ∧ ek ≠ 1) by omega) with rfl | rfl | rfl | ⟨h5, h2, h1⟩
      · have _ := hlt
        as_aux_lemma =>
  
          have HE9 : Hid (Sm.step pp ⟨so, se, sa, sf, sc, su⟩ ⟨ep, ew, 5, eo, ec, ex⟩ = ⟨so, se, sa, sf + 1, sc, su⟩) := by
            skip
            simp [Hid, Sm.step, b1, ]
          go_wp2_with fail
          have HCN := Lib.hid (HNO.out (.inl (by rw [HCK.out]; simp)))
          go_roundg (gk - 1)
          case measure => omega
          case rel => exact ⟨k + 1, by omega, by go_num, by rw [HS.out, HE9.out, HCN.out]; exact (HT0.out.put (s' := ⟨so, se, sa, sf + 1, sc, su⟩) 3 (.int .i64 (sf + 1)) rfl)⟩
      · have _ := hlt
        as_aux_lemma =>
  
          have HE9 : Hid (Sm.step pp ⟨so, se, sa, sf, sc, su⟩ ⟨ep, ew, 2, eo, ec, ex⟩ = ⟨so, se, sa, sf, sc + 1, su⟩) := by
            skip
            simp [Hid, Sm.step, b1, ]
          go_wp2_with fail
          have HCN := Lib.hid (HNO.out (.inl (by rw [HCK.out]; simp)))
          go_roundg (gk - 1)
          case measure => omega
          case rel => exact ⟨k + 1, by omega, by go_num, by rw [HS.out, HE9.out, HCN.out]; exact (HT0.out.put (s' := ⟨so, se, sa, sf, sc + 1, su⟩) 4 (.int .i64 (sc + 1)) rfl)⟩
      · have _ := hlt
        rcases (show ec = 0 ∨ ec = 10 ∨ (ec ≠ 0 ∧ ec ≠ 10 ∧ 0 ≤ ec ∧ ec < 15) ∨ (ec < 0) ∨ (15 ≤ ec) by omega) with rfl | rfl | ⟨n0', n10, hc0, hc15⟩ | hcn | hcp
        · have dc := HT0.out.cod.cell 0 (cods_get _ 0 (by decide)); have zc := HT0.out.cod.free 0; have hcl := HCL.out 0
          have HY0 := Lib.hid (HYES.out 0 (by rw [HCK.out]) (by rw [HCK.out]; rfl) (by decide))
          generalize cnt (l.take k) 0 = q at *
          by_cases a1 : 0 ≤ ew
          · by_cases a2 : ew < pn
            · obtain ⟨q1, rfl⟩ : ∃ q1 : Nat, ew = q1 := ⟨ew.toNat, by omega⟩
              obtain ⟨pb, poff, rfl, hpc⟩ := (HP.out.below HT0.out.keep).at_ (by omega)
              obtain ⟨pb', poff', epb, hpc0⟩ := HP.out.at_ (by omega)
              have hpl := HP.out.len
              have hks : pp[q1]? = some (pp[q1]'(by omega)) := List.getElem?_eq_getElem _
              obtain ⟨ra, rc, c1, hkl1, hcell⟩ := hpc q1 _ hks
              obtain ⟨ra', rc', c1', _, hcell'⟩ := hpc0 q1 _ hks
              have HD : Hid (pp.getD (q1 : Int).toNat [] = pp[q1]'(by omega)) := by unfold Hid; rw [Int.toNat_natCast, List.getD_eq_getElem?_getD, hks]; rfl
              have HPL : Hid (pp.length = pn) := hpl
              have hpb : pb < w.heap.size := by injection epb with e; injection e with e _; rw [e]; exact World.block_lt_of_cell? _ _ c1'
              have hra : ra = ra' := by
                injection epb with e; injection e with e e2
                rw [e, e2] at c1
                have := HT0.out.keep.still c1'
                rw [c1] at this
                injection this with this; injection this
              have hb0 : pb ≠ w.heap.size := by omega
              have hb1 : pb ≠ w.heap.size + 1 := by omega
              have hb2 : w.heap.size ≠ pb := by omega
              have hb3 : w.heap.size + 1 ≠ pb := by omega
              clear hpc hks epb hpc0 c1'
              generalize pp[q1]'(by omega) = ks at *
              clear hpl
              have hq1 : (q1 : Int) < (pn : Int) := by omega
              by_cases a3 : 0 ≤ eo
              · by_cases a4 : eo < ks.length
                · obtain ⟨r1, rfl⟩ : ∃ r1 : Nat, eo = r1 := ⟨eo.toNat, by omega⟩
                  have hr1 : r1 < ks.length := by omega
                  obtain ⟨rb, roff, rfl, hk⟩ := hcell (by omega)
                  obtain ⟨rb', roff', erb, hk'⟩ := hcell' (by omega)
                  have c2 := hk r1 _ (List.getElem?_eq_getElem hr1)
                  have c2' := hk' r1 _ (List.getElem?_eq_getElem hr1)
                  have hrb : rb < w.heap.size := by rw [erb] at hra; injection hra with e; injection e with e _; rw [e]; exact World.block_lt_of_cell? _ _ c2'
                  have hr2 : rb ≠ w.heap.size := by omega
                  have hr3 : rb ≠ w.heap.size + 1 := by omega
                  have hr4 : w.heap.size ≠ rb := by omega
                  have hr5 : w.heap.size + 1 ≠ rb := by omega
                  clear hk hk' hcell hcell' erb hra c2' hpb hrb
                  have HAL : Hid (isAl pp ⟨ep, q1, 1, r1, 0, ex⟩ = (ks[r1] == 1)) := by
                    have e1 : pp.getD (q1 : Int).toNat [] = ks := HD.out
                    have e2 : ks.getD (r1 : Int).toNat 0 = ks[r1] := by simp [hr1]
                    have e3 : ((q1 : Int) < pp.length) := by rw [HPL.out]; omega
                    unfold Hid isAl
                    simp only [e1, e2, e3]
                    simp [hr1]
                  generalize ks[r1] = kd at *
                  generalize ks.length = kl at *
                  by_cases a5 : kd = 1
                  · have a5' : (kd == 1) = true := beq_iff_eq.2 a5
                    clear a5
                    as_aux_lemma =>
  
                      have HE9 : Hid (Sm.step pp ⟨so, se, sa, sf, sc, su⟩ ⟨ep, q1, 1, r1, 0, ex⟩ = ⟨so + 1, se, sa + 1, sf, sc, su⟩) := by
                        have hal : isAl pp ⟨ep, q1, 1, r1, 0, ex⟩ = true := by rw [HAL.out, a5']
                        simp [Hid, Sm.step, b1, hal]
                      go_wp2_with fail
                      go_quiet (fail)
                      go_wp2_with fail
                      go_roundg (gk - 1)
                      case measure => omega
                      case rel => exact ⟨k + 1, by omega, by go_num, by rw [HS.out, HE9.out]; exact ((((HT0.out.put (s' := ⟨so + 1, se, sa, sf, sc, su⟩) 0 (.int .i64 (so + 1)) rfl).putC 0 (.int .i64 ((q : Nat) + 1)) HY0.out).put (s' := ⟨so + 1, se, sa + 1, sf, sc, su⟩) 2 (.int .i64 (sa + 1)) rfl).drewN _)⟩
                  · have a5' : (kd == 1) = false := beq_eq_false_iff_ne.2 a5
                    clear a5
                    as_aux_lemma =>
  
                      have HE9 : Hid (Sm.step pp ⟨so, se, sa, sf, sc, su⟩ ⟨ep, q1, 1, r1, 0, ex⟩ = ⟨so + 1, se, sa, sf, sc, su⟩) := by
                        have hal : isAl pp ⟨ep, q1, 1, r1, 0, ex⟩ = false := by rw [HAL.out, a5']
                        simp [Hid, Sm.step, b1, hal]
                      go_wp2_with fail
                      go_quiet (fail)
                      go_wp2_with fail
                      go_roundg (gk - 1)
                      case measure => omega
                      case rel => exact ⟨k + 1, by omega, by go_num, by rw [HS.out, HE9.out]; exact (((HT0.out.put (s' := ⟨so + 1, se, sa, sf, sc, su⟩) 0 (.int .i64 (so + 1)) rfl).putC 0 (.int .i64 ((q : Nat) + 1)) HY0.out).drewN _)⟩
                · have a4' : decide (eo < (ks.length : Int)) = false := decide_eq_false a4
                  clear hcell hcell' hra hpb
                  have HAL : Hid (isAl pp ⟨ep, q1, 1, eo, 0, ex⟩ = false) := by
                    have e1 : pp.getD (q1 : Int).toNat [] = ks := HD.out
                    unfold Hid isAl
                    simp only [e1, a4']
                    simp
                  generalize ks.length = kl at *
                  as_aux_lemma =>
  
                    have HE9 : Hid (Sm.step pp ⟨so, se, sa, sf, sc, su⟩ ⟨ep, q1, 1, eo, 0, ex⟩ = ⟨so + 1, se, sa, sf, sc, su⟩) := by
                      have hal := HAL.out
                      simp [Hid, Sm.step, b1, hal]
                    go_wp2_with fail
                    go_quiet (fail)
                    go_wp2_with fail
                    go_roundg (gk - 1)
                    case measure => omega
                    case rel => exact ⟨k + 1, by omega, by go_num, by rw [HS.out, HE9.out]; exact (((HT0.out.put (s' := ⟨so + 1, se, sa, sf, sc, su⟩) 0 (.int .i64 (so + 1)) rfl).putC 0 (.int .i64 ((q : Nat) + 1)) HY0.out).drewN _)⟩
              · have a3' : decide (0 ≤ eo) = false := decide_eq_false a3
                clear hcell hcell' hra hpb
                as_aux_lemma =>
  
                  have HE9 : Hid (Sm.step pp ⟨so, se, sa, sf, sc, su⟩ ⟨ep, q1, 1, eo, 0, ex⟩ = ⟨so + 1, se, sa, sf, sc, su⟩) := by
                    have hal : isAl pp ⟨ep, q1, 1, eo, 0, ex⟩ = false := by simp [isAl, a3]
                    simp [Hid, Sm.step, b1, hal]
                  go_wp2_with fail
                  go_quiet (fail)
                  go_wp2_with fail
                  go_roundg (gk - 1)
                  case measure => omega
                  case rel => exact ⟨k + 1, by omega, by go_num, by rw [HS.out, HE9.out]; exact (((HT0.out.put (s' := ⟨so + 1, se, sa, sf, sc, su⟩) 0 (.int .i64 (so + 1)) rfl).putC 0 (.int .i64 ((q : Nat) + 1)) HY0.out).drewN _)⟩
            · have a2' : decide (ew < (pn : Int)) = false := decide_eq_false a2
              have hpl := HP.out.len
              have HAL : Hid (isAl pp ⟨ep, ew, 1, eo, 0, ex⟩ = false) := by unfold Hid isAl; rw [hpl, a2']; simp
              clear hpl
              as_aux_lemma =>
  
                have HE9 : Hid (Sm.step pp ⟨so, se, sa, sf, sc, su⟩ ⟨ep, ew, 1, eo, 0, ex⟩ = ⟨so + 1, se, sa, sf, sc, su⟩) := by
                  have hal := HAL.out
                  simp [Hid, Sm.step, b1, hal]
                go_wp2_with fail
                go_quiet (fail)
                go_wp2_with fail
                go_roundg (gk - 1)
                case measure => omega
                case rel => exact ⟨k + 1, by omega, by go_num, by rw [HS.out, HE9.out]; exact (((HT0.out.put (s' := ⟨so + 1, se, sa, sf, sc, su⟩) 0 (.int .i64 (so + 1)) rfl).putC 0 (.int .i64 ((q : Nat) + 1)) HY0.out).drewN _)⟩
          · have a1' : decide (0 ≤ ew) = false := decide_eq_false a1
            as_aux_lemma =>
  
              have HE9 : Hid (Sm.step pp ⟨so, se, sa, sf, sc, su⟩ ⟨ep, ew, 1, eo, 0, ex⟩ = ⟨so + 1, se, sa, sf, sc, su⟩) := by
                have hal : isAl pp ⟨ep, ew, 1, eo, 0, ex⟩ = false := by simp [isAl, a1]
                simp [Hid, Sm.step, b1, hal]
              go_wp2_with fail
              go_quiet (fail)
              go_wp2_with fail
              go_roundg (gk - 1)
              case measure => omega
              case rel => exact ⟨k + 1, by omega, by go_num, by rw [HS.out, HE9.out]; exact (((HT0.out.put (s' := ⟨so + 1, se, sa, sf, sc, su⟩) 0 (.int .i64 (so + 1)) rfl).putC 0 (.int .i64 ((q : Nat) + 1)) HY0.out).drewN _)⟩
        · have dc := HT0.out.cod.cell 10 (cods_get _ 10 (by decide)); have zc := HT0.out.cod.free 10; have hcl := HCL.out 10
          have HY0 := Lib.hid (HYES.out 10 (by rw [HCK.out]) (by rw [HCK.out]; rfl) (by decide))
          generalize cnt (l.take k) 10 = q at *
          as_aux_lemma =>
  
            have HE9 : Hid (Sm.step pp ⟨so, se, sa, sf, sc, su⟩ ⟨ep, ew, 1, eo, 10, ex⟩ = ⟨so + 1, se + 1, sa, sf, sc, su + 1⟩) := by
              skip
              simp [Hid, Sm.step, b1, ]
            go_wp2_with fail
            go_quiet (fail)
            go_wp2_with fail
            go_roundg (gk - 1)
            case measure => omega
            case rel => exact ⟨k + 1, by omega, by go_num, by rw [HS.out, HE9.out]; exact (((((HT0.out.put (s' := ⟨so + 1, se, sa, sf, sc, su⟩) 0 (.int .i64 (so + 1)) rfl).put (s' := ⟨so + 1, se + 1, sa, sf, sc, su⟩) 1 (.int .i64 (se + 1)) rfl).put (s' := ⟨so + 1, se + 1, sa, sf, sc, su + 1⟩) 5 (.int .i64 (su + 1)) rfl).putC 10 (.int .i64 ((q : Nat) + 1)) HY0.out).drewN _)⟩
        · obtain ⟨c, rfl⟩ : ∃ c : Nat, ec = c := ⟨ec.toNat, by omega⟩
          have hcc : c < 15 := by omega
          have dc := HT0.out.cod.cell c (cods_get _ c hcc); have zc := HT0.out.cod.free c; have hcl := HCL.out c
          have HY0 := Lib.hid (HYES.out c (by rw [HCK.out]) (by rw [HCK.out]) hcc)
          generalize cnt (l.take k) c = q at *
          have k0 : ((c : Int) == 0) = false := beq_eq_false_iff_ne.2 n0'
          have k10 : ((c : Int) == 10) = false := beq_eq_false_iff_ne.2 n10
          have k0' : ((c : Int) != 0) = true := by rw [bne_iff_ne]; exact n0'
          clear n0' n10
          as_aux_lemma =>
  
            have HE9 : Hid (Sm.step pp ⟨so, se, sa, sf, sc, su⟩ ⟨ep, ew, 1, eo, c, ex⟩ = ⟨so + 1, se + 1, sa, sf, sc, su⟩) := by
              skip
              simp [Hid, Sm.step, b1, k0, k10, k0']
            go_wp2_with fail
            go_quiet (fail)
            go_wp2_with fail
            go_roundg (gk - 1)
            case measure => omega
            case rel => exact ⟨k + 1, by omega, by go_num, by rw [HS.out, HE9.out]; exact ((((HT0.out.put (s' := ⟨so + 1, se, sa, sf, sc, su⟩) 0 (.int .i64 (so + 1)) rfl).put (s' := ⟨so + 1, se + 1, sa, sf, sc, su⟩) 1 (.int .i64 (se + 1)) rfl).putC c (.int .i64 ((q : Nat) + 1)) HY0.out).drewN _)⟩
        · have k0 : (ec == 0) = false := beq_eq_false_iff_ne.2 (by omega)
          have k10 : (ec == 10) = false := beq_eq_false_iff_ne.2 (by omega)
          have k0' : (ec != 0) = true := by rw [bne_iff_ne]; omega
          have k1 : decide (0 ≤ ec) = false := decide_eq_false (by omega)
          as_aux_lemma =>
  
            have HE9 : Hid (Sm.step pp ⟨so, se, sa, sf, sc, su⟩ ⟨ep, ew, 1, eo, ec, ex⟩ = ⟨so + 1, se + 1, sa, sf, sc, su⟩) := by
              skip
              simp [Hid, Sm.step, b1, k0, k10, k0']
            go_wp2_with fail
            go_quiet (fail)
            go_wp2_with fail
            have HCN := Lib.hid (HNO.out (.inr (.inl (by rw [HCK.out]; exact hcn))))
            go_roundg (gk - 1)
            case measure => omega
            case rel => exact ⟨k + 1, by omega, by go_num, by rw [HS.out, HE9.out, HCN.out]; exact (((HT0.out.put (s' := ⟨so + 1, se, sa, sf, sc, su⟩) 0 (.int .i64 (so + 1)) rfl).put (s' := ⟨so + 1, se + 1, sa, sf, sc, su⟩) 1 (.int .i64 (se + 1)) rfl).drewN _)⟩
        · have k0 : (ec == 0) = false := beq_eq_false_iff_ne.2 (by omega)
          have k10 : (ec == 10) = false := beq_eq_false_iff_ne.2 (by omega)
          have k0' : (ec != 0) = true := by rw [bne_iff_ne]; omega
          have k1 : decide (ec < 15) = false := decide_eq_false (by omega)
          as_aux_lemma =>
  
            have HE9 : Hid (Sm.step pp ⟨so, se, sa, sf, sc, su⟩ ⟨ep, ew, 1, eo, ec, ex⟩ = ⟨so + 1, se + 1, sa, sf, sc, su⟩) := by
              skip
              simp [Hid, Sm.step, b1, k0, k10, k0']
            go_wp2_with fail
            go_quiet (fail)
            go_wp2_with fail
            have HCN := Lib.hid (HNO.out (.inr (.inr (by rw [HCK.out]; exact hcp))))
            go_roundg (gk - 1)
            case measure => omega
            case rel => exact ⟨k + 1, by omega, by go_num, by rw [HS.out, HE9.out, HCN.out]; exact (((HT0.out.put (s' := ⟨so + 1, se, sa, sf, sc, su⟩) 0 (.int .i64 (so + 1)) rfl).put (s' := ⟨so + 1, se + 1, sa, sf, sc, su⟩) 1 (.int .i64 (se + 1)) rfl).drewN _)⟩
      · have hk5 : (ek == 5) = false := beq_eq_false_iff_ne.2 h5
        have hk2 : (ek == 2) = false := beq_eq_false_iff_ne.2 h2
        have hk1 : (ek == 1) = false := beq_eq_false_iff_ne.2 h1
        as_aux_lemma =>
  
          have HE9 : Hid (Sm.step pp ⟨so, se, sa, sf, sc, su⟩ ⟨ep, ew, ek, eo, ec, ex⟩ = ⟨so, se, sa, sf, sc, su⟩) := by
            skip
            simp [Hid, Sm.step, b1, hk5, hk2, hk1]
          go_wp2_with fail
          have HCN := Lib.hid (HNO.out (.inl (by rw [HCK.out]; exact h1)))
          go_roundg (gk - 1)
          case measure => omega
          case rel => exact ⟨k + 1, by omega, by go_num, by rw [HS.out, HE9.out, HCN.out]; exact HT0.out⟩
    · obtain rfl : k = n0 := by omega
      have hl := HL.out
      rw [List.take_of_length_le (by omega)] at HST
      have HTOT := Lib.hid (fun W (h : Keep none_ w W) => sTotal_any pa pn pc pp a0 k c0 l W (HP.out.below h) (HR.out.below h) (by omega) (by omega) HW.out)
      have HCOD := Lib.hid (fun W (h : Keep none_ w W) => sCodes_any a0 k c0 l W (HR.out.below h) (by omega))
      have HA := Lib.hid (fun W (h : Keep none_ w W) => awake26_any W (HT.out.keep h))
      have hcods : cods l = [.int .i64 ((cnt l 0 : Nat) : Int), .int .i64 ((cnt l 1 : Nat) : Int), .int .i64 ((cnt l 2 : Nat) : Int), .int .i64 ((cnt l 3 : Nat) : Int), .int .i64 ((cnt l 4 : Nat) : Int), .int .i64 ((cnt l 5 : Nat) : Int), .int .i64 ((cnt l 6 : Nat) : Int), .int .i64 ((cnt l 7 : Nat) : Int), .int .i64 ((cnt l 8 : Nat) : Int), .int .i64 ((cnt l 9 : Nat) : Int), .int .i64 ((cnt l 10 : Nat) : Int), .int .i64 ((cnt l 11 : Nat) : Int), .int .i64 ((cnt l 12 : Nat) : Int), .int .i64 ((cnt l 13 : Nat) : Int), .int .i64 ((cnt l 14 : Nat) : Int)] := rfl
      rw [hcods] at HST
      clear hcods hl
      generalize ((cnt l 0 : Nat) : Int) = c0 at *
      generalize ((cnt l 1 : Nat) : Int) = c1 at *
      generalize ((cnt l 2 : Nat) : Int) = c2 at *
      generalize ((cnt l 3 : Nat) : Int) = c3 at *
      generalize ((cnt l 4 : Nat) : Int) = c4 at *
      generalize ((cnt l 5 : Nat) : Int) = c5 at *
      generalize ((cnt l 6 : Nat) : Int) = c6 at *
      generalize ((cnt l 7 : Nat) : Int) = c7 at *
      generalize ((cnt l 8 : Nat) : Int) = c8 at *
      generalize ((cnt l 9 : Nat) : Int) = c9 at *
      generalize ((cnt l 10 : Nat) : Int) = c10 at *
      generalize ((cnt l 11 : Nat) : Int) = c11 at *
      generalize ((cnt l 12 : Nat) : Int) = c12 at *
      generalize ((cnt l 13 : Nat) : Int) = c13 at *
      generalize ((cnt l 14 : Nat) : Int) = c14 at *
      generalize tot pp l = s at *
      obtain ⟨so, se, sa, sf, sc, su⟩ := s
      have d0 : wr.cell? ⟨w.heap.size, 0, none⟩ = _ := HST.out.sum.cell 0 rfl; have d1 : wr.cell? ⟨w.heap.size, 1, none⟩ = _ := HST.out.sum.cell 1 rfl; have d2 : wr.cell? ⟨w.heap.size, 2, none⟩ = _ := HST.out.sum.cell 2 rfl; have d3 : wr.cell? ⟨w.heap.size, 3, none⟩ = _ := HST.out.sum.cell 3 rfl; have d4 : wr.cell? ⟨w.heap.size, 4, none⟩ = _ := HST.out.sum.cell 4 rfl; have d5 : wr.cell? ⟨w.heap.size, 5, none⟩ = _ := HST.out.sum.cell 5 rfl
      have q : wr.rangeAt (w.heap.size + 1) 0 [.int .i64 c0, .int .i64 c1, .int .i64 c2, .int .i64 c3, .int .i64 c4, .int .i64 c5, .int .i64 c6, .int .i64 c7, .int .i64 c8, .int .i64 c9, .int .i64 c10, .int .i64 c11, .int .i64 c12, .int .i64 c13, .int .i64 c14] := HST.out.cod.range
      have hu15 : Tryd.prog.underlying 41 = some (.array 15 3) := Tryd.underlying41
      have hs15 : (Tryd.prog.info? 41).map (·.size) = some ([.int .i64 c0, .int .i64 c1, .int .i64 c2, .int .i64 c3, .int .i64 c4, .int .i64 c5, .int .i64 c6, .int .i64 c7, .int .i64 c8, .int .i64 c9, .int .i64 c10, .int .i64 c11, .int .i64 c12, .int .i64 c13, .int .i64 c14] : List Value).length := (by kernel_rfl : _ = some 15)
      have heq : ∀ w, (Op.equalIn 10000 41 (.agg #[.int .i64 c0, .int .i64 c1, .int .i64 c2, .int .i64 c3, .int .i64 c4, .int .i64 c5, .int .i64 c6, .int .i64 c7, .int .i64 c8, .int .i64 c9, .int .i64 c10, .int .i64 c11, .int .i64 c12, .int .i64 c13, .int .i64 c14]) (.agg #[.int .i64 c0, .int .i64 c1, .int .i64 c2, .int .i64 c3, .int .i64 c4, .int .i64 c5, .int .i64 c6, .int .i64 c7, .int .i64 c8, .int .i64 c9, .int .i64 c10, .int .i64 c11, .int .i64 c12, .int .i64 c13, .int .i64 c14])).run Tryd.prog w = .ok true w := fun w => by
        obtain ⟨i, hi, _⟩ := info_parts Tryd.infoInt26
        exact run_eql_self 41 3 15 Tryd.underlying41 hi Tryd.underlying3 (by kernel_rfl) [c0, c1, c2, c3, c4, c5, c6, c7, c8, c9, c10, c11, c12, c13, c14] rfl 9998 w
      have hkw := HST.out.keep
      clear HST
      go_wp2_with fail
      go_region_held3 (fun w' => w'.cell? ⟨w.heap.size, 0, none⟩ = some (.int .i64 so) ∧ w'.cell? ⟨w.heap.size, 1, none⟩ = some (.int .i64 se) ∧ w'.cell? ⟨w.heap.size, 2, none⟩ = some (.int .i64 sa) ∧ w'.cell? ⟨w.heap.size, 3, none⟩ = some (.int .i64 sf) ∧ w'.cell? ⟨w.heap.size, 4, none⟩ = some (.int .i64 sc) ∧ w'.cell? ⟨w.heap.size, 5, none⟩ = some (.int .i64 su) ∧ w'.rangeAt (w.heap.size + 1) 0 [.int .i64 c0, .int .i64 c1, .int .i64 c2, .int .i64 c3, .int .i64 c4, .int .i64 c5, .int .i64 c6, .int .i64 c7, .int .i64 c8, .int .i64 c9, .int .i64 c10, .int .i64 c11, .int .i64 c12, .int .i64 c13, .int .i64 c14])
        ((refine ⟨?_, ?_, ?_, ?_, ?_, ?_, ?_⟩ <;> first | assumption | exact hk9.range (by first | assumption | exact And.left (by assumption) | exact And.left (And.right (by assumption)) | exact And.left (And.right (And.right (by assumption))) | exact And.left (And.right (And.right (And.right (by assumption)))) | exact And.left (And.right (And.right (And.right (And.right (by assumption))))) | exact And.left (And.right (And.right (And.right (And.right (And.right (by assumption)))))) | exact And.right (And.right (And.right (And.right (And.right (And.right (by assumption))))))) | exact hk9.still (by first | assumption | exact And.left (by assumption) | exact And.left (And.right (by assumption)) | exact And.left (And.right (And.right (by assumption))) | exact And.left (And.right (And.right (And.right (by assumption)))) | exact And.left (And.right (And.right (And.right (And.right (by assumption))))) | exact And.left (And.right (And.right (And.right (And.right (And.right (by assumption)))))) | exact And.right (And.right (And.right (And.right (And.right (And.right (by assumption)))))))))
        (first | (go_at_call 15; refine (HTOT.out _ (by first | assumption | exact hkw.drew)).mono ?_; rintro e w' ⟨rfl, hk9⟩; have hkw := Keep.trans (by first | assumption | exact hkw.drew) hk9) | (go_at_call 16; refine (HCOD.out _ (by assumption)).mono ?_; rintro e w' ⟨rfl, hk9⟩; have hkw := Keep.trans hkw hk9) | (go_at_call 7; refine (HA.out _ (by assumption)).mono ?_; rintro e w' ⟨rfl, hk9⟩; have hkw := Keep.trans hkw hk9))
      go_wp2_with fail
      go_ret
      refine ⟨rfl, ?_⟩
      first | assumption | exact hkw
end Go.Proofs.YtcopkhhgcgfelaaDoor
