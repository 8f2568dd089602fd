/- The walk of BoardPlays. -/
import Derived.Test.YtcdmlinaebnbcaaRows
import Derived.Test.YtcdmlinaebnbcaaMem
import Derived.Test.YtcdmlinaebnbcaaArgs
import Derived.Test.YtcdmlinaebnbcaaRef01
import Derived.Test.YtcdmlinaebnbcaaGrow
import Derived.Test.YtcdmlinaebnbcaaBoardPlain
import Derived.Test.YtcdmlinaebnbcaaLawBoard
import Derived.Deep.LoopGhost
import Derived.Deep.DeepCutAuto
import Derived.Deep.CutBlock
namespace Go.Proofs.Ytcdmlinaebnbcaa
open Go.RowKit

/-- The list of those that are open. -/
def olist (n : Nat) (S : Nat → Bool) : List Int := ((List.range n).filter S).map Int.ofNat
theorem olist_len (n : Nat) (S : Nat → Bool) : (olist n S).length = openN n S := by simp [olist, openN]
theorem inL_olist (n : Nat) (S : Nat → Bool) (m : Int) (h0 : 0 ≤ m) : inL (olist n S) m = (decide (m < n) && S m.toNat) := by
  rw [Bool.eq_iff_iff, inL_true]
  simp only [olist, List.mem_map, List.mem_filter, List.mem_range, Bool.and_eq_true, decide_eq_true_iff]
  constructor
  · rintro ⟨q, ⟨h1, h2⟩, rfl⟩
    have e : (Int.ofNat q) = (q : Int) := rfl
    exact ⟨by omega, by simpa using h2⟩
  · rintro ⟨h1, h2⟩
    exact ⟨m.toNat, ⟨by omega, h2⟩, by have e : (Int.ofNat m.toNat) = (m.toNat : Int) := rfl; omega⟩
theorem inL_olist_neg (n : Nat) (S : Nat → Bool) (m : Int) (h0 : m < 0) : inL (olist n S) m = false := by
  rw [Bool.eq_false_iff]
  intro h
  have := inL_true.1 h
  simp only [olist, List.mem_map] at this
  obtain ⟨q, _, hq⟩ := this
  have : (Int.ofNat q) = (q : Int) := rfl
  omega

theorem IntCells.ofOwn {k : IntKind} {w : World} {base : Nat} {T : TypeId} {v : Value} {n : Nat} {zs : List Int} (h : w.ownsRow base T 1 v n (zs.map (Value.int k))) : ∃ a c, v = .slice a n c ∧ IntCells k w a n zs := by
  obtain ⟨hl, hf⟩ := h
  rcases hf with ⟨rfl, rfl⟩ | ⟨g, cap, cur, rfl, _, hg, hn, _, hs, hc⟩
  · exact ⟨none, 0, rfl, by simpa using hl, fun h => absurd h (Nat.lt_irrefl 0)⟩
  · refine ⟨_, cap, rfl, by simpa using hl, fun _ => ⟨g, 0, rfl, fun j hj => ?_⟩⟩
    have e : cur[j]? = some (.int k (zs.getD j 0)) := by
      have h1 : (cur.toList.take (n * 1))[j]? = cur[j]? := by simp [hj]
      rw [← h1, hc]
      have hj2 : j < zs.length := by simp at hl; omega
      simp [hj2]
    simp [World.cell?, hg, e]

def upto (j : Nat) : List Int := (List.range j).map Int.ofNat
theorem upto_succ (j : Nat) : (upto j).map (Value.int .i64) ++ [Value.int .i64 j] = (upto (j + 1)).map (Value.int .i64) := by
  simp [upto, List.range_succ]
theorem olist_full (n : Nat) : olist n (fun q => decide (q < n)) = upto n := by
  unfold olist upto
  rw [List.filter_eq_self.2]
  intro q hq; simpa using hq

theorem olist_less (n : Nat) (S : Nat → Bool) (m : Int) (h0 : 0 ≤ m) : (olist n S).filter (fun x => x != m) = olist n (fun q => S q && !decide (q = m.toNat)) := by
  unfold olist
  rw [List.filter_map, List.filter_filter]
  congr 1
  apply List.filter_congr
  intro q _
  have e : (Int.ofNat q) = (q : Int) := rfl
  by_cases h : q = m.toNat
  · simp [h, show ((m.toNat : Nat) : Int) = m by omega]
  · have : ¬ (q : Int) = m := by omega
    simp [h, this, bne, Bool.and_comm]
theorem take_filter (l : List Int) (m : Int) (j : Nat) (hj : j < l.length) :
    (l.take (j + 1)).filter (fun x => x != m) = (l.take j).filter (fun x => x != m) ++ (if l.getD j 0 = m then [] else [l.getD j 0]) := by
  rw [List.take_succ_eq_append_getElem hj, List.filter_append, List.getD_eq_getElem?_getD, List.getElem?_eq_getElem hj]
  by_cases h : l[j] = m <;> simp [h]

/-- What is told of a number from -1 to 8. -/
theorem plays_cases (n : Nat) (kind c : Int) (S : Nat → Bool) (m : Int) (h8 : n ≤ 8) :
    (inL (olist n S) m = true ∧ (Bd.of n kind c S).pend m = true ∧ (Bd.of n kind c S).pendK m = kind ∧ ((Bd.of n kind c S).is m && !(Bd.of n kind c S).isOpen m) = false ∧ 0 ≤ m ∧ m < n) ∨
    (inL (olist n S) m = false ∧ (Bd.of n kind c S).pend m = false ∧ (Bd.of n kind c S).pendK m = 0 ∧ ((Bd.of n kind c S).is m && !(Bd.of n kind c S).isOpen m) = true ∧ 0 ≤ m ∧ m < n) ∨
    (inL (olist n S) m = false ∧ (Bd.of n kind c S).pend m = false ∧ (Bd.of n kind c S).pendK m = 0 ∧ ((Bd.of n kind c S).is m && !(Bd.of n kind c S).isOpen m) = false ∧ m < 0) ∨
    (inL (olist n S) m = false ∧ (Bd.of n kind c S).pend m = false ∧ (Bd.of n kind c S).pendK m = 0 ∧ ((Bd.of n kind c S).is m && !(Bd.of n kind c S).isOpen m) = false ∧ 0 ≤ m ∧ (n : Int) ≤ m) := by
  rcases Int.lt_or_le m 0 with h | h
  · have hi : (Bd.of n kind c S).is m = false := by simp [Bd.of_is]; omega
    exact .inr (.inr (.inl ⟨inL_olist_neg n S m h, by simp [Bd.pend, hi], by simp [Bd.pendK, Bd.pend, hi], by simp [hi], h⟩))
  · rcases Int.lt_or_le m n with h1 | h1
    · have hp := Bd.of_pend n kind c S m h h1 (by omega)
      have hk := Bd.of_pendK n kind c S m h h1 (by omega)
      have ho := Bd.of_isOpen n kind c S m (by omega)
      have hi : (Bd.of n kind c S).is m = true := by simp [Bd.of_is, h, h1]
      have hin := inL_olist n S m h
      rw [ho, hi, hp, hk, hin]
      cases hs : S m.toNat <;> simp [h, h1]
    · have hi : (Bd.of n kind c S).is m = false := by simp [Bd.of_is]; omega
      refine .inr (.inr (.inr ⟨by rw [inL_olist n S m h]; simp; omega, by simp [Bd.pend, hi], by simp [Bd.pendK, Bd.pend, hi], by simp [hi], h, h1⟩))

theorem Try.infoInt : (Try.prog.info? 3).map (fun i => (i.zero, i.size, i.bytes)) = some (some (.int .i64 0), 1, 8) := by kernel_rfl

structure PS (w0 wr : World) (n : Nat) (kd ct op : Value) (kind : Int) (count : Nat) (S : Nat → Bool) : Prop where
  ekd : kd = .int .i64 kind
  ect : ct = .int .i64 count
  bd : BdAt wr w0.heap.size (Bd.of n kind count S)
  big : ∀ q, n ≤ q → S q = false
  own : wr.ownsRow w0.heap.size 3 1 op (openN n S) ((olist n S).map (Value.int .i64))
  keep : Keep none_ w0 wr

set_option maxRecDepth 100000 in
set_option maxHeartbeats 1000000 in
theorem boardPlays_any (a0 : Int) (a1 : Option Addr) (n1 c1 : Nat) (z1 : List (List Value)) (w : World) (hw0 : (Lit.int .u8 a0).wf = true) (hw1 : Flats [.bool, .int .i64] w a1 n1 z1) (hm : n1 ≤ maxLen) :
    Calls Try.prog 6 #[.int .u8 a0, .slice a1 n1 c1] w fun e w' => e = .returned (.bool true) ∧ Keep none_ w w' := by
  have b0 := bounds_u8 hw0
  unfold maxLen at hm
  clear hw0
  by_cases hbig : 200 < n1
  · clear hw1
    go_enter Try.func6, Try.ntmps6
    go_wp2_with (go_at_call 19; refine (awake12_any _).mono ?_; rintro e w1 ⟨rfl, hk⟩)
    go_ret
    exact ⟨rfl, hk⟩
  have K0 := Lib.hid (new_yes (1 + a0 % 8) w (by omega) (by omega))
  obtain ⟨n, hn⟩ : ∃ n : Nat, (n : Int) = 1 + a0 % 8 := ⟨(1 + a0 % 8).toNat, by omega⟩
  have hn1 : 1 ≤ n := by omega
  have hn8 : n ≤ 8 := by omega
  have hn2 : (n : Int) ≤ 1 + a0 % 8 := by omega
  have hn3 : 1 + a0 % 8 ≤ (n : Int) := by omega
  have HN := Lib.hid hn; clear hn
  go_enter Try.func6, Try.ntmps6
  go_wp2_with (go_at_call 20; refine K0.out.mono ?_; rintro e w1 ⟨rfl, hb1, hk1⟩)
  have h0 : PS w w1 n (.int .i64 0) (.int .i64 0) (.slice none 0 0) 0 0 (fun _ => false) := by
    refine ⟨rfl, rfl, by rw [HN.out]; exact hb1, fun _ _ => rfl, ?_, hk1⟩
    have e : openN n (fun _ => false) = 0 := (openN_zero _ _).2 fun _ _ => rfl
    have e2 : olist n (fun _ => false) = [] := by simp [olist]
    rw [e, e2]
    exact World.ownsRow_nil _ _ _ _
  clear hb1 hk1
  go_loopg [8, 9, 10, 11] n1 (fun g kd ct op i wr => ∃ (k : Nat) (kind : Int) (count : Nat) (S : Nat → Bool), g + k = n1 ∧ i = .int .i64 k ∧ count ≤ k ∧ PS w wr n kd ct op kind count S)
  case atStart => exact ⟨0, 0, 0, _, by omega, rfl, by omega, h0⟩
  case round =>
    obtain ⟨k, kind, count, S, hg, rfl, hck, hps⟩ := hrel
    obtain ⟨g0, rfl⟩ : ∃ g0 : Nat, g0 = gk := ⟨_, rfl⟩
    obtain ⟨wo, rfl⟩ : ∃ wo : World, wo = wr := ⟨_, rfl⟩
    by_cases hlt : k < n1
    · obtain ⟨b, off, rfl, hcell⟩ := hw1.at_ (by omega)
      have hl := hw1.len
      have hok := hw1.ok z1[k] (List.getElem_mem _)
      obtain ⟨v0, hv0, ask, rfl⟩ := hok.at_ 0 .bool rfl
      obtain ⟨v1, hv1, m, rfl, hwm⟩ := hok.at_ 1 (.int .i64) rfl
      have c0 := hcell k z1[k] (List.getElem?_eq_getElem _) 0 _ hv0
      have c1 := hcell k z1[k] (List.getElem?_eq_getElem _) 1 _ hv1
      have hmb := bounds_i64 hwm
      simp at c0 c1
      have HC0 := Lib.hid c0; have HC1 := Lib.hid c1
      clear hcell hok hv0 hv1 hwm c0 c1
      have d0 := hps.keep.still HC0.out
      have d1 := hps.keep.still HC1.out
      go_upto_block 2 with fail
      go_cut [8, 9, 10] (fun kd ct op wx => ∃ (kind : Int) (count : Nat) (S : Nat → Bool), count ≤ k + 1 ∧ PS w wx n kd ct op kind count S)
      case first =>
        obtain ⟨rfl, rfl, hbd, hbig', hown, hkp⟩ := hps
        obtain ⟨ao, co, rfl, hic⟩ := IntCells.ofOwn hown
        have hlen := openN_le n S
        have HBG := Lib.hid hbig'
        have hcnt : 0 ≤ (Bd.of n kind count S).count ∧ (Bd.of n kind count S).count ≤ 1000000000 := by simp only [Bd.of]; omega
        have HCN := Lib.hid hcnt
        clear hcnt
        cases ask with
        | true =>
          by_cases hz : openN n S = 0
          · have hall : ∀ q, q < 8 → S q = false := fun q _ => by
              rcases Nat.lt_or_ge q n with h | h
              · exact (openN_zero n S).1 hz q h
              · exact hbig' q h
            have HE := Lib.hid (Bd.of_askE n kind count S hall)
            have HB : Hid ((Bd.of n kind count S).askB m = Bd.of n m (count + 1 : Nat) (fun q => decide (q < n))) := by
              have := Bd.of_ask n kind count S m hall
              simpa [Hid] using this
            rw [hz]
            have HZ := Lib.hid hz
            have hne := own_ne hbd.blk hown (by decide)
            clear hz hall hbig' hic
            go_wp2_with (go_at_call 21; refine (ask_is hbd HCN.out HE.out HB.out).mono ?_; rintro e w3 ⟨rfl, hb3, hk3⟩)
            have hown3 := own_keep hown hk3 (fun B h1 h2 => hne (by rw [h1, h2]))
            have hkp3 := hkp.onNew hk3 (Nat.le_refl _)
            rw [HZ.out] at hown3
            have hol : olist n S = [] := List.eq_nil_of_length_eq_zero (by rw [olist_len]; exact HZ.out)
            rw [hol] at hown3
            have HF := Lib.hid (olist_full n); have HFN := Lib.hid (openN_full n)
            clear hk3 hkp hown hbd hne hol
            go_loopg [10, 13] n (fun g v i wr => ∃ j : Nat, g + j = n ∧ i = .int .i64 j ∧ wr.ownsRow w.heap.size 3 1 v j ((upto j).map (Value.int .i64)) ∧ BdAt wr w.heap.size (Bd.of n m (count + 1 : Nat) (fun q => decide (q < n))) ∧ Keep none_ w wr)
            case atStart => exact ⟨0, by omega, rfl, hown3, hb3, hkp3⟩
            case round =>
              clear hown3 hb3 hkp3 d0 d1
              obtain ⟨j, hj, rfl, hownj, hbj, hkj⟩ := hrel
              have hsz := hkj.size
              by_cases hjn : j < n
              · have hnej := own_ne hbj.blk hownj (by decide)
                go_wp2_with (at_builtin; refine append1 rfl _ _ 22 rfl Try.underlying22 Try.infoInt rfl rfl hownj rfl rfl (by decide) (by omega) hsz ?_; intro v' w' hown' hgr)
                rw [upto_succ] at hown'
                go_roundg (gk - 1)
                case measure => omega
                case rel => exact ⟨j + 1, by omega, by go_num, hown', ⟨hbj.blk.grown hgr hnej, hbj.len, hbj.lo, hbj.hi⟩, hkj.grew hownj (Nat.le_refl _) hgr⟩
              · obtain rfl : j = n := by omega
                go_wp2_with fail
                go_meet
                case rel => exact ⟨m, count + 1, fun q => decide (q < j), by omega, by go_num, by go_num, hbj, fun q h => by simp; omega, by rw [HFN.out, HF.out]; exact hownj, hkj⟩
          · have hpos : (0 : Int) < openN n S := by omega
            obtain ⟨q, hq8, hq⟩ : ∃ q, q < 8 ∧ S q = true := by
              refine Classical.byContradiction fun hno => hz ((openN_zero n S).2 fun q hq => ?_)
              cases e : S q with
              | false => rfl
              | true => exact absurd ⟨q, by omega, e⟩ hno
            have HNO := Lib.hid (Bd.of_askNo n kind count S m q hq8 hq)
            have hne := own_ne hbd.blk hown (by decide)
            clear hz hq hbig' hic
            go_wp2_with (go_at_call 21; refine (ask_is hbd HCN.out HNO.out.2 HNO.out.1).mono ?_; rintro e w3 ⟨rfl, hb3, hk3⟩)
            go_meet
            case rel => exact ⟨kind, count, S, by omega, rfl, rfl, hb3, HBG.out, own_keep hown hk3 (fun B h1 h2 => hne (by rw [h1, h2])), hkp.onNew hk3 (Nat.le_refl _)⟩
        | false =>
          have hcl : ∀ i, inL (olist n S) m = i → Hid (inL (olist n S) m = i) := fun _ h => h
          by_cases hin : 0 ≤ m ∧ m < n
          · obtain ⟨hm0, hm1⟩ := hin
            have han := Bd.of_ans n kind count S m hm0 hm1 (by omega)
            have hne := own_ne hbd.blk hown (by decide)
            have hinl : inL (olist n S) m = S m.toNat := by rw [inL_olist n S m hm0]; simp [hm1]
            cases hs : S m.toNat with
            | false =>
              rw [hs, less_same S _ hs] at han
              rw [hs] at hinl
              have HAN := Lib.hid han; have HIN := Lib.hid hinl
              clear hs han hinl hcl
              go_wp2_with first | (go_at_call 26; refine (in_is hic (by omega) HIN.out).mono ?_; rintro e w3 ⟨rfl, rfl⟩) | (go_at_call 25; refine (answer_is hbd HAN.out.1 HAN.out.2).mono ?_; rintro e w3 ⟨rfl, hb3, hk3⟩)
              go_meet
              case rel => exact ⟨kind, count, S, by omega, rfl, rfl, hb3, HBG.out, own_keep hown hk3 (fun B h1 h2 => hne (by rw [h1, h2])), hkp.onNew hk3 (Nat.le_refl _)⟩
            | true =>
              rw [hs, if_pos rfl] at han
              rw [hs] at hinl
              have HAN := Lib.hid han; have HIN := Lib.hid hinl
              have HOL := Lib.hid (olist_less n S m hm0)
              have HLN := Lib.hid (olist_len n S)
              have HBG2 : Hid (∀ q, n ≤ q → (S q && !decide (q = m.toNat)) = false) := fun q h => by rw [HBG.out q h]; rfl
              clear hs han hinl hcl hbig'
              go_wp2_with first | (go_at_call 26; refine (in_is hic (by omega) HIN.out).mono ?_; rintro e w3 ⟨rfl, rfl⟩) | (go_at_call 25; refine (answer_is hbd HAN.out.1 HAN.out.2).mono ?_; rintro e w3 ⟨rfl, hb3, hk3⟩)
              have hic3 : IntCells .i64 w3 ao (openN n S) (olist n S) := by
                obtain ⟨a', c', he, h'⟩ := IntCells.ofOwn (own_keep hown hk3 (fun B h1 h2 => hne (by rw [h1, h2])))
                injection he with he
                rw [he]; exact h'
              have hkp3 := hkp.onNew hk3 (Nat.le_refl _)
              have hsz3 := hkp3.size
              clear hk3 hkp hown hbd hne hic
              go_loopg [14, 15] (openN n S) (fun g v i wr => ∃ j : Nat, g + j = openN n S ∧ i = .int .i64 j ∧ wr.ownsRow w3.heap.size 3 1 v (((olist n S).take j).filter (fun x => x != m)).length ((((olist n S).take j).filter (fun x => x != m)).map (Value.int .i64)) ∧ Keep none_ w3 wr)
              case atStart => exact ⟨0, by omega, rfl, by simpa using World.ownsRow_nil _ _ _ _, Keep.refl _ _⟩
              case round =>
                clear d0 d1
                obtain ⟨j, hj, rfl, hownj, hkj⟩ := hrel
                by_cases hjn : j < openN n S
                · obtain ⟨b1, o1, rfl, hc1⟩ := (hic3.below hkj).at_ (by omega)
                  have hcj := hc1 j hjn
                  have htk := take_filter (olist n S) m j (by rw [HLN.out]; exact hjn)
                  have hlj := List.length_filter_le (fun x => x != m) ((olist n S).take j)
                  rw [List.length_take] at hlj
                  clear hc1
                  generalize (olist n S).getD j 0 = x at hcj htk
                  have HTK := Lib.hid htk
                  by_cases hx : x = m
                  · have hxb : (x != m) = false := by simp [hx]
                    rw [if_pos hx, List.append_nil] at htk
                    have HT2 := Lib.hid htk
                    clear htk hx
                    go_wp2_with fail
                    go_roundg (gk - 1)
                    case measure => omega
                    case rel => exact ⟨j + 1, by omega, by go_num, by rw [HT2.out]; exact hownj, hkj⟩
                  · have hxb : (x != m) = true := by simp [hx]
                    rw [if_neg hx] at htk
                    have HT2 := Lib.hid htk
                    clear htk hx
                    have hsz := hkj.size
                    go_wp2_with (at_builtin; refine append1 rfl _ _ 22 rfl Try.underlying22 Try.infoInt rfl rfl hownj rfl rfl (by decide) (by omega) hsz ?_; intro v' w' hown' hgr)
                    go_roundg (gk - 1)
                    case measure => omega
                    case rel => exact ⟨j + 1, by omega, by go_num, by rw [HT2.out, List.length_append, List.map_append]; exact hown', hkj.grew hownj (Nat.le_refl _) hgr⟩
                · obtain rfl : j = openN n S := by omega
                  have htl : (olist n S).take (openN n S) = olist n S := List.take_of_length_le (by rw [HLN.out]; exact Nat.le_refl _)
                  rw [htl, HOL.out, olist_len] at hownj
                  have hb4 : BdAt wr w.heap.size _ := hb3.keep hkj (fun f => f)
                  clear hic3 htl hb3
                  go_wp2_with fail
                  go_meet
                  case rel => exact ⟨kind, count, _, by omega, rfl, rfl, hb4, HBG2.out, own_low hownj hsz3, hkp3.trans hkj⟩
          · have hi : (Bd.of n kind count S).is m = false := by simp [Bd.of_is]; omega
            have han : (Bd.of n kind count S).ansE m = 4 ∧ (Bd.of n kind count S).ansB m = Bd.of n kind count S := by simp [Bd.ansE, Bd.ansB, Bd.pend, hi]
            have hne := own_ne hbd.blk hown (by decide)
            have HAN := Lib.hid han
            clear hi han hcl
            rcases (show m < 0 ∨ (0 ≤ m ∧ (n : Int) ≤ m) by omega) with hc | ⟨hc, hc'⟩
            all_goals
              clear hin
              go_wp2_with (go_at_call 25; refine (answer_is hbd HAN.out.1 HAN.out.2).mono ?_; rintro e w3 ⟨rfl, hb3, hk3⟩)
              go_meet
              case rel => exact ⟨kind, count, S, by omega, rfl, rfl, hb3, HBG.out, own_keep hown hk3 (fun B h1 h2 => hne (by rw [h1, h2])), hkp.onNew hk3 (Nat.le_refl _)⟩
      case rest =>
        obtain ⟨kind', count', S', hck', hps'⟩ := hcut
        clear hps d0 d1
        obtain ⟨rfl, rfl, hbd, hbig', hown, hkp⟩ := hps'
        obtain ⟨ao, co, rfl, hic⟩ := IntCells.ofOwn hown
        have hlen := openN_le n S'
        have hal : (Bd.of n kind' count' S').all = decide (openN n S' = 0) := by
          rw [Bool.eq_iff_iff, Bd.of_all, decide_eq_true_iff, openN_zero]
          exact ⟨fun h q hq => h q (by omega), fun h q _ => by
            rcases Nat.lt_or_ge q n with hl | hl
            · exact h q hl
            · exact hbig' q hl⟩
        have HCT : Hid ((Bd.of n kind' count' S').count = count') := rfl
        have HAL : Hid ((Bd.of n kind' count' S').all = ((openN n S' : Int) == 0)) := by
          rw [Hid, hal, Bool.eq_iff_iff]; simp
        have HBG := Lib.hid hbig'
        clear hal hbig'
        go_wp2_with first | (go_at_call 22; refine (count_is hbd HCT.out).mono ?_; rintro e w3 ⟨rfl, rfl⟩) | (go_at_call 24; refine (all_is hbd HAL.out).mono ?_; rintro e w3 ⟨rfl, rfl⟩)
        go_loopg [16] 10 (fun g i wr => ∃ j : Nat, g + j = 10 ∧ i = .int .i64 ((j : Int) - 1) ∧ BdAt wr w.heap.size (Bd.of n kind' count' S') ∧ IntCells .i64 wr ao (openN n S') (olist n S') ∧ wr.ownsRow w.heap.size 3 1 (.slice ao (openN n S') co) (openN n S') ((olist n S').map (Value.int .i64)) ∧ Keep none_ w wr)
        case atStart => exact ⟨0, rfl, rfl, hbd, hic, hown, hkp⟩
        case round =>
          clear hbd hic hown hkp
          obtain ⟨j, hj, rfl, hbd, hic, hown, hkp⟩ := hrel
          by_cases hj9 : j < 10
          · rcases plays_cases n kind' count' S' ((j : Int) - 1) hn8 with ⟨hin, hpe, hpk, han, hm0, hm1⟩ | ⟨hin, hpe, hpk, han, hm0, hm1⟩ | ⟨hin, hpe, hpk, han, hm0⟩ | ⟨hin, hpe, hpk, han, hm0, hm1⟩
            all_goals
              have HIN := Lib.hid hin; have HPE := Lib.hid hpe; have HPK := Lib.hid hpk; have HAN := Lib.hid han
              clear hin hpe hpk han
              go_wp2_with first | (go_at_call 23; refine (pending_is hbd HPE.out HPK.out).mono ?_; rintro e w3 ⟨rfl, rfl⟩) | (go_at_call 26; refine (in_is hic (by omega) HIN.out).mono ?_; rintro e w3 ⟨rfl, rfl⟩) | (go_at_call 27; refine (answered_is hbd HAN.out).mono ?_; rintro e w3 ⟨rfl, rfl⟩)
              go_roundg (gk - 1)
              case measure => omega
              case rel => exact ⟨j + 1, by omega, by go_num, hbd, hic, hown, hkp⟩
          · obtain rfl : j = 10 := by omega
            go_wp2_with fail
            go_roundg (g0 - 1)
            case measure => omega
            case rel => exact ⟨k + 1, kind', count', S', by omega, by go_num, by omega, rfl, rfl, hbd, HBG.out, hown, hkp⟩
    · obtain ⟨rfl, rfl, hbd, hbig', hown, hkp⟩ := hps
      clear hw1
      go_wp2_with (go_at_call 19; refine (awake12_any _).mono ?_; rintro e w1 ⟨rfl, hk⟩)
      go_ret
      exact ⟨rfl, hkp.trans hk⟩

end Go.Proofs.Ytcdmlinaebnbcaa
