/- fair.Spread. -/
import Derived.Test.YtcdmlinaebnbcaaSort
import Derived.Test.YtcdmlinaebnbcaaGrow
namespace Go.Proofs.Ytcdmlinaebnbcaa
open Go.RowKit

def uptoL (j : Nat) : List Int := (List.range j).map Int.ofNat
theorem uptoL_get (n j : Nat) (h : j < n) : (uptoL n).getD j 0 = j := by
  rw [getD_of (by simpa [uptoL] using h)]
  simp [uptoL]
/-- Whom a block picks. -/
def orderL (who : Nat) (rs : List Int) : List Int := sortTo (fun x => rs.getD x.toNat 0) who (uptoL who)
def blockL (who block : Nat) (rs : List Int) : List Int := orderL who rs ++ ((rs.drop who).take (block - who)).map (fun x => x % (who : Int))
def spreadN (zs : List Int) (who block : Nat) : Nat → List Int
  | 0 => []
  | m + 1 => spreadN zs who block m ++ blockL who block (zs.drop (m * block))
theorem orderL_len (who : Nat) (rs : List Int) : (orderL who rs).length = who := by rw [orderL, sortTo_len]; simp [uptoL]
theorem blockL_len (who block : Nat) (rs : List Int) (h1 : who ≤ block) (h2 : block ≤ rs.length) : (blockL who block rs).length = block := by
  simp only [blockL, List.length_append, orderL_len, List.length_map, List.length_take, List.length_drop]; omega
theorem spreadN_len (zs : List Int) (who block m : Nat) (h1 : who ≤ block) (h2 : m * block ≤ zs.length) : (spreadN zs who block m).length = m * block := by
  induction m with
  | zero => simp [spreadN]
  | succ m ih =>
    have e : (m + 1) * block = m * block + block := by rw [Nat.add_mul, Nat.one_mul]
    rw [spreadN, List.length_append, ih (by omega), blockL_len _ _ _ h1 (by simp; omega)]
    omega

theorem Try.infoI3 : (Try.prog.info? 3).map (fun i => (i.zero, i.size, i.bytes)) = some (some (.int .i64 0), 1, 8) := by kernel_rfl
theorem Try.infoU16 : (Try.prog.info? 70).map (·.size) = some 1 := by kernel_rfl

section
variable {P : Program} {w : World}
/-- 'append(s, xs...)', s nil or a row of the call's own. -/
theorem appendN {ops : Array Oper} {rest : List Oper} {o : Oper} {a : Act} {Q : Exit → Act → World → Prop} (hgd : o.guard = none) (s x : Operand) (t : TypeId)
    (ho : o.op = .call { callee := .builtin .append, args := #[s, x], argTypes := #[t, t] }) {base : Nat} {e : TypeId} {z : Value} {bytes : Nat} (ht : P.underlying t = some (.slice e))
    (hi : (P.info? e).map (fun i => (i.zero, i.size, i.bytes)) = some (some z, 1, bytes)) (hzs : z.cells.size = 1) {v : Value} {n : Nat} {xs : List Value} (hs : a.eval s = v) (hown : w.ownsRow base e 1 v n xs)
    {ad : Addr} {m c : Nat} {news : List Value} (hx : a.eval x = .slice (some ad) m c) (hl : news.length = m) (hnews : ∀ j u, news[j]? = some u → w.cell? (ad.add j) = some u) (h1 : ∀ u ∈ news, u.oneCell' = true) (hb : bytes ≤ 1000) (hn : n + m ≤ 100000000000) (hbase : base ≤ w.heap.size)
    (h : ∀ v' w', w'.ownsRow base e 1 v' (n + m) (xs ++ news) → w.grownBy w' v.ownBlock → wpList P ops Q rest (a.put o.dst v') w') : wpList P ops Q (o :: rest) a w := by
  obtain ⟨i, hi1, hi2, hi3, hi4⟩ := info_parts hi
  have hbytes : (n + m) * bytes ≤ 140737488355328 := Nat.le_trans (Nat.mul_le_mul hn hb) (by decide)
  exact wpList_append_own _ hgd s x t ho base e i z 1 bytes ht hi1 hi2 hi3 hi4 hzs (by decide) v n xs hs hown ad m c news hx (by omega) hnews h1 (by unfold maxLen; omega) hbytes hbase fun v' w' a1 a2 _ => h v' w' a1 a2
end

theorem low_of {k : IntKind} {w : World} {a : Option Addr} {n : Nat} {zs : List Int} (h : IntCells k w a n zs) (hn : 0 < n) : ∀ b off, a = some ⟨b, off, none⟩ → b < w.heap.size := by
  rintro b off rfl
  obtain ⟨b2, o2, e2, h2⟩ := h.at_ hn
  injection e2 with e2
  injection e2 with e3 e4
  subst e3
  exact World.block_lt_of_cell? _ _ (h2 0 hn)

/-- Spread's state behind m blocks. -/
structure SPI (w : World) (who block m : Nat) (zs : List Int) (n : Nat) (v : Value) (A : Option Addr) (N C : Nat) (W : World) : Prop where
  own : W.ownsRow w.heap.size 3 1 v (m * block) ((spreadN zs who block m).map (Value.int .i64))
  box : Blk W w.heap.size [.slice A N C] 67
  raw : IntCells .u16 w A N (zs.drop (m * block))
  cap : N ≤ C
  num : m * block + N = n
  keep : Keep none_ w W

set_option maxRecDepth 100000 in
set_option maxHeartbeats 4000000 in
theorem spread_core (a : Option Addr) (n c : Nat) (zs : List Int) (who block : Nat) (w : World) (hz : IntCells .u16 w a n zs) (hn : n ≤ 1000000) (hnc : n ≤ c) (hb : ∀ j, j < n → 0 ≤ zs.getD j 0 ∧ zs.getD j 0 ≤ 65535)
    (h1 : 1 ≤ who) (h2 : who ≤ 16) (h3 : who ≤ block) (h4 : block ≤ 1000) :
    Calls Try.prog 41 #[.slice a n c, .int .i64 who, .int .i64 block] w fun e w' => (∃ v, e = .returned v ∧ w'.ownsRow w.heap.size 3 1 v (n / block * block) ((spreadN zs who block (n / block)).map (Value.int .i64))) ∧ Keep none_ w w' := by
  have hmk := run_mk (P := Try.prog) Try.underlying22 Try.infoI3 rfl (by decide) who (by omega) (who : Int) rfl
  have hmf : ∀ (fn : Fn) (first cap : Array Value) (w : World), (Instr.makeFunc fn first cap).run Try.prog w = .ok (.func fn first cap) w := fun _ _ _ _ => rfl
  have I0 : SPI w who block 0 zs n (.slice none 0 0) a n c (w.alloc (.cells #[.slice a n c] 67)) :=
    ⟨by simpa [spreadN] using World.ownsRow_nil _ _ _ _, Blk.new w [.slice a n c] 67, by simpa using hz, hnc, by omega, (Keep.refl _ _).alloc _⟩
  have HI0 := Lib.hid I0
  have HB := Lib.hid hb
  have hl := hz.len
  have HL := Lib.hid hl
  clear I0 hb hz hl
  have hd1 : decide (block < who) = false := decide_eq_false (by omega)
  have hd2 : decide ((block : Int) < who) = false := decide_eq_false (by omega)
  go_enter Try.func41, Try.ntmps41
  go_wp2_with fail
  go_loopg [7] n (fun g vv wr => ∃ (m N C : Nat) (A : Option Addr) (v : Value), N ≤ g ∧ v = vv ∧ Hid (SPI w who block m zs n v A N C wr))
  case atStart => exact ⟨0, n, c, a, _, Nat.le_refl _, rfl, HI0.out⟩
  case round =>
    clear HI0
    obtain ⟨m, N, C, A, v, hg, hvv, HI⟩ := hrel
    subst hvv
    have cR := HI.out.box.cell 0 rfl
    have fR := HI.out.box.free 0
    obtain ⟨g0, rfl⟩ : ∃ g0 : Nat, g0 = gk := ⟨_, rfl⟩
    obtain ⟨w0, rfl⟩ : ∃ w0 : World, w0 = wr := ⟨_, rfl⟩
    by_cases hlt : block ≤ N
    · have hltz : (block : Int) ≤ N := by omega
      have hNC := HI.out.cap
      have hnum := HI.out.num
      have hcutA : ∀ w, (Instr.slice 67 (.slice A N C) (some (.int .i64 (who : Int))) (some (.int .i64 (block : Int))) none).run Try.prog w = .ok (.slice (cutA A C who) (block - who) (C - who)) w := fun w => by
        simpa using run_cut2 (P := Try.prog) Try.underlying67 Try.infoU16 A N C who block (by omega) (by omega) (by omega) w
      have hcutB : ∀ w, (Instr.slice 67 (.slice A N C) (some (.int .i64 (block : Int))) none none).run Try.prog w = .ok (.slice (cutA A C block) (N - block) (C - block)) w := fun w =>
        run_cut (P := Try.prog) Try.underlying67 Try.infoU16 A N C block hlt w
      have hic2 := HI.out.raw.cut2 who (block - who) (by omega) hNC
      obtain ⟨A2, hA2⟩ : ∃ A2, A2 = cutA A C who := ⟨_, rfl⟩
      rw [← hA2] at hic2
      simp only [← hA2] at hcutA
      clear hA2
      go_wp2_with fail
      have hRsz := HI.out.keep.size
      have hRlt := HI.out.box.lt
      obtain ⟨w1, hw1⟩ : ∃ w1, w0.alloc (.cells (zeros (.int .i64 0) who).toArray 3) = w1 := ⟨_, rfl⟩
      rw [hw1]
      have hF0 : SS w1 w0.heap.size N who (List.replicate who 0) w1 := by
        refine ⟨by simp, ?_, Keep.refl _ _, fun j hj => ?_⟩
        · rw [← hw1]
          have := Blk.new w0 (zeros (.int .i64 0) who) 3
          simpa [zeros] using this
        · have : (List.replicate who (0 : Int)).getD j 0 = 0 := by simp [List.getD_eq_getElem?_getD, hj]
          rw [this]; omega
      have hbox1 : Blk w1 w.heap.size [.slice A N C] 67 := by rw [← hw1]; exact HI.out.box.alloc _
      have hkeep1 : Keep none_ w w1 := by rw [← hw1]; exact HI.out.keep.alloc _
      have hown1 : w1.ownsRow w.heap.size 3 1 v (m * block) ((spreadN zs who block m).map (Value.int .i64)) := by rw [← hw1]; exact HI.out.own.alloc _
      have hvlt : ∀ B, v.ownBlock = some B → ¬ only w0.heap.size B := fun B hB e => by
        have := (HI.out.own.lt B hB).2
        unfold only at e
        omega
      have HF0 := Lib.hid hF0
      have HB1 := Lib.hid (And.intro hbox1 (And.intro hkeep1 hown1))
      have HV := Lib.hid hvlt
      have HIC := Lib.hid hic2
      clear hF0 hbox1 hkeep1 hown1 hvlt hw1 cR fR hic2
      go_loopg [38] who (fun g vi wr => ∃ (j : Nat) (cur : List Int), g + j = who ∧ vi = .int .i64 j ∧ Hid (∀ i, i < j → cur.getD i 0 = i) ∧ Hid (SS w1 w0.heap.size N who cur wr))
      case atStart => exact ⟨0, _, by omega, rfl, fun i h => absurd h (by omega), HF0.out⟩
      case round =>
        clear HF0
        obtain ⟨j, cur, hj, rfl, HU, HS⟩ := hrel
        by_cases hjw : j < who
        · have cj := HS.out.cell j hjw
          have fj := HS.out.blk.free j
          go_wp2_with fail
          go_roundg (gk - 1)
          case measure => omega
          case rel => exact ⟨j + 1, cur.set j j, by omega, by go_num, fun i hi => by
            have hl := HS.out.len
            rw [List.getD_eq_getElem?_getD, List.getElem?_set]
            split
            · rename_i e; subst e; rw [if_pos (by omega)]; rfl
            · rename_i e; rw [← List.getD_eq_getElem?_getD]; exact HU.out i (by omega), HS.out.put j j ⟨by omega, by omega⟩⟩
        · obtain rfl : j = who := by omega
          have hcur : cur = uptoL j := by
            apply List.ext_getElem
            · rw [HS.out.len]; simp [uptoL]
            · intro i hi hi2
              have hi3 : i < j := by rw [← HS.out.len]; exact hi
              have h1 := HU.out i hi3
              have h2 := uptoL_get j i hi3
              rw [getD_of hi] at h1
              rw [getD_of hi2] at h2
              rw [h1, h2]
          subst hcur
          have hkr : Keep none_ w wr := HB1.out.2.1.onNew HS.out.keep (by omega)
          have hboxr : Blk wr w.heap.size [.slice A N C] 67 := HS.out.keep.blk HB1.out.1 (fun e => by unfold only at e; omega)
          have hownr := own_keep HB1.out.2.2 HS.out.keep HV.out
          have hsort := sortS_any w0.heap.size w.heap.size N C j j (uptoL j) A (zs.drop (m * block)) wr ⟨HS.out.len, HS.out.blk, Keep.refl _ _, HS.out.bnd⟩ hboxr (HI.out.raw.below hkr) (by omega) (fun b off e => by have := low_of HI.out.raw (by omega) b off e; omega) h1 (by omega)
          have HSO := Lib.hid hsort
          have HKR := Lib.hid (And.intro hkr (And.intro hboxr hownr))
          clear hsort hkr hboxr hownr HB1 HS HU
          go_wp2_with fail
          refine HSO.out.mono ?_
          rintro e w2 ⟨rfl, hS⟩
          have hown2 := own_keep HKR.out.2.2 hS.keep HV.out
          have hkeep2 := HKR.out.1.onNew hS.keep (by omega)
          have hbox2 := hS.keep.blk HKR.out.2.1 (fun e => by unfold only at e; omega)
          have hne2 := own_ne hbox2 hown2 (by decide)
          have hsz2 := hkeep2.size
          have hold : ((orderL j (zs.drop (m * block))).map (Value.int .i64)).length = j := by rw [List.length_map, orderL_len]
          have hnews : ∀ q u, ((orderL j (zs.drop (m * block))).map (Value.int .i64))[q]? = some u → w2.cell? ((⟨w0.heap.size, 0, none⟩ : Addr).add q) = some u := fun q u hq => by
            have ea : (⟨w0.heap.size, 0, none⟩ : Addr).add q = ⟨w0.heap.size, 0 + q, none⟩ := by simp only [Addr.add]; split <;> simp_all
            rw [ea, Nat.zero_add]
            exact hS.blk.cell q hq
          have hone : ∀ u ∈ (orderL j (zs.drop (m * block))).map (Value.int .i64), u.oneCell' = true := fun u hu => by
            obtain ⟨x, _, rfl⟩ := List.mem_map.1 hu
            rfl
          have hmb : m * block ≤ 1000000 := by omega
          have HO := Lib.hid (And.intro hold (And.intro hnews hone))
          clear hold hnews hone
          go_wp2_with (at_builtin; refine appendN rfl _ _ 22 rfl Try.underlying22 Try.infoI3 rfl rfl hown2 rfl HO.out.1 HO.out.2.1 HO.out.2.2 (by decide) (by omega) hsz2 ?_; intro v' w3 hown3 hgr; have hkeep3 := hkeep2.grew hown2 (Nat.le_refl _) hgr; have hbox3 := hbox2.grown hgr hne2; have cR3 := hbox3.cell 0 rfl)
          rw [← List.map_append] at hown3
          have HW3 := Lib.hid (And.intro hown3 (And.intro hbox3 hkeep3))
          obtain ⟨R, hR⟩ : ∃ R, R = ((zs.drop (m * block)).drop j).take (block - j) := ⟨_, rfl⟩
          have hRx : ∀ q, q < block - j → 0 ≤ R.getD q 0 ∧ R.getD q 0 ≤ 65535 := fun q hq => by
            have e : R.getD q 0 = zs.getD (m * block + (j + q)) 0 := by
              rw [hR]; simp [List.getD_eq_getElem?_getD, List.getElem?_drop, hq, Nat.add_assoc]
            rw [e]; exact HB.out _ (by omega)
          have hRl : R.length = block - j := by
            rw [hR]
            have := HL.out
            simp only [List.length_take, List.length_drop]; omega
          rw [← hR] at HIC
          have HRX := Lib.hid hRx
          have HR := Lib.hid hR
          clear hown2 hkeep2 hbox2 hne2 hsz2 HO hown3 hgr hkeep3 hbox3 cR3 hR hRx hS HSO HKR HV
          go_loopg [57, 7] (block - j) (fun g vi vv wr => ∃ (q : Nat) (v : Value), g + q = block - j ∧ vi = .int .i64 q ∧ v = vv ∧ Hid (wr.ownsRow w.heap.size 3 1 v (m * block + j + q) ((spreadN zs j block m ++ orderL j (zs.drop (m * block)) ++ (R.take q).map (fun x => x % (j : Int))).map (Value.int .i64)) ∧ Blk wr w.heap.size [.slice A N C] 67 ∧ Keep none_ w wr))
          case atStart => exact ⟨0, _, by omega, rfl, rfl, by unfold Hid; simpa using HW3.out⟩
          case round =>
            clear HW3
            obtain ⟨q, v2, hq, rfl, hv2, HWQ⟩ := hrel
            subst hv2
            by_cases hqb : q < block - j
            · obtain ⟨b, off, rfl, hc⟩ := (HIC.out.below HWQ.out.2.2).at_ (by omega)
              have hcq := hc q hqb
              have hx := HRX.out q hqb
              have htk := take_succ_getD R q (by omega)
              generalize R.getD q 0 = x at hcq hx htk
              have hsz := HWQ.out.2.2.size
              have hownq := HWQ.out.1
              have hneq := own_ne HWQ.out.2.1 hownq (by decide)
              have HT := Lib.hid htk
              have HNE := Lib.hid hneq
              have hm0 : 0 ≤ x % (j : Int) := Int.emod_nonneg _ (by omega)
              have hm1 : x % (j : Int) < j := Int.emod_lt_of_pos _ (by omega)
              clear hc htk hneq
              go_wp2_with (at_builtin; refine append1 rfl _ _ 22 rfl Try.underlying22 Try.infoI3 rfl rfl hownq rfl rfl (by decide) (by omega) hsz ?_; intro v' w' hown' hgr)
              go_roundg (gk - 1)
              case measure => omega
              case rel =>
                refine ⟨q + 1, _, by omega, by go_num, rfl, ?_, HWQ.out.2.1.grown hgr HNE.out, HWQ.out.2.2.grew hownq (Nat.le_refl _) hgr⟩
                rw [HT.out]
                simp only [List.map_append, List.map_cons, List.map_nil, List.append_assoc] at hown' ⊢
                exact hown'
            · obtain rfl : q = block - j := by omega
              have cR := HWQ.out.2.1.cell 0 rfl
              have fR := HWQ.out.2.1.free 0
              go_wp2_with fail
              go_roundg (g0 - block)
              case measure => omega
              case rel =>
                have e1 : m * block + j + (block - j) = (m + 1) * block := by rw [Nat.add_mul, Nat.one_mul]; omega
                have e2 : spreadN zs j block m ++ orderL j (zs.drop (m * block)) ++ (R.take (block - j)).map (fun x => x % (j : Int)) = spreadN zs j block (m + 1) := by
                  rw [List.take_of_length_le (by omega), HR.out, spreadN, blockL, List.append_assoc]
                have hne := own_ne HWQ.out.2.1 HWQ.out.1 (by decide)
                have hown := own_keep HWQ.out.1 ((Keep.refl (only w.heap.size) wr).put 0 (.slice (cutA A C block) (N - block) (C - block))) (fun B h1 h2 => hne (by rw [h1, h2]))
                rw [e1, e2] at hown
                have hraw := HI.out.raw.cut2 block (N - block) (by omega) hNC
                have hll := HI.out.raw.len
                rw [List.take_of_length_le (by simp only [List.length_drop] at hll ⊢; omega), List.drop_drop, ← Nat.add_one_mul] at hraw
                exact ⟨m + 1, N - block, C - block, cutA A C block, v2, by omega, rfl, hown, HWQ.out.2.1.set 0 _, hraw, by omega, by rw [Nat.add_mul, Nat.one_mul]; omega, HWQ.out.2.2.putNew (Nat.le_refl _) 0 _⟩
    · have hlt' : ¬ (block : Int) ≤ N := by omega
      have hm : m = n / block := by
        have h := HI.out.num
        refine (Nat.div_eq_of_lt_le (by omega) ?_).symm
        rw [Nat.add_mul, Nat.one_mul]
        omega
      have HM := Lib.hid hm
      clear hm
      go_wp2_with fail
      go_ret
      exact ⟨⟨_, rfl, by rw [← HM.out]; exact HI.out.own⟩, HI.out.keep⟩

def badSpread (who block : Int) : Prop := who < 1 ∨ 16 < who ∨ block < who ∨ 1000 < block
set_option maxHeartbeats 1000000 in
theorem spread_none (a : Option Addr) (n c : Nat) (who block : Int) (w : World) (h : badSpread who block) :
    Calls Try.prog 41 #[.slice a n c, .int .i64 who, .int .i64 block] w fun e w' => e = .returned (.slice none 0 0) ∧ Keep none_ w w' := by
  rcases (show who < 1 ∨ 1 ≤ who ∧ 16 < who ∨ (1 ≤ who ∧ who ≤ 16) ∧ block < who ∨ (1 ≤ who ∧ who ≤ 16) ∧ who ≤ block ∧ 1000 < block by unfold badSpread at h; omega) with h1 | ⟨h1, h2⟩ | ⟨⟨h1, h2⟩, h3⟩ | ⟨⟨h1, h2⟩, h3, h4⟩
  · clear h
    go_enter Try.func41, Try.ntmps41
    go_wp2_with fail
    go_ret
    exact ⟨rfl, (Keep.refl _ _).alloc _⟩
  · clear h
    go_enter Try.func41, Try.ntmps41
    go_wp2_with fail
    go_ret
    exact ⟨rfl, (Keep.refl _ _).alloc _⟩
  · clear h
    go_enter Try.func41, Try.ntmps41
    go_wp2_with fail
    go_ret
    exact ⟨rfl, (Keep.refl _ _).alloc _⟩
  · clear h
    go_enter Try.func41, Try.ntmps41
    go_wp2_with fail
    go_ret
    exact ⟨rfl, (Keep.refl _ _).alloc _⟩
end Go.Proofs.Ytcdmlinaebnbcaa
