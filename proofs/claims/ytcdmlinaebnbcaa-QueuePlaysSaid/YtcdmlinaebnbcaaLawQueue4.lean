/- The walk of QueuePlays. -/
import Derived.Test.YtcdmlinaebnbcaaRows4
import Derived.Test.YtcdmlinaebnbcaaCut3
import Derived.Test.YtcdmlinaebnbcaaLawQueue2
import Derived.Deep.QuietTactic
import Derived.BigQuiet
import Derived.BigRegion
import Derived.Deep.RegionLawGrows
import Derived.Deep.CutBlock
import Derived.Deep.DeepCutAuto
import Derived.Lib.SmallJoins
import Derived.Deep.RegionHeld3
namespace Go.Proofs.Ytcdmlinaebnbcaa
open Go.RowKit

theorem addr_add (b off j : Nat) : (⟨b, off, none⟩ : Addr).add j = ⟨b, off + j, none⟩ := by simp only [Addr.add]; split <;> simp_all
/-- append under another name: the walk does not lay it open. -/
def app9 (ats : Array TypeId) (ty : TypeId) (args : Array Value) : Sem Value := Builtin.append_ ats ty args
theorem app9_of (ats : Array TypeId) (ty : TypeId) (args : Array Value) : Builtin.append_ ats ty args = app9 ats ty args := rfl
theorem run_grows_slice {P : Program} {w : World} (t ty : TypeId) (e : TypeId) (i : TypeInfo) (z : Value) (size bytes : Nat) (h1 : P.underlying t = some (.slice e)) (h2 : P.info? e = some i) (h3 : i.zero = some z) (h4 : i.size = size) (h5 : i.bytes = bytes) (h6 : z.cells.size = size) (h7 : 0 < size)
    (ao : Option Addr) (n cap : Nat) (olds : List Value) (hnone : ao = none → n = 0 ∧ cap = 0) (hlo : olds.length = n * size) (holds : ∀ b, ao = some b → ∀ j u, olds[j]? = some u → w.cell? (b.add j) = some u)
    (ad : Addr) (m c : Nat) (news : List Value) (hn : news.length = m * size) (hc : ∀ j u, news[j]? = some u → w.cell? (ad.add j) = some u) (h1c : ∀ u ∈ news, u.oneCell' = true)
    (hfull : cap < n + m) (b1 : n + m ≤ maxLen) (b2 : (n + m) * bytes ≤ 140737488355328) :
    ∃ g cap' w', (app9 #[t, t] ty #[.slice ao n cap, .slice (some ad) m c]).run P w = .ok (.slice (some ⟨g, 0, none⟩) (n + m) cap') w' ∧ w'.ownsRow w.heap.size e size (.slice (some ⟨g, 0, none⟩) (n + m) cap') (n + m) (olds ++ news) ∧ w.grownBy w' none := by
  have key : ∃ v' w', (app9 #[t, t] ty #[.slice ao n cap, .slice (some ad) m c]).run P w = .ok v' w' ∧ w'.ownsRow w.heap.size e size v' (n + m) (olds ++ news) ∧ w.grownBy w' none := by
    cases ao with
    | some b =>
      obtain ⟨v', w', hrun, r1, r2⟩ := run_append_arg_grows (P := P) w t ty e i z size bytes h1 h2 h3 h4 h5 h6 h7 b n cap olds hlo (holds b rfl) ad m c news hn hc hfull b1 b2
      exact ⟨v', w', hrun, r1, r2⟩
    | none =>
      obtain ⟨rfl, rfl⟩ := hnone rfl
      obtain rfl : olds = [] := List.eq_nil_of_length_eq_zero (by simpa using hlo)
      obtain ⟨v', w', hrun, r1, r2, _⟩ := run_append_own (P := P) w w.heap.size t ty e i z size bytes h1 h2 h3 h4 h5 h6 h7 (.slice none 0 0) 0 [] (World.ownsRow_nil w _ e size) ad m c news hn hc h1c b1 b2 (Nat.le_refl _)
      exact ⟨v', w', hrun, r1, r2⟩
  obtain ⟨v', w', hrun, r1, r2⟩ := key
  obtain ⟨g, cap', rfl⟩ := Joins.ownsRow_form r1 (by omega)
  exact ⟨g, cap', w', hrun, r1, r2⟩
attribute [local go_sem ↓] app9_of
/-- One is put into the class k, in both. -/
theorem QP.put {w : World} {R i : Nat} {q : Qu} {W W2 W3 : World} (h : QP w R i q W) (k : Nat) (hk : k < 4) (x : Int) (h2 : QuAt W2 w.heap.size (q.put k x)) (hk2 : Keep (only w.heap.size) W W2) (h3 : Keep none_ W2 W3) {v : Value}
    (hr : RowV W3 3 v ((q.rw k ++ [x]).map (Value.int .i64))) : QP w R (i + 1) (q.put k x) (W3.setCell ⟨R, k, none⟩ v) := by
  have hrw3 := (h.rw.queue h.qu hk2).still h3
  have hset := hrw3.setRow k hk hr
  have hkR : Keep (only R) W3 (W3.setCell ⟨R, k, none⟩ v) := (Keep.refl (only R) _).put _ _
  have hl := h.qu.len
  have ht := q.put_tot hl k hk x
  have := h.tot
  have := h.opn
  have hkn : Keep none_ w W3 := (h.keep.onNew hk2 (Nat.le_refl _)).trans h3
  refine ⟨(h2.still h3).rows hrw3 hkR, ?_, h.new, by omega, ?_, hkn.putNew h.new _ _⟩
  · have e : (q.put k x).rows = q.rows.set k (q.rw k ++ [x]) := by simp [Qu.put, Qu.row_of]
    rw [e]; exact hset
  · have e : (q.put k x).opn = q.opn := rfl
    omega

set_option maxRecDepth 100000 in
set_option maxHeartbeats 8000000 in
theorem queuePlays_any (a0 : Option Addr) (n0 c0 : Nat) (z0 : List (List Value)) (w : World) (hw0 : Flats [.int .u8, .int .i64, .int .i64] w a0 n0 z0) (hm0 : n0 ≤ maxLen) :
    Calls Try.prog 8 #[.slice a0 n0 c0] w fun e w' => e = .returned (.bool true) ∧ Keep none_ w w' := by
  unfold maxLen at hm0
  by_cases hbig : 200 < n0
  · clear hw0
    go_enter Try.func8, Try.ntmps8
    go_wp2_with (go_at_call 28; refine (awake14_any _).mono ?_; rintro e w1 ⟨rfl, hk⟩)
    go_ret
    exact ⟨rfl, hk⟩
  have hl := hw0.len
  have HW := Lib.hid hw0
  have HL := Lib.hid hl
  clear hw0 hl
  go_enter Try.func8, Try.ntmps8
  go_wp2_with (go_at_call 29; refine (qNew_any _).mono ?_; rintro e w1 ⟨rfl, hq1, hk1⟩)
  have hP : QP w w1.heap.size 0 ⟨[[], [], [], []], 0⟩ (w1.alloc (.cells #[.slice none 0 0, .slice none 0 0, .slice none 0 0, .slice none 0 0] 50)) :=
    ⟨hq1.still ((Keep.refl _ _).alloc _), RwAt.new w1, hk1.size, by decide, by decide, hk1.alloc _⟩
  have HP := Lib.hid hP
  obtain ⟨R, hR⟩ : ∃ R, R = w1.heap.size := ⟨_, rfl⟩
  rw [← hR] at HP ⊢
  clear hP hq1 hk1 hR
  go_loopg [6, 5] n0 (fun g vi vo wr => ∃ (i : Nat) (q : Qu), g + i = n0 ∧ vi = .int .i64 i ∧ vo = .int .i64 q.opn ∧ Hid (QP w R i q wr))
  case atStart => exact ⟨0, _, by omega, rfl, rfl, HP.out⟩
  case round =>
    clear HP
    obtain ⟨i, q, hg, rfl, rfl, HQ⟩ := hrel
    by_cases hlt : i < n0
    · obtain ⟨b, off, rfl, hcell⟩ := HW.out.at_ (by omega)
      have hl := HL.out
      have hok := HW.out.ok z0[i] (List.getElem_mem _)
      obtain ⟨v0, hv0, kind, rfl, hw0⟩ := hok.at_ 0 (.int .u8) rfl
      obtain ⟨v1, hv1, k, rfl, hw1⟩ := hok.at_ 1 (.int .i64) rfl
      obtain ⟨v2, hv2, x, rfl, hw2⟩ := hok.at_ 2 (.int .i64) rfl
      have c0' := hcell i z0[i] (List.getElem?_eq_getElem _) 0 _ hv0
      have c1' := hcell i z0[i] (List.getElem?_eq_getElem _) 1 _ hv1
      have c2' := hcell i z0[i] (List.getElem?_eq_getElem _) 2 _ hv2
      have bx := bounds_i64 hw2
      have bk := bounds_i64 hw1
      simp at c0' c1' c2'
      have C0 := Lib.hid c0'; have C1 := Lib.hid c1'; have C2 := Lib.hid c2'
      have d0 := HQ.out.keep.still C0.out
      have d1 := HQ.out.keep.still C1.out
      have d2 := HQ.out.keep.still C2.out
      clear hcell hok hv0 hv1 hv2 hw0 hw1 hw2 c0' c1' c2' hl
      obtain ⟨g0, rfl⟩ : ∃ g0 : Nat, g0 = gk := ⟨_, rfl⟩
      obtain ⟨w0, rfl⟩ : ∃ w0 : World, w0 = wr := ⟨_, rfl⟩
      by_cases hin : 0 ≤ k ∧ k < 4
      · obtain ⟨hin0, hin4⟩ := hin
        obtain ⟨kk, rfl⟩ : ∃ kk : Nat, k = kk := ⟨k.toNat, by omega⟩
        have hkk : kk < 4 := by omega
        have hcls := cls_of kk hkk
        clear hin0
        go_upto_block 2 with fail
        go_cut [5] (fun op wx => ∃ q' : Qu, op = .int .i64 q'.opn ∧ Hid (QP w R (i + 1) q' wx))
        case first =>
          have hpos : 0 ≤ (kk : Int) := by omega
          rcases (show kind = 0 ∨ kind = 1 ∨ kind = 2 ∨ (kind ≠ 0 ∧ kind ≠ 1 ∧ kind ≠ 2) by omega) with rfl | rfl | rfl | ⟨hk0, hk1, hk2⟩
          · as_aux_lemma =>
              obtain ⟨a, n, c, hc, hr, hn⟩ := HQ.out.cell kk hkk
              rcases Nat.eq_zero_or_pos n with hn0 | hn0
              · subst hn0
                have hnil : q.row (kk : Int) = [] := by rw [q.row_of]; exact List.eq_nil_of_length_eq_zero hn.symm
                have HT := Lib.hid (qTake_empty w.heap.size q kk w0 HQ.out.qu hcls hnil)
                clear hr hn hnil hcls
                go_wp2_with (go_at_call 30; refine HT.out.mono ?_; rintro e w2 ⟨rfl, rfl⟩)
                go_meet
                case rel => exact ⟨q, rfl, HQ.out.mono (by omega)⟩
              · obtain ⟨x0, xs, hxs⟩ : ∃ x0 xs, q.rw kk = x0 :: xs := by
                  cases h : q.rw kk with
                  | nil => rw [h] at hn; simp at hn; omega
                  | cons x0 xs => exact ⟨x0, xs, rfl⟩
                have ho := HQ.out.opn
                have HT := Lib.hid (qTake_yes w.heap.size q kk x0 xs w0 HQ.out.qu hcls (by rw [q.row_of]; exact hxs) (by omega))
                have hcut : ∀ w, (Instr.slice 22 (.slice a n c) (some (.int .i64 1)) none none).run Try.prog w = .ok (.slice (cutA a c 1) (n - 1) (c - 1)) w := fun w =>
                  run_cut (P := Try.prog) Try.underlying22 Try.sizeInt a n c 1 hn0 w
                have HN := Lib.hid hn
                have HC := Lib.hid hc
                have HR := Lib.hid hr
                have HXS := Lib.hid hxs
                clear hc hr hn hxs hcls
                go_wp2_with fail
                refine HT.out.mono ?_
                rintro e w2 ⟨rfl, hq2, hk2⟩
                have hrw2 := HQ.out.rw.queue HQ.out.qu hk2
                have hc2 : w2.cell? ⟨R, kk, none⟩ = some (.slice a n c) := hk2.cellv HC.out (fun e => HQ.out.qu.ne HQ.out.rw e.symm)
                have fR := hrw2.free kk
                have hr2 : RowV w2 3 (.slice a n c) ((q.rw kk).map (Value.int .i64)) := by
                  obtain ⟨_, us, _, hbq, _⟩ := HQ.out.qu
                  exact HR.out.only hk2 hbq (by decide)
                obtain ⟨br, or, rfl, hcs⟩ := hr2.cells.2.2.2 hn0
                have hx0 := hcs 0 (.int .i64 x0) (by rw [HXS.out]; rfl)
                rw [Nat.add_zero] at hx0
                have HP2 := Lib.hid (HQ.out.take kk hkk (by rw [HXS.out]; simp) hq2 hk2 HR.out)
                clear hcs hr2 hrw2 hq2 hk2
                go_wp2_with fail
                go_meet
                case rel => exact ⟨q.take kk, by simp [Qu.take], HP2.out⟩
          · as_aux_lemma =>
              have ho := HQ.out.opn
              rcases q.least with hall | ⟨m, x0, xs, hm, hxs, hlow⟩
              · have HT := Lib.hid (qAny_none w.heap.size q w0 HQ.out.qu hall)
                have HALL := Lib.hid hall
                clear hall hcls
                go_wp2_with (go_at_call 31; refine HT.out.mono ?_; rintro e w2 ⟨rfl, rfl⟩)
                go_loopg [7] 4 (fun g vk wr => ∃ m : Nat, g + m = 4 ∧ vk = .int .i64 m ∧ wr = w0)
                case atStart => exact ⟨0, by omega, rfl, rfl⟩
                case round =>
                  obtain ⟨m, hgm, rfl, rfl⟩ := hrel
                  by_cases hm : m < 4
                  · obtain ⟨a, n, c, hc, hr, hn⟩ := HQ.out.cell m hm
                    rw [HALL.out m hm] at hn
                    simp at hn
                    subst hn
                    clear hr
                    go_wp2_with fail
                    go_roundg (gk - 1)
                    case measure => omega
                    case rel => exact ⟨m + 1, by omega, by go_num, rfl⟩
                  · obtain rfl : m = 4 := by omega
                    go_wp2_with fail
                    go_roundg (g0 - 1)
                    case measure => omega
                    case rel => exact ⟨i + 1, q, by omega, by go_num, rfl, HQ.out.mono (by omega)⟩
              · have HT := Lib.hid (qAny_yes w.heap.size q m x0 xs w0 HQ.out.qu hm hlow hxs (by omega))
                have HLOW := Lib.hid hlow
                have HXS := Lib.hid hxs
                clear hlow hxs hcls
                go_wp2_with fail
                refine HT.out.mono ?_
                rintro e w2 ⟨rfl, hq2, hk2⟩
                have hne : ¬ only w.heap.size R := fun e => HQ.out.qu.ne HQ.out.rw e.symm
                have HNE := Lib.hid hne
                have HK2 := Lib.hid hk2
                have HQ2 := Lib.hid hq2
                clear hq2 hk2 hne
                go_wp2_with fail
                go_loopg [7] m (fun g vk wr => ∃ j : Nat, g + j = m ∧ vk = .int .i64 j ∧ wr = w2)
                case atStart => exact ⟨0, by omega, rfl, rfl⟩
                case round =>
                  obtain ⟨j, hgj, rfl, rfl⟩ := hrel
                  obtain ⟨a, n, c, hc, hr, hn⟩ := HQ.out.cell j (by omega)
                  have hc2 := HK2.out.cellv hc HNE.out
                  by_cases hjm : j < m
                  · rw [HLOW.out j hjm] at hn
                    simp at hn
                    subst hn
                    have hj4 : (j : Int) < 4 := by omega
                    clear hr hc
                    go_wp2_with fail
                    go_roundg (gk - 1)
                    case measure => omega
                    case rel => exact ⟨j + 1, by omega, by go_num, rfl⟩
                  · obtain rfl : j = m := by omega
                    have hn0 : 0 < n := by rw [hn, HXS.out]; simp
                    have hcut : ∀ w, (Instr.slice 22 (.slice a n c) (some (.int .i64 1)) none none).run Try.prog w = .ok (.slice (cutA a c 1) (n - 1) (c - 1)) w := fun w =>
                      run_cut (P := Try.prog) Try.underlying22 Try.sizeInt a n c 1 hn0 w
                    have hr2 : RowV wr 3 (.slice a n c) ((q.rw j).map (Value.int .i64)) := by
                      obtain ⟨_, us, _, hbq, _⟩ := HQ.out.qu
                      exact hr.only HK2.out hbq (by decide)
                    have fR := (HQ.out.rw.queue HQ.out.qu HK2.out).free j
                    have HP2 := Lib.hid (HQ.out.take j hm (by rw [HXS.out]; simp) HQ2.out HK2.out hr)
                    obtain ⟨br, or, rfl, hcs⟩ := hr2.cells.2.2.2 hn0
                    have hx0 := hcs 0 (.int .i64 x0) (by rw [HXS.out]; rfl)
                    rw [Nat.add_zero] at hx0
                    have hj4 : (j : Int) < 4 := by omega
                    have hj5 : ((j : Int) == 4) = false := beq_eq_false_iff_ne.2 (by omega)
                    have hnz : ((n : Int) == 0) = false := beq_eq_false_iff_ne.2 (by omega)
                    clear hr hc hr2 hcs hn
                    go_wp2_with fail
                    go_meet
                    case rel => exact ⟨q.take j, by simp [Qu.take], HP2.out⟩
          · as_aux_lemma =>
              have ho := HQ.out.opn
              rcases Nat.eq_zero_or_pos q.opn with h0 | h0
              · have HD := Lib.hid (qDone_is (n := (11 : Int)) (q' := q.doneQ) HQ.out.qu (by omega) (by simp [Qu.doneE, h0]) rfl)
                have h0z : (q.opn : Int) = 0 := by omega
                have HH := Lib.hid h0
                go_wp2_with (go_at_call 32; refine HD.out.mono ?_; rintro e w2 ⟨rfl, hq2, hk2⟩)
                all_goals
                  go_meet
                  case rel => exact ⟨q.doneQ, by simp [Qu.doneQ, Qu.setOpn, HH.out], HQ.out.done hq2 rfl (by simp [Qu.doneQ, Qu.setOpn]) hk2⟩
              · have HD := Lib.hid (qDone_is (n := (0 : Int)) (q' := q.doneQ) HQ.out.qu (by omega) (by simp [Qu.doneE]; omega) rfl)
                have h0z : (0 : Int) < q.opn := by omega
                have h0y : ((q.opn : Int) == 0) = false := beq_eq_false_iff_ne.2 (by omega)
                have hov : (q.opn : Int) ≤ 300 := by omega
                have HH := Lib.hid h0
                clear h0
                go_wp2_with (go_at_call 32; refine HD.out.mono ?_; rintro e w2 ⟨rfl, hq2, hk2⟩)
                all_goals
                  go_meet
                  case rel => exact ⟨q.doneQ, congrArg (Value.int .i64) (by have := HH.out; simp only [Qu.doneQ, Qu.setOpn]; omega), HQ.out.done hq2 rfl (by simp [Qu.doneQ, Qu.setOpn]) hk2⟩
          · have e0 : (kind == 0) = false := beq_eq_false_iff_ne.2 hk0
            have e1 : (kind == 1) = false := beq_eq_false_iff_ne.2 hk1
            have e2 : (kind == 2) = false := beq_eq_false_iff_ne.2 hk2
            by_cases hx : x < 0
            · as_aux_lemma =>
                have HT := Lib.hid (qPut_no w.heap.size kk x w0 (by simp [putOk]; omega))
                clear hk0 hk1 hk2
                go_wp2_with (go_at_call 33; refine HT.out.mono ?_; rintro e w2 ⟨rfl, rfl⟩)
                go_roundg (g0 - 1)
                case measure => omega
                case rel => exact ⟨i + 1, q, by omega, by go_num, rfl, HQ.out.mono (by omega)⟩
            · as_aux_lemma =>
                have ho := HQ.out.tot
                have hrl := q.rw_le HQ.out.qu.len kk
                have HT := Lib.hid (qPut_yes w.heap.size q kk x w0 HQ.out.qu (by simp [putOk, hcls]; omega) (by rw [q.row_of]; omega))
                obtain ⟨a, n, c, hc, hr, hn⟩ := HQ.out.cell kk hkk
                have HN := Lib.hid hn
                have HR := Lib.hid hr
                have hn300 : (n : Int) ≤ 300 := by omega
                have hne : ¬ only w.heap.size R := fun e => HQ.out.qu.ne HQ.out.rw e.symm
                have HNE := Lib.hid hne
                have HC := Lib.hid hc
                clear hk0 hk1 hk2 hr hn hne hc
                go_wp2_with fail
                refine HT.out.mono ?_
                rintro e w2 ⟨rfl, hq2, hk2⟩
                have hc2 : w2.cell? ⟨R, kk, none⟩ = some (.slice a n c) := hk2.cellv HC.out HNE.out
                have fR := (HQ.out.rw.queue HQ.out.qu hk2).free kk
                have hRlt := (HQ.out.rw.queue HQ.out.qu hk2).lt
                have d22 : w2.cell? _ = _ := hk2.cellv d2 (fun e => by unfold only at e; simp at e; have := World.block_lt_of_cell? _ _ C2.out; simp at this; omega)
                have hr2 : RowV w2 3 (.slice a n c) ((q.rw kk).map (Value.int .i64)) := by
                  obtain ⟨_, us, _, hbq, _⟩ := HQ.out.qu
                  exact HR.out.only hk2 hbq (by decide)
                have HR2 := Lib.hid hr2
                have HK2 := Lib.hid hk2
                have HQ2 := Lib.hid hq2
                clear hk2 hq2 d0 d1 d2 hr2
                have hcut3 : ∀ w, (Instr.slice 22 (.slice a n c) none (some (.int .i64 (n : Int))) (some (.int .i64 (n : Int)))).run Try.prog w = .ok (.slice (cutA a n 0) n n) w := fun w => run_cut3 (P := Try.prog) Try.underlying22 Try.sizeInt a n c n HR.out.cells.2.1 w
                obtain ⟨A3, hA3⟩ : ∃ A3, A3 = cutA a n 0 := ⟨_, rfl⟩
                simp only [← hA3] at hcut3
                have HA3 := Lib.hid hA3
                have HNONE : Hid (A3 = none → n = 0 ∧ n = 0) := fun e => by
                  rcases Nat.eq_zero_or_pos n with h0 | h0
                  · exact ⟨h0, h0⟩
                  · obtain ⟨b, off, rfl, _⟩ := HR.out.cells.2.2.2 h0
                    rw [HA3.out, cutA] at e
                    split at e <;> simp at e
                have HLO : Hid (((q.rw kk).map (Value.int .i64)).length = n * 1) := by have := HN.out; unfold Hid; simp; omega
                have HOLD : Hid (∀ W, Keep none_ w2 W → ∀ b, A3 = some b → ∀ (j : Nat) (u : Value), ((q.rw kk).map (Value.int .i64))[j]? = some u → W.cell? (b.add j) = some u) := fun W hW b e j u hu => by
                  have hj := (List.getElem?_eq_some_iff.1 hu).1
                  have hl := HLO.out
                  obtain ⟨b1, off, rfl, hcs⟩ := HR2.out.cells.2.2.2 (by omega)
                  have e' : b = (⟨b1, off, none⟩ : Addr) := by
                    rw [HA3.out, cutA] at e
                    split at e <;> simp [Addr.add] at e <;> exact e.symm
                  subst e'
                  have := hW.still (hcs j u hu)
                  rw [addr_add]; exact this
                obtain ⟨i0, hi0, hz0, hz1, hz2⟩ := info_parts Try.infoInt
                have HI0 := Lib.hid hi0; have HZ0 := Lib.hid hz0; have HZ1 := Lib.hid hz1; have HZ2 := Lib.hid hz2
                have HPUT : Hid (∀ W3 W4 v' base m, Keep none_ w2 W3 → World.grownBy W3 W4 none → W4.ownsRow base 3 1 v' m ((q.rw kk).map (Value.int .i64) ++ [.int .i64 x]) → m ≤ 1000 → QP w R (i + 1) (q.put kk x) (W4.setCell ⟨R, kk, none⟩ v')) := fun W3 W4 v' base m h3 h4 h5 h6 =>
                  HQ.out.put kk hkk x HQ2.out HK2.out (h3.grown h4 (fun _ e => by cases e)) (by have := RowV.ofOwn h5 (by omega); simpa using this)
                have HC4 : Hid (∀ W3 W4, Keep none_ w2 W3 → World.grownBy W3 W4 none → W4.cell? ⟨R, kk, none⟩ = some (.slice a n c) ∧ W4.frozen? ⟨R, kk, none⟩ = false ∧ W4.cell? ⟨b, off + i * 3 + 2, none⟩ = some (.int .i64 x)) := fun W3 W4 h3 h4 => by
                  have hk := h3.grown (row := none) h4 (fun _ e => by cases e)
                  exact ⟨hk.still hc2, by rw [hk.frozen hRlt (fun f => f)]; exact fR, hk.still d22⟩
                have HKW : Hid (Keep none_ w2 (w2.alloc (.cells #[.int .i64 x] 3)).drew) := ((Keep.refl _ _).alloc _).drew
                have HNEW : Hid (∀ (j : Nat) (u : Value), [Value.int .i64 x][j]? = some u → (w2.alloc (.cells #[.int .i64 x] 3)).drew.cell? ((⟨w2.heap.size, 0, none⟩ : Addr).add j) = some u) := fun j u hu => by
                  cases j with
                  | zero => simp at hu; subst hu; rw [addr_add]; exact (Blk.new w2 [.int .i64 x] 3).cell 0 rfl
                  | succ j => simp at hu
                have HALW := Lib.hid (HC4.out _ _ HKW.out (World.grownBy.refl _ _))
                have HM1 : Hid (n + 1 ≤ maxLen) := by unfold Hid maxLen; omega
                have HM2 : Hid ((n + 1) * 8 ≤ 140737488355328) := by unfold Hid; omega
                have HM3 : Hid (n + 1 ≤ 1000) := by unfold Hid; omega
                clear hA3 hi0 hz0 hz1 hz2 hrl ho
                go_wp2_with fail
                obtain ⟨g3, cap3, w3, hrun3, hown3, hgrow3⟩ := run_grows_slice (P := Try.prog) (w := (w2.alloc (.cells #[.int .i64 x] 3)).drew) 22 22 3 i0 (.int .i64 0) 1 8 Try.underlying22 HI0.out HZ0.out HZ1.out HZ2.out rfl (by decide) A3 n n ((q.rw kk).map (Value.int .i64)) HNONE.out HLO.out (HOLD.out _ HKW.out) ⟨w2.heap.size, 0, none⟩ 1 1 [.int .i64 x] rfl HNEW.out (by simp [Value.oneCell']) (Nat.lt_succ_self n) HM1.out HM2.out
                have HP9 := Lib.hid (HPUT.out _ _ _ _ _ HKW.out hgrow3 hown3 HM3.out)
                obtain ⟨c4, f4, _⟩ := HC4.out _ _ HKW.out hgrow3
                clear hown3 hgrow3
                go_region
                all_goals
                  go_wp2_with fail
                  go_meet
                  case rel => exact ⟨q.put kk x, by simp [Qu.put], HP9.out⟩
        case rest =>
          as_aux_lemma =>
            obtain ⟨q', rfl, HQ'⟩ := hcut
            go_wp2_with fail
            go_loopg [17, 16] 4 (fun g vc vn wr => ∃ cc : Nat, g + cc = 4 ∧ vc = .int .i64 cc ∧ vn = .int .i64 (q'.sumR cc) ∧ Hid (QP w R (i + 1) q' wr))
            case atStart => exact ⟨0, by omega, rfl, rfl, HQ'.out⟩
            case round =>
              clear HQ'
              obtain ⟨cc, hgc, rfl, rfl, HQ'⟩ := hrel
              by_cases hcc : cc < 4
              · obtain ⟨a, n, c, hc, hr, hn⟩ := HQ'.out.cell cc hcc
                have hs : q'.sumR (cc + 1) = q'.sumR cc + n := by rw [hn]; rfl
                have hle := q'.sumR_le (cc + 1) hcc
                have ht := HQ'.out.tot
                rw [hs] at hle
                generalize q'.sumR cc = sc at *
                have HS := Lib.hid hs
                have hsb : (sc : Int) + n ≤ 1000 := by omega
                have HLEN := Lib.hid (qLen_at HQ'.out.qu hcc hn)
                clear hr hn hs hle ht
                go_wp2_with fail
                go_quiet (first | (go_at_call 34; exact Calls.quiet_of_same (HLEN.out _)))
                go_wp2_with fail
                go_roundg (gk - 1)
                case measure => omega
                case rel => exact ⟨cc + 1, by omega, by go_num, (congrArg (Value.int .i64) (by rw [HS.out]; omega)), HQ'.out.drewN _⟩
              · obtain rfl : cc = 4 := by omega
                have ht := HQ'.out.tot
                have ho := HQ'.out.opn
                rw [q'.sumR_tot]
                have HOP := Lib.hid (qOpen_at HQ'.out.qu)
                have HL4 := Lib.hid (qLen_four HQ'.out.qu)
                have HRE := Lib.hid (fun p hp => qRests_at (p := p) HQ'.out.qu (by omega) (by omega) hp)
                generalize q'.tot = tt at *
                have HTO := Lib.hid (And.intro ht ho)
                rcases Nat.eq_zero_or_pos (q'.opn + tt) with h0 | h0
                · have hz : ((tt : Int) + (q'.opn : Int) == 0) = true := beq_iff_eq.2 (by omega)
                  have HR := Lib.hid (HRE.out true (decide_eq_true h0))
                  have hto : (tt : Int) + (q'.opn : Int) ≤ 1000 := by omega
                  clear h0 ht ho
                  go_wp2_with (first
                    | (go_at_call 35; refine HOP.out.mono ?_; rintro e w3 ⟨rfl, rfl⟩)
                    | (go_at_call 36; refine HR.out.mono ?_; rintro e w3 ⟨rfl, rfl⟩)
                    | (go_at_call 34; refine HL4.out.mono ?_; rintro e w3 ⟨rfl, rfl⟩))
                  go_roundg (g0 - 1)
                  case measure => omega
                  case rel => exact ⟨i + 1, q', by omega, by go_num, rfl, HQ'.out⟩
                · have hz : ((tt : Int) + (q'.opn : Int) == 0) = false := beq_eq_false_iff_ne.2 (by omega)
                  have HR := Lib.hid (HRE.out false (decide_eq_false (by omega)))
                  have hto : (tt : Int) + (q'.opn : Int) ≤ 1000 := by omega
                  clear h0 ht ho
                  go_wp2_with (first
                    | (go_at_call 35; refine HOP.out.mono ?_; rintro e w3 ⟨rfl, rfl⟩)
                    | (go_at_call 36; refine HR.out.mono ?_; rintro e w3 ⟨rfl, rfl⟩)
                    | (go_at_call 34; refine HL4.out.mono ?_; rintro e w3 ⟨rfl, rfl⟩))
                  go_roundg (g0 - 1)
                  case measure => omega
                  case rel => exact ⟨i + 1, q', by omega, by go_num, rfl, HQ'.out⟩
      · have hcls : cls k = false := by simp [cls]; omega
        rcases (show k < 0 ∨ (0 ≤ k ∧ 4 ≤ k) by omega) with hlow | ⟨hhi0, hhi⟩
        · clear hin
          go_upto_block 2 with fail
          go_cut [5] (fun op wx => ∃ q' : Qu, op = .int .i64 q'.opn ∧ Hid (QP w R (i + 1) q' wx))
          case first =>
            rcases (show kind = 0 ∨ kind = 1 ∨ kind = 2 ∨ (kind ≠ 0 ∧ kind ≠ 1 ∧ kind ≠ 2) by omega) with rfl | rfl | rfl | ⟨hk0, hk1, hk2⟩
            · as_aux_lemma =>
                have HT := Lib.hid (qTake_no w.heap.size q k w0 hcls)
                clear hcls
                go_wp2_with (go_at_call 30; refine HT.out.mono ?_; rintro e w2 ⟨rfl, rfl⟩)
                go_meet
                case rel => exact ⟨q, rfl, HQ.out.mono (by omega)⟩
            · as_aux_lemma =>
                have ho := HQ.out.opn
                rcases q.least with hall | ⟨m, x0, xs, hm, hxs, hlow⟩
                · have HT := Lib.hid (qAny_none w.heap.size q w0 HQ.out.qu hall)
                  have HALL := Lib.hid hall
                  clear hall hcls
                  go_wp2_with (go_at_call 31; refine HT.out.mono ?_; rintro e w2 ⟨rfl, rfl⟩)
                  go_loopg [7] 4 (fun g vk wr => ∃ m : Nat, g + m = 4 ∧ vk = .int .i64 m ∧ wr = w0)
                  case atStart => exact ⟨0, by omega, rfl, rfl⟩
                  case round =>
                    obtain ⟨m, hgm, rfl, rfl⟩ := hrel
                    by_cases hm : m < 4
                    · obtain ⟨a, n, c, hc, hr, hn⟩ := HQ.out.cell m hm
                      rw [HALL.out m hm] at hn
                      simp at hn
                      subst hn
                      clear hr
                      go_wp2_with fail
                      go_roundg (gk - 1)
                      case measure => omega
                      case rel => exact ⟨m + 1, by omega, by go_num, rfl⟩
                    · obtain rfl : m = 4 := by omega
                      go_wp2_with fail
                      go_roundg (g0 - 1)
                      case measure => omega
                      case rel => exact ⟨i + 1, q, by omega, by go_num, rfl, HQ.out.mono (by omega)⟩
                · have HT := Lib.hid (qAny_yes w.heap.size q m x0 xs w0 HQ.out.qu hm hlow hxs (by omega))
                  have HLOW := Lib.hid hlow
                  have HXS := Lib.hid hxs
                  clear hlow hxs hcls
                  go_wp2_with fail
                  refine HT.out.mono ?_
                  rintro e w2 ⟨rfl, hq2, hk2⟩
                  have hne : ¬ only w.heap.size R := fun e => HQ.out.qu.ne HQ.out.rw e.symm
                  have HNE := Lib.hid hne
                  have HK2 := Lib.hid hk2
                  have HQ2 := Lib.hid hq2
                  clear hq2 hk2 hne
                  go_wp2_with fail
                  go_loopg [7] m (fun g vk wr => ∃ j : Nat, g + j = m ∧ vk = .int .i64 j ∧ wr = w2)
                  case atStart => exact ⟨0, by omega, rfl, rfl⟩
                  case round =>
                    obtain ⟨j, hgj, rfl, rfl⟩ := hrel
                    obtain ⟨a, n, c, hc, hr, hn⟩ := HQ.out.cell j (by omega)
                    have hc2 := HK2.out.cellv hc HNE.out
                    by_cases hjm : j < m
                    · rw [HLOW.out j hjm] at hn
                      simp at hn
                      subst hn
                      have hj4 : (j : Int) < 4 := by omega
                      clear hr hc
                      go_wp2_with fail
                      go_roundg (gk - 1)
                      case measure => omega
                      case rel => exact ⟨j + 1, by omega, by go_num, rfl⟩
                    · obtain rfl : j = m := by omega
                      have hn0 : 0 < n := by rw [hn, HXS.out]; simp
                      have hcut : ∀ w, (Instr.slice 22 (.slice a n c) (some (.int .i64 1)) none none).run Try.prog w = .ok (.slice (cutA a c 1) (n - 1) (c - 1)) w := fun w =>
                        run_cut (P := Try.prog) Try.underlying22 Try.sizeInt a n c 1 hn0 w
                      have hr2 : RowV wr 3 (.slice a n c) ((q.rw j).map (Value.int .i64)) := by
                        obtain ⟨_, us, _, hbq, _⟩ := HQ.out.qu
                        exact hr.only HK2.out hbq (by decide)
                      have fR := (HQ.out.rw.queue HQ.out.qu HK2.out).free j
                      have HP2 := Lib.hid (HQ.out.take j hm (by rw [HXS.out]; simp) HQ2.out HK2.out hr)
                      obtain ⟨br, or, rfl, hcs⟩ := hr2.cells.2.2.2 hn0
                      have hx0 := hcs 0 (.int .i64 x0) (by rw [HXS.out]; rfl)
                      rw [Nat.add_zero] at hx0
                      have hj4 : (j : Int) < 4 := by omega
                      have hj5 : ((j : Int) == 4) = false := beq_eq_false_iff_ne.2 (by omega)
                      have hnz : ((n : Int) == 0) = false := beq_eq_false_iff_ne.2 (by omega)
                      clear hr hc hr2 hcs hn
                      go_wp2_with fail
                      go_meet
                      case rel => exact ⟨q.take j, by simp [Qu.take], HP2.out⟩
            · as_aux_lemma =>
                have ho := HQ.out.opn
                rcases Nat.eq_zero_or_pos q.opn with h0 | h0
                · have HD := Lib.hid (qDone_is (n := (11 : Int)) (q' := q.doneQ) HQ.out.qu (by omega) (by simp [Qu.doneE, h0]) rfl)
                  have h0z : (q.opn : Int) = 0 := by omega
                  have HH := Lib.hid h0
                  go_wp2_with (go_at_call 32; refine HD.out.mono ?_; rintro e w2 ⟨rfl, hq2, hk2⟩)
                  all_goals
                    go_meet
                    case rel => exact ⟨q.doneQ, by simp [Qu.doneQ, Qu.setOpn, HH.out], HQ.out.done hq2 rfl (by simp [Qu.doneQ, Qu.setOpn]) hk2⟩
                · have HD := Lib.hid (qDone_is (n := (0 : Int)) (q' := q.doneQ) HQ.out.qu (by omega) (by simp [Qu.doneE]; omega) rfl)
                  have h0z : (0 : Int) < q.opn := by omega
                  have h0y : ((q.opn : Int) == 0) = false := beq_eq_false_iff_ne.2 (by omega)
                  have hov : (q.opn : Int) ≤ 300 := by omega
                  have HH := Lib.hid h0
                  clear h0
                  go_wp2_with (go_at_call 32; refine HD.out.mono ?_; rintro e w2 ⟨rfl, hq2, hk2⟩)
                  all_goals
                    go_meet
                    case rel => exact ⟨q.doneQ, congrArg (Value.int .i64) (by have := HH.out; simp only [Qu.doneQ, Qu.setOpn]; omega), HQ.out.done hq2 rfl (by simp [Qu.doneQ, Qu.setOpn]) hk2⟩
            · have e0 : (kind == 0) = false := beq_eq_false_iff_ne.2 hk0
              have e1 : (kind == 1) = false := beq_eq_false_iff_ne.2 hk1
              have e2 : (kind == 2) = false := beq_eq_false_iff_ne.2 hk2
              as_aux_lemma =>
                have HT := Lib.hid (qPut_no w.heap.size k x w0 (by simp [putOk, hcls]))
                clear hk0 hk1 hk2 hcls
                go_wp2_with (go_at_call 33; refine HT.out.mono ?_; rintro e w2 ⟨rfl, rfl⟩)
                go_roundg (g0 - 1)
                case measure => omega
                case rel => exact ⟨i + 1, q, by omega, by go_num, rfl, HQ.out.mono (by omega)⟩
          case rest =>
            as_aux_lemma =>
              obtain ⟨q', rfl, HQ'⟩ := hcut
              go_wp2_with fail
              go_loopg [17, 16] 4 (fun g vc vn wr => ∃ cc : Nat, g + cc = 4 ∧ vc = .int .i64 cc ∧ vn = .int .i64 (q'.sumR cc) ∧ Hid (QP w R (i + 1) q' wr))
              case atStart => exact ⟨0, by omega, rfl, rfl, HQ'.out⟩
              case round =>
                clear HQ'
                obtain ⟨cc, hgc, rfl, rfl, HQ'⟩ := hrel
                by_cases hcc : cc < 4
                · obtain ⟨a, n, c, hc, hr, hn⟩ := HQ'.out.cell cc hcc
                  have hs : q'.sumR (cc + 1) = q'.sumR cc + n := by rw [hn]; rfl
                  have hle := q'.sumR_le (cc + 1) hcc
                  have ht := HQ'.out.tot
                  rw [hs] at hle
                  generalize q'.sumR cc = sc at *
                  have HS := Lib.hid hs
                  have hsb : (sc : Int) + n ≤ 1000 := by omega
                  have HLEN := Lib.hid (qLen_at HQ'.out.qu hcc hn)
                  clear hr hn hs hle ht
                  go_wp2_with fail
                  go_quiet (first | (go_at_call 34; exact Calls.quiet_of_same (HLEN.out _)))
                  go_wp2_with fail
                  go_roundg (gk - 1)
                  case measure => omega
                  case rel => exact ⟨cc + 1, by omega, by go_num, (congrArg (Value.int .i64) (by rw [HS.out]; omega)), HQ'.out.drewN _⟩
                · obtain rfl : cc = 4 := by omega
                  have ht := HQ'.out.tot
                  have ho := HQ'.out.opn
                  rw [q'.sumR_tot]
                  have HOP := Lib.hid (qOpen_at HQ'.out.qu)
                  have HL4 := Lib.hid (qLen_four HQ'.out.qu)
                  have HRE := Lib.hid (fun p hp => qRests_at (p := p) HQ'.out.qu (by omega) (by omega) hp)
                  generalize q'.tot = tt at *
                  have HTO := Lib.hid (And.intro ht ho)
                  rcases Nat.eq_zero_or_pos (q'.opn + tt) with h0 | h0
                  · have hz : ((tt : Int) + (q'.opn : Int) == 0) = true := beq_iff_eq.2 (by omega)
                    have HR := Lib.hid (HRE.out true (decide_eq_true h0))
                    have hto : (tt : Int) + (q'.opn : Int) ≤ 1000 := by omega
                    clear h0 ht ho
                    go_wp2_with (first
                      | (go_at_call 35; refine HOP.out.mono ?_; rintro e w3 ⟨rfl, rfl⟩)
                      | (go_at_call 36; refine HR.out.mono ?_; rintro e w3 ⟨rfl, rfl⟩)
                      | (go_at_call 34; refine HL4.out.mono ?_; rintro e w3 ⟨rfl, rfl⟩))
                    go_roundg (g0 - 1)
                    case measure => omega
                    case rel => exact ⟨i + 1, q', by omega, by go_num, rfl, HQ'.out⟩
                  · have hz : ((tt : Int) + (q'.opn : Int) == 0) = false := beq_eq_false_iff_ne.2 (by omega)
                    have HR := Lib.hid (HRE.out false (decide_eq_false (by omega)))
                    have hto : (tt : Int) + (q'.opn : Int) ≤ 1000 := by omega
                    clear h0 ht ho
                    go_wp2_with (first
                      | (go_at_call 35; refine HOP.out.mono ?_; rintro e w3 ⟨rfl, rfl⟩)
                      | (go_at_call 36; refine HR.out.mono ?_; rintro e w3 ⟨rfl, rfl⟩)
                      | (go_at_call 34; refine HL4.out.mono ?_; rintro e w3 ⟨rfl, rfl⟩))
                    go_roundg (g0 - 1)
                    case measure => omega
                    case rel => exact ⟨i + 1, q', by omega, by go_num, rfl, HQ'.out⟩
        · clear hin
          have hd4 : decide (k < 4) = false := decide_eq_false (by omega)
          go_upto_block 2 with fail
          go_cut [5] (fun op wx => ∃ q' : Qu, op = .int .i64 q'.opn ∧ Hid (QP w R (i + 1) q' wx))
          case first =>
            rcases (show kind = 0 ∨ kind = 1 ∨ kind = 2 ∨ (kind ≠ 0 ∧ kind ≠ 1 ∧ kind ≠ 2) by omega) with rfl | rfl | rfl | ⟨hk0, hk1, hk2⟩
            · as_aux_lemma =>
                have HT := Lib.hid (qTake_no w.heap.size q k w0 hcls)
                clear hcls
                go_wp2_with (go_at_call 30; refine HT.out.mono ?_; rintro e w2 ⟨rfl, rfl⟩)
                go_meet
                case rel => exact ⟨q, rfl, HQ.out.mono (by omega)⟩
            · as_aux_lemma =>
                have ho := HQ.out.opn
                rcases q.least with hall | ⟨m, x0, xs, hm, hxs, hlow⟩
                · have HT := Lib.hid (qAny_none w.heap.size q w0 HQ.out.qu hall)
                  have HALL := Lib.hid hall
                  clear hall hcls
                  go_wp2_with (go_at_call 31; refine HT.out.mono ?_; rintro e w2 ⟨rfl, rfl⟩)
                  go_loopg [7] 4 (fun g vk wr => ∃ m : Nat, g + m = 4 ∧ vk = .int .i64 m ∧ wr = w0)
                  case atStart => exact ⟨0, by omega, rfl, rfl⟩
                  case round =>
                    obtain ⟨m, hgm, rfl, rfl⟩ := hrel
                    by_cases hm : m < 4
                    · obtain ⟨a, n, c, hc, hr, hn⟩ := HQ.out.cell m hm
                      rw [HALL.out m hm] at hn
                      simp at hn
                      subst hn
                      clear hr
                      go_wp2_with fail
                      go_roundg (gk - 1)
                      case measure => omega
                      case rel => exact ⟨m + 1, by omega, by go_num, rfl⟩
                    · obtain rfl : m = 4 := by omega
                      go_wp2_with fail
                      go_roundg (g0 - 1)
                      case measure => omega
                      case rel => exact ⟨i + 1, q, by omega, by go_num, rfl, HQ.out.mono (by omega)⟩
                · have HT := Lib.hid (qAny_yes w.heap.size q m x0 xs w0 HQ.out.qu hm hlow hxs (by omega))
                  have HLOW := Lib.hid hlow
                  have HXS := Lib.hid hxs
                  clear hlow hxs hcls
                  go_wp2_with fail
                  refine HT.out.mono ?_
                  rintro e w2 ⟨rfl, hq2, hk2⟩
                  have hne : ¬ only w.heap.size R := fun e => HQ.out.qu.ne HQ.out.rw e.symm
                  have HNE := Lib.hid hne
                  have HK2 := Lib.hid hk2
                  have HQ2 := Lib.hid hq2
                  clear hq2 hk2 hne
                  go_wp2_with fail
                  go_loopg [7] m (fun g vk wr => ∃ j : Nat, g + j = m ∧ vk = .int .i64 j ∧ wr = w2)
                  case atStart => exact ⟨0, by omega, rfl, rfl⟩
                  case round =>
                    obtain ⟨j, hgj, rfl, rfl⟩ := hrel
                    obtain ⟨a, n, c, hc, hr, hn⟩ := HQ.out.cell j (by omega)
                    have hc2 := HK2.out.cellv hc HNE.out
                    by_cases hjm : j < m
                    · rw [HLOW.out j hjm] at hn
                      simp at hn
                      subst hn
                      have hj4 : (j : Int) < 4 := by omega
                      clear hr hc
                      go_wp2_with fail
                      go_roundg (gk - 1)
                      case measure => omega
                      case rel => exact ⟨j + 1, by omega, by go_num, rfl⟩
                    · obtain rfl : j = m := by omega
                      have hn0 : 0 < n := by rw [hn, HXS.out]; simp
                      have hcut : ∀ w, (Instr.slice 22 (.slice a n c) (some (.int .i64 1)) none none).run Try.prog w = .ok (.slice (cutA a c 1) (n - 1) (c - 1)) w := fun w =>
                        run_cut (P := Try.prog) Try.underlying22 Try.sizeInt a n c 1 hn0 w
                      have hr2 : RowV wr 3 (.slice a n c) ((q.rw j).map (Value.int .i64)) := by
                        obtain ⟨_, us, _, hbq, _⟩ := HQ.out.qu
                        exact hr.only HK2.out hbq (by decide)
                      have fR := (HQ.out.rw.queue HQ.out.qu HK2.out).free j
                      have HP2 := Lib.hid (HQ.out.take j hm (by rw [HXS.out]; simp) HQ2.out HK2.out hr)
                      obtain ⟨br, or, rfl, hcs⟩ := hr2.cells.2.2.2 hn0
                      have hx0 := hcs 0 (.int .i64 x0) (by rw [HXS.out]; rfl)
                      rw [Nat.add_zero] at hx0
                      have hj4 : (j : Int) < 4 := by omega
                      have hj5 : ((j : Int) == 4) = false := beq_eq_false_iff_ne.2 (by omega)
                      have hnz : ((n : Int) == 0) = false := beq_eq_false_iff_ne.2 (by omega)
                      clear hr hc hr2 hcs hn
                      go_wp2_with fail
                      go_meet
                      case rel => exact ⟨q.take j, by simp [Qu.take], HP2.out⟩
            · as_aux_lemma =>
                have ho := HQ.out.opn
                rcases Nat.eq_zero_or_pos q.opn with h0 | h0
                · have HD := Lib.hid (qDone_is (n := (11 : Int)) (q' := q.doneQ) HQ.out.qu (by omega) (by simp [Qu.doneE, h0]) rfl)
                  have h0z : (q.opn : Int) = 0 := by omega
                  have HH := Lib.hid h0
                  go_wp2_with (go_at_call 32; refine HD.out.mono ?_; rintro e w2 ⟨rfl, hq2, hk2⟩)
                  all_goals
                    go_meet
                    case rel => exact ⟨q.doneQ, by simp [Qu.doneQ, Qu.setOpn, HH.out], HQ.out.done hq2 rfl (by simp [Qu.doneQ, Qu.setOpn]) hk2⟩
                · have HD := Lib.hid (qDone_is (n := (0 : Int)) (q' := q.doneQ) HQ.out.qu (by omega) (by simp [Qu.doneE]; omega) rfl)
                  have h0z : (0 : Int) < q.opn := by omega
                  have h0y : ((q.opn : Int) == 0) = false := beq_eq_false_iff_ne.2 (by omega)
                  have hov : (q.opn : Int) ≤ 300 := by omega
                  have HH := Lib.hid h0
                  clear h0
                  go_wp2_with (go_at_call 32; refine HD.out.mono ?_; rintro e w2 ⟨rfl, hq2, hk2⟩)
                  all_goals
                    go_meet
                    case rel => exact ⟨q.doneQ, congrArg (Value.int .i64) (by have := HH.out; simp only [Qu.doneQ, Qu.setOpn]; omega), HQ.out.done hq2 rfl (by simp [Qu.doneQ, Qu.setOpn]) hk2⟩
            · have e0 : (kind == 0) = false := beq_eq_false_iff_ne.2 hk0
              have e1 : (kind == 1) = false := beq_eq_false_iff_ne.2 hk1
              have e2 : (kind == 2) = false := beq_eq_false_iff_ne.2 hk2
              as_aux_lemma =>
                have HT := Lib.hid (qPut_no w.heap.size k x w0 (by simp [putOk, hcls]))
                clear hk0 hk1 hk2 hcls
                go_wp2_with (go_at_call 33; refine HT.out.mono ?_; rintro e w2 ⟨rfl, rfl⟩)
                go_roundg (g0 - 1)
                case measure => omega
                case rel => exact ⟨i + 1, q, by omega, by go_num, rfl, HQ.out.mono (by omega)⟩
          case rest =>
            as_aux_lemma =>
              obtain ⟨q', rfl, HQ'⟩ := hcut
              go_wp2_with fail
              go_loopg [17, 16] 4 (fun g vc vn wr => ∃ cc : Nat, g + cc = 4 ∧ vc = .int .i64 cc ∧ vn = .int .i64 (q'.sumR cc) ∧ Hid (QP w R (i + 1) q' wr))
              case atStart => exact ⟨0, by omega, rfl, rfl, HQ'.out⟩
              case round =>
                clear HQ'
                obtain ⟨cc, hgc, rfl, rfl, HQ'⟩ := hrel
                by_cases hcc : cc < 4
                · obtain ⟨a, n, c, hc, hr, hn⟩ := HQ'.out.cell cc hcc
                  have hs : q'.sumR (cc + 1) = q'.sumR cc + n := by rw [hn]; rfl
                  have hle := q'.sumR_le (cc + 1) hcc
                  have ht := HQ'.out.tot
                  rw [hs] at hle
                  generalize q'.sumR cc = sc at *
                  have HS := Lib.hid hs
                  have hsb : (sc : Int) + n ≤ 1000 := by omega
                  have HLEN := Lib.hid (qLen_at HQ'.out.qu hcc hn)
                  clear hr hn hs hle ht
                  go_wp2_with fail
                  go_quiet (first | (go_at_call 34; exact Calls.quiet_of_same (HLEN.out _)))
                  go_wp2_with fail
                  go_roundg (gk - 1)
                  case measure => omega
                  case rel => exact ⟨cc + 1, by omega, by go_num, (congrArg (Value.int .i64) (by rw [HS.out]; omega)), HQ'.out.drewN _⟩
                · obtain rfl : cc = 4 := by omega
                  have ht := HQ'.out.tot
                  have ho := HQ'.out.opn
                  rw [q'.sumR_tot]
                  have HOP := Lib.hid (qOpen_at HQ'.out.qu)
                  have HL4 := Lib.hid (qLen_four HQ'.out.qu)
                  have HRE := Lib.hid (fun p hp => qRests_at (p := p) HQ'.out.qu (by omega) (by omega) hp)
                  generalize q'.tot = tt at *
                  have HTO := Lib.hid (And.intro ht ho)
                  rcases Nat.eq_zero_or_pos (q'.opn + tt) with h0 | h0
                  · have hz : ((tt : Int) + (q'.opn : Int) == 0) = true := beq_iff_eq.2 (by omega)
                    have HR := Lib.hid (HRE.out true (decide_eq_true h0))
                    have hto : (tt : Int) + (q'.opn : Int) ≤ 1000 := by omega
                    clear h0 ht ho
                    go_wp2_with (first
                      | (go_at_call 35; refine HOP.out.mono ?_; rintro e w3 ⟨rfl, rfl⟩)
                      | (go_at_call 36; refine HR.out.mono ?_; rintro e w3 ⟨rfl, rfl⟩)
                      | (go_at_call 34; refine HL4.out.mono ?_; rintro e w3 ⟨rfl, rfl⟩))
                    go_roundg (g0 - 1)
                    case measure => omega
                    case rel => exact ⟨i + 1, q', by omega, by go_num, rfl, HQ'.out⟩
                  · have hz : ((tt : Int) + (q'.opn : Int) == 0) = false := beq_eq_false_iff_ne.2 (by omega)
                    have HR := Lib.hid (HRE.out false (decide_eq_false (by omega)))
                    have hto : (tt : Int) + (q'.opn : Int) ≤ 1000 := by omega
                    clear h0 ht ho
                    go_wp2_with (first
                      | (go_at_call 35; refine HOP.out.mono ?_; rintro e w3 ⟨rfl, rfl⟩)
                      | (go_at_call 36; refine HR.out.mono ?_; rintro e w3 ⟨rfl, rfl⟩)
                      | (go_at_call 34; refine HL4.out.mono ?_; rintro e w3 ⟨rfl, rfl⟩))
                    go_roundg (g0 - 1)
                    case measure => omega
                    case rel => exact ⟨i + 1, q', by omega, by go_num, rfl, HQ'.out⟩
    · go_wp2_with (go_at_call 28; refine (awake14_any _).mono ?_; rintro e w3 ⟨rfl, hk3⟩)
      go_ret
      exact ⟨rfl, HQ.out.keep.trans hk3⟩
end Go.Proofs.Ytcdmlinaebnbcaa
