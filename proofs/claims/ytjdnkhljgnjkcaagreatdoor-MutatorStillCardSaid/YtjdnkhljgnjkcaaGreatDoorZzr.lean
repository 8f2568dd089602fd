/- Parts of a walk, put together by a small program of mine from texts of their own: MutS1 MutS2 MutS3. -/
import Derived.Test.YtjdnkhljgnjkcaaGreatDoorZzq
import Derived.Laws.OwnMore
/- A mutator's small functions: tell, did, got. -/
namespace Go.Proofs.YtjdnkhljgnjkcaaGreatDoor
open Go.RowKit
attribute [local go_sem] Oper.semAt_some
attribute [local go_sem ↓] app9_of

theorem Tryz.infoResult : (Tryz.prog.info? 110).map (fun i => (i.zero, i.size, i.bytes)) = some (some (.agg #[.int .i64 0, .int .i64 0]), 2, 16) := by kernel_rfl
/-- append of one record: where the grown row lies. -/
theorem app_whereR {P : Program} (w : World) (t ty e : TypeId) (ht : P.underlying t = some (.slice e)) {z : Value} {size bytes : Nat} (hi : (P.info? e).map (fun i => (i.zero, i.size, i.bytes)) = some (some z, size, bytes)) (hzs : z.cells.size = size) (h0 : 0 < size)
    {v : Value} {n : Nat} {xs us : List Value} (hown : w.ownsRow 0 e size v n xs) {N : Nat} (hN : ∀ j x, us[j]? = some x → w.cell? ⟨N, j, none⟩ = some x) (hul : us.length = size) (hu : ∀ u ∈ us, u.oneCell' = true) (hb : bytes ≤ 1000) (hn : n ≤ 100000000000) :
    ∃ g cap w', (Builtin.append_ #[t, t] ty #[v, .slice (some ⟨N, 0, none⟩) 1 1]).run P w = .ok (.slice (some ⟨g, 0, none⟩) (n + 1) cap) w' ∧ w'.ownsRow 0 e size (.slice (some ⟨g, 0, none⟩) (n + 1) cap) (n + 1) (xs ++ us) ∧
      w.grownBy w' v.ownBlock ∧ (v.ownBlock = some g ∨ w.heap.size ≤ g) := by
  obtain ⟨i, hi1, hi2, hi3, hi4⟩ := info_parts hi
  have hbytes : (n + 1) * bytes ≤ 140737488355328 := Nat.le_trans (Nat.mul_le_mul (show n + 1 ≤ 100000000001 by omega) hb) (by decide)
  have hnews : ∀ j x, us[j]? = some x → w.cell? ((⟨N, 0, none⟩ : Addr).add j) = some x := by
    intro j x hj
    have ea : (⟨N, 0, none⟩ : Addr).add j = ⟨N, j, none⟩ := by simp only [Addr.add]; split <;> simp_all
    rw [ea]; exact hN j x hj
  have hul1 : us.length = 1 * size := by omega
  have shape : ∀ {v' : Value} {W : World} {B : Nat}, W.ownsRow B e size v' (n + 1) (xs ++ us) → ∃ g cap, v' = .slice (some ⟨g, 0, none⟩) (n + 1) cap ∧ B ≤ g := by
    intro v' W B h
    rcases h.2 with ⟨_, h0'⟩ | ⟨g, cap, cur, rfl, hB, _⟩
    · omega
    · exact ⟨g, cap, rfl, hB⟩
  rcases hown.2 with ⟨rfl, rfl⟩ | ⟨g, cap, cur, rfl, hbg, hg, hnc, hcm, hcs, htake⟩
  · have hown' : w.ownsRow w.heap.size e size (.slice none 0 0) 0 xs := ⟨hown.1, .inl ⟨rfl, rfl⟩⟩
    obtain ⟨v', w', hr, h2, h3, _⟩ := run_append_own (P := P) w w.heap.size t ty e i z size bytes ht hi1 hi2 hi3 hi4 hzs h0 _ 0 xs hown' ⟨N, 0, none⟩ 1 1 us hul1 hnews hu (by unfold maxLen; omega) hbytes (Nat.le_refl _)
    obtain ⟨g, cap, rfl, hB⟩ := shape h2
    exact ⟨g, cap, w', hr, own_low h2 (Nat.zero_le _), h3, .inr hB⟩
  · by_cases hroom : n + 1 ≤ cap
    · obtain ⟨w', hr, h2, h3⟩ := run_append_own_spare (P := P) w 0 t ty e i size ht hi1 hi3 g n cap xs hown ⟨N, 0, none⟩ 1 1 us hul1 hnews hu hroom
      exact ⟨g, cap, w', hr, h2, h3, .inl rfl⟩
    · have holds : ∀ j x, xs[j]? = some x → w.cell? ((⟨g, 0, none⟩ : Addr).add j) = some x := hown.cells (g := g) rfl
      obtain ⟨v', w', hr, h2, h3⟩ := run_append_arg_grows (P := P) w t ty e i z size bytes ht hi1 hi2 hi3 hi4 hzs h0 ⟨g, 0, none⟩ n cap xs hown.1 holds ⟨N, 0, none⟩ 1 1 us hul1 hnews (by omega) (by unfold maxLen; omega) hbytes
      obtain ⟨g', cap', rfl, hB⟩ := shape h2
      exact ⟨g', cap', w', hr, own_low h2 (Nat.zero_le _), ⟨h3.os, h3.tape, h3.output, h3.size, fun k hk _ => h3.block k hk (by simp)⟩, .inr hB⟩
theorem own_blk {w : World} {base n size q : Nat} {e : TypeId} {v : Value} {xs : List Value} (h : w.ownsRow base e size v n xs) (hq : v.ownBlock = some q) : ∃ cur : Array Value, w.heap[q]? = some (.cells cur e (0, 0)) := by
  rcases h.2 with ⟨e1, _⟩ | ⟨g, cap, cur, e1, _, hg, _⟩
  · rw [e1] at hq; simp [Value.ownBlock] at hq
  · rw [e1] at hq; simp [Value.ownBlock] at hq; subst hq; exact ⟨cur, hg⟩
theorem lt_of_own {w : World} {base n size q : Nat} {e : TypeId} {v : Value} {xs : List Value} (h : w.ownsRow base e size v n xs) (hq : v.ownBlock = some q) : q < w.heap.size := by
  obtain ⟨cur, hc⟩ := own_blk h hq
  exact lt_of_block hc
section
variable {o : Ow} {w w' : World} {G : Geo} {g : MG} {s : Sh} {m : MS} {ev : Option Ev} {nv : Value}
theorem MAt.c8 (h : MAt o w G g s m ev nv) : w.cell? ⟨g.M, 8, none⟩ = some (.int .i64 (m.id : Int)) := h.cell 8 _ (fun _ _ => rfl)
theorem evLen (ev : Option Ev) : ∃ a b c d e f t, evCells ev = [a, b, c, d, e, f, t] := by
  cases ev with
  | none => exact ⟨_, _, _, _, _, _, _, rfl⟩
  | some x => exact ⟨_, _, _, _, _, _, _, rfl⟩
theorem MAt.evs (h : MAt o w G g s m ev nv) : ∃ a b c d e f t, w.cell? ⟨g.M, 23, none⟩ = some a ∧ w.cell? ⟨g.M, 24, none⟩ = some b ∧ w.cell? ⟨g.M, 25, none⟩ = some c ∧ w.cell? ⟨g.M, 26, none⟩ = some d ∧ w.cell? ⟨g.M, 27, none⟩ = some e ∧ w.cell? ⟨g.M, 28, none⟩ = some f ∧ w.cell? ⟨g.M, 29, none⟩ = some t := by
  obtain ⟨a, b, c, d, e, f, t, he⟩ := evLen ev
  refine ⟨a, b, c, d, e, f, t, ?_, ?_, ?_, ?_, ?_, ?_, ?_⟩
  all_goals
    refine h.cell _ _ (fun pv rv => ?_)
    unfold mCells
    rw [he]
    rfl
set_option maxRecDepth 4000 in
set_option maxHeartbeats 1000000 in
theorem mTell_any (h : MAt o w G g s m ev nv) (kind place : Nat) (code : Int) (value : Nat) : Calls Tryz.prog 176 #[.pointer (some ⟨g.M, 0, none⟩), .int .i64 (kind : Int), .int .i64 (place : Int), .int .i64 code, .int .i64 (value : Int)] w fun e w' => e = .returned (.tuple #[]) ∧ MAt o w' G g s m (some ⟨m.id, kind, place, code, value⟩) nv ∧ Keep (In o [20 + m.id]) w w' := by
  have c8 := h.c8
  obtain ⟨x0, x1, x2, x3, x4, x5, x6, e0, e1, e2, e3, e4, e5, e6⟩ := h.evs
  have f0 := h.free 23; have f1 := h.free 24; have f2 := h.free 25; have f3 := h.free 26; have f4 := h.free 27; have f5 := h.free 28; have f6 := h.free 29
  have k : Keep (only g.M) w (((((((w.setCell ⟨g.M, 23, none⟩ (.int .i64 0)).setCell ⟨g.M, 24, none⟩ (.int .i64 (m.id : Int))).setCell ⟨g.M, 25, none⟩ (.int .i64 (kind : Int))).setCell ⟨g.M, 26, none⟩ (.int .i64 (place : Int))).setCell ⟨g.M, 27, none⟩ (.int .i64 code)).setCell ⟨g.M, 28, none⟩ (.int .i64 (value : Int))).setCell ⟨g.M, 29, none⟩ (.bool true)) := (((((((Keep.refl _ _).put _ _).put _ _).put _ _).put _ _).put _ _).put _ _).put _ _
  have HE := Lib.hid (h.struct k m (some ⟨m.id, kind, place, code, value⟩) nv (fun pv rv hb => by
    have := ((((((hb.set 23 (.int .i64 0)).set 24 (.int .i64 (m.id : Int))).set 25 (.int .i64 (kind : Int))).set 26 (.int .i64 (place : Int))).set 27 (.int .i64 code)).set 28 (.int .i64 (value : Int))).set 29 (.bool true)
    obtain ⟨a, b, c, d, e, f, t, he⟩ := evLen ev
    unfold mCells at this ⊢
    rw [he] at this
    exact this) ⟨rfl, rfl, rfl, rfl, rfl, rfl⟩)
  generalize m.id = mi at *
  clear h k
  go_enter Tryz.func176, Tryz.ntmps176
  go_wp2_with fail
  go_end0
  exact ⟨rfl, HE.out.1, HE.out.2⟩
/-- A mutator's results, as they lie. -/
theorem MAt.resC (h : MAt o w G g s m ev nv) : ∃ rv, w.cell? ⟨g.M, 16, none⟩ = some rv ∧ ResAt o w m.id rv m.res ∧ ∃ a cap, rv = .slice a m.res.length cap := by
  obtain ⟨pv, rv, h1, h2, h3⟩ := h.blk
  refine ⟨rv, h1.cell 16 rfl, h3, ?_⟩
  rcases h3.1.2 with ⟨e1, e2⟩ | ⟨g', cap, cur, e1, _⟩
  · exact ⟨none, 0, by rw [e1, e2]⟩
  · exact ⟨_, _, e1⟩
theorem res_snoc (l : List (Int × Nat)) (code : Int) (v : Nat) : resCells (l ++ [(code, v)]) = resCells l ++ [.int .i64 code, .int .i64 (v : Int)] := by
  unfold resCells
  simp
/-- The results' row has one more. -/
theorem MAt.grow (h : MAt o w G g s m ev nv) {rv : Value} (hrv : w.cell? ⟨g.M, 16, none⟩ = some rv) {q cap : Nat} {code : Int} {v : Nat} {w1 : World} (hown : w1.ownsRow 0 110 2 (.slice (some ⟨q, 0, none⟩) (m.res.length + 1) cap) (m.res.length + 1) (resCells m.res ++ [.int .i64 code, .int .i64 (v : Int)]))
    (hg : w.grownBy w1 rv.ownBlock) (hq : rv.ownBlock = some q ∨ w.heap.size ≤ q) :
    ∃ o', OExt w o o' ∧ MAt o' (w1.setCell ⟨g.M, 16, none⟩ (.slice (some ⟨q, 0, none⟩) (m.res.length + 1) cap)) G g s { m with res := m.res ++ [(code, v)] } ev nv ∧ Keep (In o [20 + m.id]) w (w1.setCell ⟨g.M, 16, none⟩ (.slice (some ⟨q, 0, none⟩) (m.res.length + 1) cap)) := by
  obtain ⟨pv, rv', h1, h2, h3⟩ := h.blk
  have e : rv' = rv := by
    have := h1.cell 16 (v := rv') rfl
    rw [hrv] at this; injection this with this; exact this.symm
  subst e
  have ap := h.apart
  have k1 : Keep (In o [20 + m.id]) w w1 := ⟨hg.os, hg.tape, hg.output, hg.size, fun k hk hn => hg.block k hk (fun e => hn (by unfold In; rw [h3.2 k e.symm]; simp))⟩
  have kB : Keep (fun i => rv'.ownBlock = some i) w w1 := ⟨hg.os, hg.tape, hg.output, hg.size, fun k hk hn => hg.block k hk (fun e => hn e.symm)⟩
  have hqb : ∃ cur : Array Value, w1.heap[q]? = some (.cells cur 110 (0, 0)) := by
    rcases hown.2 with ⟨e1, _⟩ | ⟨g', cap', cur, e1, _, hg', _⟩
    · cases e1
    · cases e1; exact ⟨cur, hg'⟩
  have hqlt : q < w1.heap.size := lt_of_block hqb.choose_spec
  have hext : OExt w o (o.put q (20 + m.id)) := Ow.put_ext (hq.elim (fun e => .inr (h3.2 q e)) .inl)
  have hfut : Fut (o.put q (20 + m.id)) w1 := Ow.put_fut h.sh.fut hg.size hqlt
  have nM : ∀ b, rv'.ownBlock = some b → b ≠ g.M ∧ b ≠ g.X ∧ b ≠ g.Bf := fun b hb => ap.2.2.2 rv' _ b h3 hb
  have qM : q ≠ g.M := hq.elim (fun e => (nM q e).1) (fun e => by have := h1.lt; omega)
  have hI20 : ([20 + m.id] : List Nat).all (fun i => decide (20 ≤ i)) = true := by simp
  have h0 : ([20 + m.id] : List Nat).contains 0 = false := by simp; omega
  obtain ⟨w2, hw2⟩ : ∃ w2, w2 = w1.setCell ⟨g.M, 16, none⟩ (.slice (some ⟨q, 0, none⟩) (m.res.length + 1) cap) := ⟨_, rfl⟩
  rw [← hw2]
  have kM : Keep (only g.M) w1 w2 := by rw [hw2]; exact (Keep.refl _ _).put 16 _
  have kB2 : Keep (fun i => rv'.ownBlock = some i ∨ i = g.M) w w2 := (kB.mono (fun i _ e => Or.inl e)).trans (kM.mono (fun i _ e => Or.inr e))
  have k2 : Keep (In o [20 + m.id]) w w2 := kB2.mono (fun i _ e => by
    unfold In
    rcases e with e | e
    · rw [h3.2 i e]; simp
    · rw [e, h.oM]; simp)
  have k2' := k2.extO hext
  obtain ⟨_, bv, hbb, _, _⟩ := id h.buf
  refine ⟨o.put q (20 + m.id), hext, ⟨h.sh.move k2 hI20 h.box8 hext (hfut.keep kM), ⟨pv, .slice (some ⟨q, 0, none⟩) (m.res.length + 1) cap, ?_, (h2.ext hext).keepO k2' h0, ?_, fun b hb => ?_⟩, (hext _ h1.lt).trans h.oM, kB2.blk h.regs (fun e => e.elim (fun e => (nM _ e).2.1 rfl) (fun e => ap.1 e.symm)), (hext _ h.regs.lt).trans h.oX, ?_, (hext _ hbb.lt).trans h.oBf, h.nt.keepO k2 h.oNt h0, (hext _ h.nt.lt).trans h.oNt, h.idl, h.box8, h.conf, h.rlen, h.blen⟩, k2⟩
  · have hm1 := (kB.blk h1 (fun e => (nM _ e).1 rfl)).set 16 (.slice (some ⟨q, 0, none⟩) (m.res.length + 1) cap)
    rw [hw2]
    exact hm1
  · show w2.ownsRow 0 110 2 _ (m.res ++ [(code, v)]).length (resCells (m.res ++ [(code, v)]))
    rw [res_snoc, List.length_append]
    exact own_keep hown kM (fun b hb e => by simp [Value.ownBlock] at hb; unfold only at e; omega)
  · simp [Value.ownBlock] at hb
    rw [← hb]
    exact Ow.put_same _ _ _
  · refine (h.buf.ext hext).keep kB2 (fun e => e.elim (fun e => (nM _ e).2.2 rfl) (fun e => ap.2.1 e.symm)) (fun x hx e => ?_)
    rcases e with e | e
    · have h9 := hext x (lt_of_own h3.1 e)
      rw [hx, h3.2 x e] at h9; omega
    · have h9 := hext g.M h1.lt
      rw [← e, hx, e, h.oM] at h9; omega
set_option maxRecDepth 4000 in
set_option maxHeartbeats 1000000 in
theorem mDid_any (h : MAt o w G g s m none nv) (code : Int) (v : Nat) (hr : m.res.length ≤ 1000000) : Calls Tryz.prog 142 #[.pointer (some ⟨g.M, 0, none⟩), .int .i64 code, .int .i64 (v : Int)] w fun e w' => e = .returned .nilFunc ∧ ∃ o', OExt w o o' ∧ MAt o' w' G g s (m.did code v) (some (m.ev code v)) nv ∧ Keep (In o [20 + m.id]) w w' := by
  have f18 := h.free 18
  have c18 := h.cell 18 (.int .i64 (m.held : Int)) (fun _ _ => rfl)
  obtain ⟨h1, k1⟩ := h.put 18 (.int .i64 0) { m with held := 0 } none nv (fun _ _ => rfl) ⟨rfl, rfl, rfl, rfl, rfl, rfl⟩
  obtain ⟨W1, hW1⟩ : ∃ W1, W1 = w.setCell ⟨g.M, 18, none⟩ (.int .i64 0) := ⟨_, rfl⟩
  rw [← hW1] at h1 k1
  obtain ⟨rv1, r1, hrs1, a1, cap1, er1⟩ := h.resC
  rw [er1] at r1
  have HT := Lib.hid (mTell_any h1 1 m.res.length code v)
  have hTR : Hid (∀ W2, MAt o W2 G g s { m with held := 0 } (some ⟨m.id, 1, m.res.length, code, v⟩) nv → Keep (In o [20 + m.id]) W1 W2 → ∃ rv a cap q cp w5, rv = .slice a m.res.length cap ∧ W2.cell? ⟨g.M, 16, none⟩ = some rv ∧ (app9 #[43, 43] 43 #[rv, .slice (some ⟨W2.heap.size, 0, none⟩) 1 1]).run Tryz.prog (W2.alloc (.cells #[.int .i64 code, .int .i64 (v : Int)] 110)) = .ok (.slice (some ⟨q, 0, none⟩) (m.res.length + 1) cp) w5 ∧ w5.frozen? ⟨g.M, 16, none⟩ = false ∧ w5.cell? ⟨g.M, 16, none⟩ = some rv ∧ ∃ o', OExt W2 o o' ∧ MAt o' (w5.setCell ⟨g.M, 16, none⟩ (.slice (some ⟨q, 0, none⟩) (m.res.length + 1) cp)) G g s (m.did code v) (some (m.ev code v)) nv ∧ Keep (In o [20 + m.id]) W2 (w5.setCell ⟨g.M, 16, none⟩ (.slice (some ⟨q, 0, none⟩) (m.res.length + 1) cp))) := by
    intro W2 h2 k2
    have ka : Keep none_ W2 (W2.alloc (.cells #[.int .i64 code, .int .i64 (v : Int)] 110)) := (Keep.refl _ _).alloc _
    have h3 := h2.still ka
    obtain ⟨rv, r2, hrs, a, cap, er⟩ := h3.resC
    have hNew := Blk.new W2 [.int .i64 code, .int .i64 (v : Int)] 110
    obtain ⟨q, cp, w5, hrun, hown, hgr, hq⟩ := app_whereR (P := Tryz.prog) (W2.alloc (.cells #[.int .i64 code, .int .i64 (v : Int)] 110)) 43 43 110 (by kernel_rfl) Tryz.infoResult rfl (by decide) hrs.1 (N := W2.heap.size) (us := [.int .i64 code, .int .i64 (v : Int)]) (fun j x hj => hNew.cell j hj) rfl (by simp [Value.oneCell']) (by decide) (by show m.res.length ≤ _; omega)
    obtain ⟨o', e1, h4, k4⟩ := h3.grow r2 hown hgr hq
    obtain ⟨pv, rv2, hb2, _, _⟩ := h3.blk
    have nM : rv.ownBlock ≠ some g.M := fun e => (h3.apart.2.2.2 rv _ g.M hrs e).1 rfl
    have hb5 := hb2.grown hgr nM
    obtain ⟨r2', _⟩ : W2.cell? ⟨g.M, 16, none⟩ = some rv ∧ True := by
      obtain ⟨pv', rv', hb', _, _⟩ := h2.blk
      have := (hb'.alloc (.cells #[.int .i64 code, .int .i64 (v : Int)] 110)).cell 16 (v := rv') rfl
      rw [r2] at this
      injection this with this
      exact ⟨by rw [this]; exact hb'.cell 16 rfl, trivial⟩
    have e2 : rv2 = rv := by
      have := hb2.cell 16 (v := rv2) rfl
      rw [r2] at this; injection this with this; exact this.symm
    refine ⟨rv, a, cap, q, cp, w5, er, r2', hrun, hb5.free 16, by rw [← e2]; exact hb5.cell 16 rfl, o', ?_, h4, (ka.noneO).trans k4⟩
    intro b hb
    exact e1 b (Nat.lt_of_lt_of_le hb ka.size)
  generalize m.id = mi at *
  generalize m.res.length = rl at *
  have HK1 := Lib.hid k1
  clear h h1 hrs1 hr k1
  go_enter Tryz.func142, Tryz.ntmps142
  go_wp2_with fail
  rw [← hW1]
  clear hW1
  refine HT.out.mono ?_
  rintro e w2 ⟨rfl, g1, g2⟩
  obtain ⟨rv, a, cap, q, cp, w5, rfl, r2, hrun9, f16, c16, o', e1, h4, k4⟩ := hTR w2 g1 g2
  have HE : Hid (OExt w2 o o' ∧ MAt o' (w5.setCell ⟨g.M, 16, none⟩ (.slice (some ⟨q, 0, none⟩) (rl + 1) cp)) G g s (m.did code v) (some (m.ev code v)) nv ∧ Keep (In o [20 + mi]) w2 (w5.setCell ⟨g.M, 16, none⟩ (.slice (some ⟨q, 0, none⟩) (rl + 1) cp))) := ⟨e1, h4, k4⟩
  have HK2 := Lib.hid (HK1.out.trans g2)
  have hlt : g.M < w2.heap.size := World.block_lt_of_cell? _ _ r2
  clear hTR HT g1 g2 e1 h4 k4 r1 f18 c18 HK1
  go_wp2_with fail
  go_ret
  exact ⟨rfl, o', fun b hb => HE.out.1 b (Nat.lt_of_lt_of_le hb HK2.out.size), HE.out.2.1, HK2.out.trans HE.out.2.2⟩
end
end Go.Proofs.YtjdnkhljgnjkcaaGreatDoor

/- A mutator's functions: got, drop, move, safe, field, load, get. -/
namespace Go.Proofs.YtjdnkhljgnjkcaaGreatDoor
open Go.RowKit
attribute [local go_sem] Oper.semAt_some

section
variable {o : Ow} {w w' : World} {G : Geo} {g : MG} {s : Sh} {m : MS} {nv : Value}
/-- What a step leaves, begun a bit later. -/
theorem StepPost.after {W : World} {i : Nat} {r : StepR} {e : Ending} (k : Keep (In o (stepI i)) w W) (h : StepPost o W G g nv i r e w') : StepPost o w G g nv i r e w' := by
  obtain ⟨o', nv', e1, e2, h1, h2, k2⟩ := h
  exact ⟨o', nv', e1, fun b hb => e2 b (Nat.lt_of_lt_of_le hb k.size), h1, h2, k.trans k2⟩
theorem mDid_post (h : MAt o w G g s m none nv) (code : Int) (v : Nat) (hr : m.res.length ≤ 1000000) : Calls Tryz.prog 142 #[.pointer (some ⟨g.M, 0, none⟩), .int .i64 code, .int .i64 (v : Int)] w (fun e w' => e = .returned .nilFunc ∧ StepPost o w G g nv m.id (didR s m code v) e w') := by
  refine (mDid_any h code v hr).mono ?_
  rintro e w' ⟨rfl, o', e1, h1, k1⟩
  exact ⟨rfl, o', _, rfl, e1, h1, rfl, k1.moreO (by simp [stepI])⟩
theorem MAt.c9 {ev : Option Ev} (h : MAt o w G g s m ev nv) : w.cell? ⟨g.M, 9, none⟩ = some (.slice (some ⟨g.X, 0, none⟩) m.regs.length m.regs.length) := h.cell 9 _ (fun _ _ => rfl)
theorem MAt.reg {ev : Option Ev} (h : MAt o w G g s m ev nv) (j : Nat) (hj : j < m.regs.length) : w.cell? ⟨g.X, j, none⟩ = some (.int .i64 (m.regs.getD j 0 : Nat)) := h.regs.cell j (tabV_at hj)
theorem MAt.rle {ev : Option Ev} (h : MAt o w G g s m ev nv) : m.regs.length ≤ 64 := by
  have h1 := (ok_bounds h.sh.heap.table.ok).2.2.2.1
  have h2 := h.rlen
  rw [h.conf] at h2
  omega
set_option maxRecDepth 4000 in
set_option maxHeartbeats 1000000 in
theorem mGot_post (h : MAt o w G g s m none nv) (r : Int) (v : Nat) (h0 : 0 ≤ r) (hr : r < m.regs.length) (hres : m.res.length ≤ 1000000) : Calls Tryz.prog 211 #[.pointer (some ⟨g.M, 0, none⟩), .int .i64 r, .int .i64 (v : Int)] w (fun e w' => e = .returned .nilFunc ∧ StepPost o w G g nv m.id (gotR s m r v) e w') := by
  obtain ⟨j, rfl⟩ : ∃ j : Nat, r = (j : Int) := ⟨r.toNat, by omega⟩
  have hj : j < m.regs.length := by omega
  have c9 := h.c9
  have cj := h.reg j hj
  have fj := h.regs.free j
  have hle := h.rle
  obtain ⟨h1, k1⟩ := h.setReg j v
  have HD : Hid (Calls Tryz.prog 142 #[.pointer (some ⟨g.M, 0, none⟩), .int .i64 0, .int .i64 (v : Int)] (w.setCell ⟨g.X, j, none⟩ (.int .i64 (v : Int))) (fun e w' => e = .returned .nilFunc ∧ StepPost o w G g nv m.id (gotR s m (j : Int) v) e w')) := by
    refine (mDid_post h1 0 v hres).mono ?_
    rintro e w' ⟨rfl, hp⟩
    refine ⟨rfl, StepPost.after (k1.moreO (by simp [stepI])) ?_⟩
    unfold gotR
    rw [Int.toNat_natCast]
    exact hp
  generalize gotR s m (j : Int) v = R at *
  generalize m.regs.getD j 0 = old at *
  generalize m.regs.length = n at *
  generalize m.id = mi at *
  clear h h1 k1
  go_enter Tryz.func211, Tryz.ntmps211
  go_wp2_with fail
  refine HD.out.mono ?_
  rintro e w1 ⟨rfl, hp⟩
  have HP := Lib.hid hp
  clear hp
  go_wp2_with fail
  go_ret
  exact ⟨rfl, HP.out⟩
set_option maxRecDepth 4000 in
set_option maxHeartbeats 1000000 in
theorem mSafe_post (h : MAt o w G g s m none nv) (op : OpR) (hres : m.res.length ≤ 1000000) : Calls Tryz.prog 184 #[.pointer (some ⟨g.M, 0, none⟩), .agg op.cells.toArray] w (fun e w' => e = .returned .nilFunc ∧ StepPost o w G g nv m.id (didR s m 0 0) e w') := by
  obtain ⟨k, a, b, c⟩ := op
  have ka : ∀ x, Keep none_ w (w.alloc x) := fun x => (Keep.refl _ _).alloc x
  have HD : Hid (∀ x, Calls Tryz.prog 142 #[.pointer (some ⟨g.M, 0, none⟩), .int .i64 0, .int .i64 0] (w.alloc x) (fun e w' => e = .returned .nilFunc ∧ StepPost o w G g nv m.id (didR s m 0 0) e w')) := fun x => by
    refine (mDid_post (h.still (ka x)) 0 0 hres).mono ?_
    rintro e w' ⟨rfl, hp⟩
    exact ⟨rfl, hp.after (ka x).noneO⟩
  generalize didR s m 0 0 = R at *
  generalize m.id = mi at *
  clear h ka
  simp only [OpR.cells]
  go_enter Tryz.func184, Tryz.ntmps184
  go_wp2_with fail
  refine (HD.out _).mono ?_
  rintro e w1 ⟨rfl, hp⟩
  have HP := Lib.hid hp
  clear hp
  go_wp2_with fail
  go_ret
  exact ⟨rfl, HP.out⟩
set_option maxRecDepth 4000 in
set_option maxHeartbeats 1000000 in
theorem mDrop_post (h : MAt o w G g s m none nv) (op : OpR) (h0 : 0 ≤ op.a) (hr : op.a < m.regs.length) (hres : m.res.length ≤ 1000000) : Calls Tryz.prog 182 #[.pointer (some ⟨g.M, 0, none⟩), .agg op.cells.toArray] w (fun e w' => e = .returned .nilFunc ∧ StepPost o w G g nv m.id (didR s { m with regs := m.regs.set op.a.toNat 0 } 0 0) e w') := by
  obtain ⟨k, a, b, c⟩ := op
  simp only at h0 hr
  obtain ⟨j, rfl⟩ : ∃ j : Nat, a = (j : Int) := ⟨a.toNat, by omega⟩
  have hj : j < m.regs.length := by omega
  obtain ⟨W0, hW0⟩ : ∃ W0, W0 = w.alloc (.cells #[.int .i64 k, .int .i64 (j : Int), .int .i64 b, .int .i64 c] 61) := ⟨_, rfl⟩
  have ka : Keep none_ w W0 := by rw [hW0]; exact (Keep.refl _ _).alloc _
  have hh := h.still ka
  have c9 := hh.c9
  have cj := hh.reg j hj
  have fj := hh.regs.free j
  have y1 : W0.cell? ⟨w.heap.size, 1, none⟩ = some (.int .i64 (j : Int)) := by rw [hW0]; exact (Blk.new w _ _).cell 1 rfl
  have hjI : (j : Int) < (m.regs.length : Int) := by omega
  have hj0 : (0 : Int) ≤ (j : Int) := by omega
  have hle := h.rle
  obtain ⟨h1, k1⟩ := hh.setReg j 0
  have HD : Hid (Calls Tryz.prog 142 #[.pointer (some ⟨g.M, 0, none⟩), .int .i64 0, .int .i64 0] (W0.setCell ⟨g.X, j, none⟩ (.int .i64 0)).drew (fun e w' => e = .returned .nilFunc ∧ StepPost o w G g nv m.id (didR s { m with regs := m.regs.set j 0 } 0 0) e w')) := by
    refine (mDid_post (h1.still (Keep.refl none_ _).drew) 0 0 hres).mono ?_
    rintro e w' ⟨rfl, hp⟩
    exact ⟨rfl, hp.after ((ka.noneO.trans (k1.moreO (by simp [stepI]))).trans (Keep.refl none_ _).drew.noneO)⟩
  have HW0 := Lib.hid hW0
  simp only [Int.toNat_natCast]
  generalize didR s { m with regs := m.regs.set j 0 } 0 0 = R at *
  generalize m.regs.getD j 0 = old at *
  generalize m.regs.length = n at *
  generalize m.id = mi at *
  clear h h1 k1 hh ka hW0
  simp only [OpR.cells]
  go_enter Tryz.func182, Tryz.ntmps182
  go_wp2_with fail
  rw [← HW0.out]
  go_region
  go_wp2_with fail
  refine HD.out.mono ?_
  rintro e w1 ⟨rfl, hp⟩
  have HP := Lib.hid hp
  clear hp
  go_wp2_with fail
  go_ret
  exact ⟨rfl, HP.out⟩
set_option maxRecDepth 4000 in
set_option maxHeartbeats 1000000 in
theorem mMove_post (h : MAt o w G g s m none nv) (op : OpR) (h0 : 0 ≤ op.a) (hr : op.a < m.regs.length) (h0b : 0 ≤ op.b) (hrb : op.b < m.regs.length) (hres : m.res.length ≤ 1000000) : Calls Tryz.prog 183 #[.pointer (some ⟨g.M, 0, none⟩), .agg op.cells.toArray] w (fun e w' => e = .returned .nilFunc ∧ StepPost o w G g nv m.id (gotR s m op.a (m.reg op.b)) e w') := by
  obtain ⟨k, a, b, c⟩ := op
  simp only at h0 hr h0b hrb
  obtain ⟨j, rfl⟩ : ∃ j : Nat, b = (j : Int) := ⟨b.toNat, by omega⟩
  have hj : j < m.regs.length := by omega
  obtain ⟨W0, hW0⟩ : ∃ W0, W0 = w.alloc (.cells #[.int .i64 k, .int .i64 a, .int .i64 (j : Int), .int .i64 c] 61) := ⟨_, rfl⟩
  have ka : Keep none_ w W0 := by rw [hW0]; exact (Keep.refl _ _).alloc _
  have hh := h.still ka
  have c9 := hh.c9
  have cj := hh.reg j hj
  have hle := h.rle
  have b0 : Blk W0 w.heap.size [.int .i64 k, .int .i64 a, .int .i64 (j : Int), .int .i64 c] 61 := by rw [hW0]; exact Blk.new w _ _
  have y1 := b0.cell 1 rfl
  have y2 := b0.cell 2 rfl
  have hreg : m.reg (j : Int) = m.regs.getD j 0 := by unfold MS.reg; rw [Int.toNat_natCast]
  rw [hreg]
  have HD : Hid (Calls Tryz.prog 211 #[.pointer (some ⟨g.M, 0, none⟩), .int .i64 a, .int .i64 (m.regs.getD j 0 : Nat)] W0.drew (fun e w' => e = .returned .nilFunc ∧ StepPost o w G g nv m.id (gotR s m a (m.regs.getD j 0)) e w')) := by
    refine (mGot_post (hh.still (Keep.refl none_ W0).drew) a (m.regs.getD j 0) h0 hr hres).mono ?_
    rintro e w' ⟨rfl, hp⟩
    exact ⟨rfl, hp.after (ka.trans (Keep.refl none_ W0).drew).noneO⟩
  have HW0 := Lib.hid hW0
  have hjI : (j : Int) < (m.regs.length : Int) := by omega
  have hj0 : (0 : Int) ≤ (j : Int) := by omega
  generalize gotR s m a (m.regs.getD j 0) = R at *
  generalize m.regs.getD j 0 = old at *
  generalize m.regs.length = n at *
  generalize m.id = mi at *
  clear h hh ka hW0 hreg b0
  simp only [OpR.cells]
  go_enter Tryz.func183, Tryz.ntmps183
  go_wp2_with fail
  rw [← HW0.out]
  refine wp_region_still_mid 11 rfl (by kernel_rfl) (by kernel_rfl) (fun K hK => ?_)
  change wpStill _ _ (World.drew _) _ _ _
  simp only [List.take_succ_cons, List.take_zero, List.drop_succ_cons, List.drop_zero] at hK ⊢
  repeat still_step
  refine wpStill_nil ?_
  change ite _ (Oper.wp _ _ _ _ _ _) _
  go_simp
  refine HD.out.mono ?_
  rintro e w1 ⟨rfl, hp⟩
  refine hK _ _ ?_
  clear hK K
  have HP := Lib.hid hp
  clear hp c9 cj y1 y2
  repeat still_step
  refine wpStill_nil ?_
  go_wp2_with fail
  go_ret
  exact ⟨rfl, HP.out⟩
end
end Go.Proofs.YtjdnkhljgnjkcaaGreatDoor

/- A mutator's steps: field, load, get. -/
namespace Go.Proofs.YtjdnkhljgnjkcaaGreatDoor
open Go.RowKit
attribute [local go_sem] Oper.semAt_some

section
variable {o : Ow} {w w' : World} {G : Geo} {g : MG} {s : Sh} {m : MS} {nv : Value}
theorem MAt.m0 {ev : Option Ev} (h : MAt o w G g s m ev nv) : w.cell? ⟨g.M, 0, none⟩ = some (.pointer (some ⟨G.S, 0, none⟩)) := h.cell 0 _ (fun _ _ => rfl)
theorem MAt.s0 {ev : Option Ev} (h : MAt o w G g s m ev nv) : w.cell? ⟨G.S, 0, none⟩ = some (.pointer (some ⟨G.D 0, 0, none⟩)) ∧ w.cell? ⟨G.S, 1, none⟩ = some (.pointer (some ⟨G.B, 0, none⟩)) ∧ w.cell? ⟨G.S, 2, none⟩ = some (.pointer (some ⟨G.Q, 0, none⟩)) := by
  obtain ⟨v, h1, _⟩ := h.sh.sh
  exact ⟨h1.cell 0 rfl, h1.cell 1 rfl, h1.cell 2 rfl⟩
theorem MAt.heapSame (h : MAt o w G g s m none nv) (k : Keep (HF G.D) w w') (hH : HeapAt w' G.D s.H) : MAt o w' G g s m none nv ∧ Keep (In o (stepI m.id)) w w' := h.setHeap k hH rfl
set_option maxRecDepth 4000 in
set_option maxHeartbeats 2000000 in
theorem mField_post (h : MAt o w G g s m none nv) (base : Nat) (f : Int) (t : MD) (tv : Value) (ht : MClo o w g.Nt g.M t tv) (hres : m.res.length ≤ 1000000) : Calls Tryz.prog 209 #[.pointer (some ⟨g.M, 0, none⟩), .int .i64 (base : Int), .int .i64 f, tv] w (StepPost o w G g nv m.id (fieldR s m base f t)) := by
  have hform := ht.form
  have hmf : ∀ (fn : Fn) (first cap : Array Value) (w : World), (Instr.makeFunc fn first cap).run Tryz.prog w = .ok (.func fn first cap) w := fun _ _ _ _ => rfl
  by_cases hb : base = 0
  · subst hb
    have hc := (caps_new (o := o) [([ptrV g.M], 30), ([.int .i64 0], 3), ([.int .i64 f], 3), ([tv], 103)] w h.sh.fut).2
    obtain ⟨W, hW⟩ : ∃ W, W = allocL w [([ptrV g.M], 30), ([.int .i64 0], 3), ([.int .i64 f], 3), ([tv], 103)] := ⟨_, rfl⟩
    rw [← hW] at hc
    have hWE : W = (((w.alloc (.cells #[.pointer (some ⟨g.M, 0, none⟩)] 30)).alloc (.cells #[.int .i64 0] 3)).alloc (.cells #[.int .i64 f] 3)).alloc (.cells #[tv] 103) := by rw [hW]; rfl
    have HWE := Lib.hid hWE
    have e1 : fieldR s m 0 f t = didR s m 6 0 := rfl
    rw [e1]
    have HD : Hid (Calls Tryz.prog 142 #[.pointer (some ⟨g.M, 0, none⟩), .int .i64 6, .int .i64 0] W (fun e w' => e = .returned .nilFunc ∧ StepPost o w G g nv m.id (didR s m 6 0) e w')) := by
      refine (mDid_post (h.still hc) 6 0 hres).mono ?_
      rintro e w' ⟨rfl, hp⟩
      exact ⟨rfl, hp.after hc.noneO⟩
    generalize didR s m 6 0 = R at *
    generalize m.id = mi at *
    clear h ht hc hW hWE e1
    rcases hform with rfl | ⟨fn, caps, rfl⟩
    all_goals
      go_enter Tryz.func209, Tryz.ntmps209
      go_wp2_with fail
      rw [← HWE.out]
      refine HD.out.mono ?_
      rintro e w1 ⟨rfl, hp⟩
      have HP := Lib.hid hp
      clear hp
      go_wp2_with fail
      go_ret
      exact HP.out
  · have d0 : ((base : Int) == 0) = false := by simp; omega
    have hc := caps_new (o := o) [([ptrV g.M], 30), ([.int .i64 (base : Int)], 3), ([.int .i64 f], 3), ([tv], 103)] w h.sh.fut
    have HE : Hid (StepPost o w G g nv m.id (fieldR s m base f t) (.returned (.func (.func 223) #[] #[ptrV w.heap.size, ptrV (w.heap.size + 1), ptrV (w.heap.size + 1 + 1), ptrV (w.heap.size + 1 + 1 + 1)])) (allocL w [([ptrV g.M], 30), ([.int .i64 (base : Int)], 3), ([.int .i64 f], 3), ([tv], 103)])) := by
      unfold Hid fieldR
      rw [if_neg hb]
      exact StepPost.same (h.still hc.2) ⟨tv, ht.still hc.2, ⟨_, rfl, hc.1⟩⟩ hc.2.noneO
    generalize fieldR s m base f t = R at *
    generalize m.id = mi at *
    clear h ht hc hb
    rcases hform with rfl | ⟨fn, caps, rfl⟩
    all_goals
      go_enter Tryz.func209, Tryz.ntmps209
      go_wp2_with fail
      go_ret
      exact HE.out
set_option maxRecDepth 4000 in
set_option maxHeartbeats 4000000 in
theorem stField_any (h : MAt o w G g s m none nv) (base : Nat) (f : Int) (t : MD) (v : Value) (hv : MClo o w g.Nt g.M (.field base f t) v) (hres : m.res.length ≤ 1000000) : ∃ bs : List Nat, v = .func (.func 223) #[] (bs.map ptrV).toArray ∧ Calls Tryz.prog 223 (bs.map ptrV).toArray w (StepPost o w G g nv m.id (stepM s m (.field base f t))) := by
  obtain ⟨tv, ht, bs, hbs, hcap⟩ := hv
  refine ⟨bs, hbs, ?_⟩
  obtain ⟨b0, b1, b2, b3, rfl, ⟨o0, k0⟩, ⟨o1, k1⟩, ⟨o2, k2⟩, ⟨o3, k3⟩⟩ := caps4 hcap
  have c0 : w.cell? ⟨b0, 0, none⟩ = some (.pointer (some ⟨g.M, 0, none⟩)) := k0.cell 0 rfl
  have c1 := k1.cell 0 rfl
  have m0 := h.m0
  have s0 := h.s0.1
  have hform := ht.form
  show Calls Tryz.prog 223 #[.pointer (some ⟨b0, 0, none⟩), .pointer (some ⟨b1, 0, none⟩), .pointer (some ⟨b2, 0, none⟩), .pointer (some ⟨b3, 0, none⟩)] w _
  have hkd : Keep none_ w w.drew := (Keep.refl none_ w).drew
  have hd := h.still hkd
  have hnf : (s.H.fieldsP base).1 ≤ 1048576 := by
    unfold HS.fieldsP
    split
    · rename_i he
      have := (h.sh.heap.inv.obj (objE_of he).2)
      obtain ⟨B, k, mm, _, h2, _, _, h5⟩ := this
      rw [h5]
      have := (objW_facts h2).2.1
      omega
    · exact Nat.zero_le _
  have HF : Hid (Calls Tryz.prog 41 #[.pointer (some ⟨G.D 0, 0, none⟩), .int .i64 (base : Int)] w.drew fun e w' => (∃ er : Int, e = .returned (.tuple #[.int .i64 ((s.H.fieldsP base).1 : Int), .int .i64 er])) ∧ MAt o w' G g s m none nv ∧ Keep (In o (stepI m.id)) w w' ∧ Blk w' b0 [ptrV g.M] 30 ∧ Blk w' b2 [.int .i64 f] 3 ∧ Blk w' b3 [tv] 103) := by
    refine (hFields_any hd.sh.heap base).mono ?_
    rintro e w' ⟨rfl, g1, g2⟩
    obtain ⟨h1, kk⟩ := hd.heapSame g2 g1
    have km : Keep (In o (stepI m.id)) w w' := hkd.noneO.trans kk
    exact ⟨⟨_, rfl⟩, h1, km, k0.keepO km o0 (stepI_0 _), k2.keepO km o2 (stepI_0 _), k3.keepO km o3 (stepI_0 _)⟩
  by_cases hb : f < 0 ∨ ((s.H.fieldsP base).1 : Int) ≤ f
  · have HD : Hid (∀ W, MAt o W G g s m none nv → Keep (In o (stepI m.id)) w W → Calls Tryz.prog 142 #[.pointer (some ⟨g.M, 0, none⟩), .int .i64 7, .int .i64 0] W (fun e w' => e = .returned .nilFunc ∧ StepPost o w G g nv m.id (stepM s m (.field base f t)) e w')) := fun W hW hk => by
      refine (mDid_post hW 7 0 hres).mono ?_
      rintro e w' ⟨rfl, hp⟩
      have e1 : stepM s m (.field base f t) = didR s m 7 0 := by simp only [stepM]; rw [if_pos hb]
      rw [e1]
      exact ⟨rfl, hp.after hk⟩
    have HB := Lib.hid hb
    generalize stepM s m (.field base f t) = R at *
    generalize (s.H.fieldsP base).1 = n at *
    generalize m.id = mi at *
    clear h ht hcap hbs hkd hd k0 k1 k2 k3 o0 o1 o2 o3 hform hb
    by_cases hf : f < 0
    · have d0 : decide (f < 0) = true := decide_eq_true hf
      clear hf HB
      go_enter Tryz.func223, Tryz.ntmps223
      go_wp2_with fail
      refine wp_region_still_mid 8 rfl (by kernel_rfl) (by kernel_rfl) (fun K hK => ?_)
      change wpStill _ _ (World.drew _) _ _ _
      simp only [List.take_succ_cons, List.take_zero, List.drop_succ_cons, List.drop_zero] at hK ⊢
      repeat still_step
      refine wpStill_nil ?_
      change ite _ (Oper.wp _ _ _ _ _ _) _
      go_simp
      refine HF.out.mono ?_
      rintro e w1 ⟨⟨er, rfl⟩, g1, g2, g3, g4, g5⟩
      refine hK _ _ ?_
      clear hK K
      have H1 := Lib.hid g1
      have K1 := Lib.hid g2
      clear g1 g2 g5 c0 c1 m0 s0
      repeat still_step
      refine wpStill_nil ?_
      have c0 : w1.cell? ⟨b0, 0, none⟩ = some (.pointer (some ⟨g.M, 0, none⟩)) := g3.cell 0 rfl
      have c2 := g4.cell 0 rfl
      clear g3 g4
      go_wp2_with fail
      refine (HD.out _ H1.out K1.out).mono ?_
      rintro e w2 ⟨rfl, hp⟩
      have HP := Lib.hid hp
      clear hp
      go_wp2_with fail
      go_ret
      exact HP.out
    · have d0 : decide (f < 0) = false := decide_eq_false hf
      have d1 : decide ((n : Int) ≤ f) = true := decide_eq_true (HB.out.resolve_left hf)
      clear hf HB
      go_enter Tryz.func223, Tryz.ntmps223
      go_wp2_with fail
      refine wp_region_still_mid 8 rfl (by kernel_rfl) (by kernel_rfl) (fun K hK => ?_)
      change wpStill _ _ (World.drew _) _ _ _
      simp only [List.take_succ_cons, List.take_zero, List.drop_succ_cons, List.drop_zero] at hK ⊢
      repeat still_step
      refine wpStill_nil ?_
      change ite _ (Oper.wp _ _ _ _ _ _) _
      go_simp
      refine HF.out.mono ?_
      rintro e w1 ⟨⟨er, rfl⟩, g1, g2, g3, g4, g5⟩
      refine hK _ _ ?_
      clear hK K
      have H1 := Lib.hid g1
      have K1 := Lib.hid g2
      clear g1 g2 g5 c0 c1 m0 s0
      repeat still_step
      refine wpStill_nil ?_
      have c0 : w1.cell? ⟨b0, 0, none⟩ = some (.pointer (some ⟨g.M, 0, none⟩)) := g3.cell 0 rfl
      have c2 := g4.cell 0 rfl
      clear g3 g4
      go_wp2_with fail
      refine (HD.out _ H1.out K1.out).mono ?_
      rintro e w2 ⟨rfl, hp⟩
      have HP := Lib.hid hp
      clear hp
      go_wp2_with fail
      go_ret
      exact HP.out
  · obtain ⟨j, rfl⟩ : ∃ j : Nat, f = (j : Int) := ⟨f.toNat, by omega⟩
    have HE : Hid (∀ W, MAt o W G g s m none nv → Keep (In o (stepI m.id)) w W → StepPost o w G g nv m.id (stepM s m (.field base (j : Int) t)) (.returned tv) W) := fun W hW hk => by
      have e1 : stepM s m (.field base (j : Int) t) = ⟨s, m, t, none⟩ := by simp only [stepM]; rw [if_neg hb]
      rw [e1]
      exact StepPost.same hW (ht.keepO hk (stepI_0 _)) hk
    have d0 : decide ((j : Int) < 0) = false := decide_eq_false (by omega)
    have d1 : decide ((s.H.fieldsP base).1 ≤ j) = false := decide_eq_false (by omega)
    generalize stepM s m (.field base (j : Int) t) = R at *
    generalize (s.H.fieldsP base).1 = n at *
    generalize m.id = mi at *
    clear h ht hcap hbs hkd hd k0 k1 k2 k3 o0 o1 o2 o3 hb
    rcases hform with rfl | ⟨fn, caps, rfl⟩
    all_goals
      go_enter Tryz.func223, Tryz.ntmps223
      go_wp2_with fail
      refine wp_region_still_mid 8 rfl (by kernel_rfl) (by kernel_rfl) (fun K hK => ?_)
      change wpStill _ _ (World.drew _) _ _ _
      simp only [List.take_succ_cons, List.take_zero, List.drop_succ_cons, List.drop_zero] at hK ⊢
      repeat still_step
      refine wpStill_nil ?_
      change ite _ (Oper.wp _ _ _ _ _ _) _
      go_simp
      refine HF.out.mono ?_
      rintro e w1 ⟨⟨er, rfl⟩, g1, g2, g3, g4, g5⟩
      refine hK _ _ ?_
      clear hK K
      have H1 := Lib.hid g1
      have K1 := Lib.hid g2
      clear g1 g2 c0 c1 m0 s0
      repeat still_step
      refine wpStill_nil ?_
      have c2 := g4.cell 0 rfl
      have c3 := g5.cell 0 rfl
      clear g3 g4 g5
      go_wp2_with fail
      go_ret
      exact HE.out _ H1.out K1.out
set_option maxRecDepth 4000 in
set_option maxHeartbeats 4000000 in
theorem stGet_any (h : MAt o w G g s m none nv) (op : OpR) (v : Value) (hv : MClo o w g.Nt g.M (.get op) v) (h0 : 0 ≤ op.a) (hr : op.a < m.regs.length) (hres : m.res.length ≤ 1000000) : ∃ bs : List Nat, v = .func (.func 215) #[] (bs.map ptrV).toArray ∧ Calls Tryz.prog 215 (bs.map ptrV).toArray w (StepPost o w G g nv m.id (stepM s m (.get op))) := by
  obtain ⟨bs, hbs, hcap⟩ := hv
  refine ⟨bs, hbs, ?_⟩
  obtain ⟨b0, b1, rfl, ⟨o0, k0⟩, ⟨o1, k1⟩⟩ := caps2 hcap
  obtain ⟨ok, oa, ob, oc⟩ := op
  have c0 : w.cell? ⟨b0, 0, none⟩ = some (.pointer (some ⟨g.M, 0, none⟩)) := k0.cell 0 rfl
  have c1 : w.cell? ⟨b1, 2, none⟩ = some (.int .i64 ob) := k1.cell 2 rfl
  have m0 := h.m0
  have s0 := h.s0.1
  show Calls Tryz.prog 215 #[.pointer (some ⟨b0, 0, none⟩), .pointer (some ⟨b1, 0, none⟩)] w _
  have hkd : Keep none_ w w.drew := (Keep.refl none_ w).drew
  have hd := h.still hkd
  have HF : Hid (Calls Tryz.prog 66 #[.pointer (some ⟨G.D 0, 0, none⟩), .int .i64 ob] w.drew fun e w' => (∃ er : Int, e = .returned (.tuple #[.int .i64 (s.H.cellP ob : Int), .int .i64 er])) ∧ w' = w.drew) := by
    refine (hCell_any hd.sh.heap ob).mono ?_
    rintro e w' ⟨rfl, rfl⟩
    exact ⟨⟨_, rfl⟩, rfl⟩
  have HD : Hid (Calls Tryz.prog 211 #[.pointer (some ⟨g.M, 0, none⟩), .int .i64 oa, .int .i64 (s.H.cellP ob : Int)] w.drew (fun e w' => e = .returned .nilFunc ∧ StepPost o w G g nv m.id (stepM s m (.get ⟨ok, oa, ob, oc⟩)) e w')) := by
    refine (mGot_post hd oa (s.H.cellP ob) h0 hr hres).mono ?_
    rintro e w' ⟨rfl, hp⟩
    exact ⟨rfl, hp.after hkd.noneO⟩
  have HB : Hid (w.drew.cell? ⟨b0, 0, none⟩ = some (.pointer (some ⟨g.M, 0, none⟩)) ∧ w.drew.cell? ⟨b1, 1, none⟩ = some (.int .i64 oa)) := ⟨(hkd.blk k0 (fun f => f)).cell 0 rfl, (hkd.blk k1 (fun f => f)).cell 1 rfl⟩
  generalize stepM s m (.get ⟨ok, oa, ob, oc⟩) = R at *
  generalize s.H.cellP ob = x at *
  generalize m.id = mi at *
  clear h hcap hbs hkd hd k0 k1 o0 o1 h0 hr hres
  go_enter Tryz.func215, Tryz.ntmps215
  go_wp2_with fail
  refine wp_region_still_mid 9 rfl (by kernel_rfl) (by kernel_rfl) (fun K hK => ?_)
  change wpStill _ _ (World.drew _) _ _ _
  simp only [List.take_succ_cons, List.take_zero, List.drop_succ_cons, List.drop_zero] at hK ⊢
  repeat still_step
  refine wpStill_nil ?_
  change ite _ (Oper.wp _ _ _ _ _ _) _
  go_simp
  refine HF.out.mono ?_
  rintro e w1 ⟨⟨er, rfl⟩, rfl⟩
  refine hK _ _ ?_
  clear hK K
  clear c0 c1 m0 s0 HF
  obtain ⟨W1, hW1⟩ : ∃ W1, W1 = w.drew := ⟨_, rfl⟩
  rw [← hW1] at HB HD ⊢
  clear hW1
  repeat still_step
  refine wpStill_nil ?_
  have c0 := HB.out.1
  have c1 := HB.out.2
  go_wp2_with fail
  refine HD.out.mono ?_
  rintro e w2 ⟨rfl, hp⟩
  have HP := Lib.hid hp
  clear hp
  go_wp2_with fail
  go_ret
  exact HP.out
set_option maxRecDepth 4000 in
set_option maxHeartbeats 4000000 in
theorem stLoad_any (h : MAt o w G g s m none nv) (op : OpR) (base : Nat) (v : Value) (hv : MClo o w g.Nt g.M (.load op base) v) (h0 : 0 ≤ op.a) (hr : op.a < m.regs.length) (hres : m.res.length ≤ 1000000) : ∃ bs : List Nat, v = .func (.func 210) #[] (bs.map ptrV).toArray ∧ Calls Tryz.prog 210 (bs.map ptrV).toArray w (StepPost o w G g nv m.id (stepM s m (.load op base))) := by
  obtain ⟨bs, hbs, hcap⟩ := hv
  refine ⟨bs, hbs, ?_⟩
  obtain ⟨b0, b1, b2, rfl, ⟨o0, k0⟩, ⟨o1, k1⟩, ⟨o2, k2⟩⟩ := caps3 hcap
  obtain ⟨ok, oa, ob, oc⟩ := op
  have c0 : w.cell? ⟨b0, 0, none⟩ = some (.pointer (some ⟨g.M, 0, none⟩)) := k0.cell 0 rfl
  have c1 := k1.cell 0 rfl
  have c2 : w.cell? ⟨b2, 3, none⟩ = some (.int .i64 oc) := k2.cell 3 rfl
  have m0 := h.m0
  have s0 := h.s0.1
  show Calls Tryz.prog 210 #[.pointer (some ⟨b0, 0, none⟩), .pointer (some ⟨b1, 0, none⟩), .pointer (some ⟨b2, 0, none⟩)] w _
  have hkd : Keep none_ w w.drew := (Keep.refl none_ w).drew
  have hd := h.still hkd
  have HF : Hid (Calls Tryz.prog 42 #[.pointer (some ⟨G.D 0, 0, none⟩), .int .i64 (base : Int), .int .i64 oc] w.drew fun e w' => (∃ er : Int, e = .returned (.tuple #[.int .i64 (s.H.loadP base oc : Int), .int .i64 er])) ∧ MAt o w' G g s m none nv ∧ Keep (In o (stepI m.id)) w w' ∧ Blk w' b0 [ptrV g.M] 30 ∧ Blk w' b2 [.int .i64 ok, .int .i64 oa, .int .i64 ob, .int .i64 oc] 61) := by
    refine (hLoad_any hd.sh.heap base oc).mono ?_
    rintro e w' ⟨rfl, g1, g2⟩
    obtain ⟨h1, kk⟩ := hd.heapSame g2 g1
    have km : Keep (In o (stepI m.id)) w w' := hkd.noneO.trans kk
    exact ⟨⟨_, rfl⟩, h1, km, k0.keepO km o0 (stepI_0 _), k2.keepO km o2 (stepI_0 _)⟩
  have HD : Hid (∀ W, MAt o W G g s m none nv → Keep (In o (stepI m.id)) w W → Calls Tryz.prog 211 #[.pointer (some ⟨g.M, 0, none⟩), .int .i64 oa, .int .i64 (s.H.loadP base oc : Int)] W (fun e w' => e = .returned .nilFunc ∧ StepPost o w G g nv m.id (stepM s m (.load ⟨ok, oa, ob, oc⟩ base)) e w')) := fun W hW hk => by
    refine (mGot_post hW oa (s.H.loadP base oc) h0 hr hres).mono ?_
    rintro e w' ⟨rfl, hp⟩
    exact ⟨rfl, hp.after hk⟩
  generalize stepM s m (.load ⟨ok, oa, ob, oc⟩ base) = R at *
  generalize s.H.loadP base oc = x at *
  generalize m.id = mi at *
  clear h hcap hbs hkd hd k0 k1 k2 o0 o1 o2 h0 hr hres
  go_enter Tryz.func210, Tryz.ntmps210
  go_wp2_with fail
  refine wp_region_still_mid 10 rfl (by kernel_rfl) (by kernel_rfl) (fun K hK => ?_)
  change wpStill _ _ (World.drew _) _ _ _
  simp only [List.take_succ_cons, List.take_zero, List.drop_succ_cons, List.drop_zero] at hK ⊢
  repeat still_step
  refine wpStill_nil ?_
  change ite _ (Oper.wp _ _ _ _ _ _) _
  go_simp
  refine HF.out.mono ?_
  rintro e w1 ⟨⟨er, rfl⟩, g1, g2, g3, g4⟩
  refine hK _ _ ?_
  clear hK K
  have H1 := Lib.hid g1
  have K1 := Lib.hid g2
  clear g1 g2 c0 c1 c2 m0 s0
  repeat still_step
  refine wpStill_nil ?_
  have c0 : w1.cell? ⟨b0, 0, none⟩ = some (.pointer (some ⟨g.M, 0, none⟩)) := g3.cell 0 rfl
  have c1 : w1.cell? ⟨b2, 1, none⟩ = some (.int .i64 oa) := g4.cell 1 rfl
  clear g3 g4
  go_wp2_with fail
  refine (HD.out _ H1.out K1.out).mono ?_
  rintro e w2 ⟨rfl, hp⟩
  have HP := Lib.hid hp
  clear hp
  go_wp2_with fail
  go_ret
  exact HP.out
end
end Go.Proofs.YtjdnkhljgnjkcaaGreatDoor
