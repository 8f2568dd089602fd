/- The walk of StatsCycles. -/
import Derived.Test.YtcopkhhgcgfelaaDoorLawStats1
import Derived.Test.YtcopkhhgcgfelaaDoorStats9
import Derived.RangeFuncCalls
import Derived.Test.YtcopkhhgcgfelaaDoorQuietR
import Derived.Sort.QuietTacIn
namespace Go.Proofs.YtcopkhhgcgfelaaDoor
open Go.RowKit Go.Sort
attribute [local go_sem] Oper.semAt_some

/-- What lies in the law's boxes, behind j rounds. -/
structure SCI (w : World) (M N base : Nat) (v : Value) (o : List Cy) (st : Int) (j : Nat) (W : World) : Prop where
  keep : Keep none_ w W
  s : Blk W w.heap.size [.int .u8 st] 5
  r : Blk W (w.heap.size + 1) [.bool false] 4
  m : Blk W M [v] 22
  n : Blk W N [.int .i64 (j : Int)] 3
  row : CyRow W base v o
theorem ownsRow_own {β : Type} {base n size B : Nat} {e : TypeId} {v : Value} {xs : List Value} : OwnFrom B (fun (_ : β) W => World.ownsRow W base e size v n xs) := by
  rintro s W W' row h hg hr
  refine own_same h (fun g hgo => hg.block g (World.ownsRow.lt h g hgo).2 (fun e => ?_))
  obtain ⟨_, _, ho, hc⟩ := hr g e.symm
  rcases h.2 with ⟨rfl, _⟩ | ⟨g', cap, cur, rfl, _, hg', _⟩
  · simp [Value.ownBlock] at hgo
  · simp [Value.ownBlock] at hgo
    subst hgo
    rw [hg'] at ho
    cases ho
    simp [Obj.isCells] at hc
theorem SCI.own {w : World} {M N base : Nat} {v : Value} {o : List Cy} {st : Int} {B : Nat} (hB : w.heap.size ≤ B) : OwnFrom B (fun j W => SCI w M N base v o st j W) := by
  rintro j W W' row h hg hr
  exact ⟨ownFrom_keep hB j W W' row h.keep hg hr, ownFrom_blk (cs := fun _ => _) j W W' row h.s hg hr, ownFrom_blk (cs := fun _ => _) j W W' row h.r hg hr, ownFrom_blk (cs := fun _ => _) j W W' row h.m hg hr, ownFrom_blk (cs := fun _ => _) j W W' row h.n hg hr, ownsRow_own j W W' row h.row hg hr⟩
theorem SCI.later {w : World} {M N base : Nat} {v : Value} {o : List Cy} {st : Int} {j : Nat} {W W' : World} (h : SCI w M N base v o st j W) (hk : Keep none_ W W') : SCI w M N base v o st j W' :=
  ⟨h.keep.trans hk, hk.blk h.s (fun f => f), hk.blk h.r (fun f => f), hk.blk h.m (fun f => f), hk.blk h.n (fun f => f), own_still h.row hk⟩

/-- A region whose orders all end in one act: its end, once. -/
theorem wpIn_wrap {F : Fence} {n : Nat} {P : Program} {c : Code} {Q : Exit → Act → World → Prop} {a : Act} {w : World} (X : World → Prop)
    (h : ∃ A, c.wpIn F n P (fun e a' w' => e = .normal ∧ a' = A ∧ X w') a w ∧ ∀ w', X w' → Q .normal A w') : c.wpIn F n P Q a w := by
  obtain ⟨A, h1, h2⟩ := h
  refine wpIn_mono h1 ?_
  rintro e a' w' ⟨rfl, rfl, hx⟩
  exact h2 w' hx
theorem eachL_at {o : List Cy} {j : Nat} {x : Nat × Cy} (h : (eachL o)[j]? = some x) : j < o.length ∧ x.1 = j ∧ o[j]? = some x.2 := by
  have hl := (List.getElem?_eq_some_iff.1 h).1
  rw [eachL_len] at hl
  have h2 : o[j]? = some o[j] := List.getElem?_eq_getElem hl
  have h1 := eachL_get o j _ h2
  rw [h] at h1
  injection h1 with h1
  subst h1
  exact ⟨hl, rfl, h2⟩
theorem wf_of {v : Int} (h1 : -9223372036854775808 ≤ v) (h2 : v ≤ 9223372036854775807) : (Lit.int .i64 v).wf = true := by
  simp [Lit.wf, IntKind.min, IntKind.max, IntKind.signed, IntKind.bits]
  omega
theorem own_wf : ∀ (t : List Ev) (c : Cy) (m r : Bool), (∀ e ∈ t, e.wf) → c.wf → 0 ≤ c.freed → c.freed + t.length ≤ 100000 → (t.foldl own1 (c, m, r)).1.wf
  | [], c, m, r, _, h, _, _ => h
  | e :: t, c, m, r, hw, h, h0, h1 => by
    rw [List.foldl_cons]
    have he := hw e (by simp)
    have ht : ∀ e ∈ t, e.wf := fun x hx => hw x (by simp [hx])
    simp only [List.length_cons] at h1
    obtain ⟨q1, q2, q3, q4, q5⟩ := h
    simp only [own1, upd]
    split
    · exact own_wf t _ _ _ ht ⟨q1, q2, he.1, q4, q5⟩ h0 (by simp only; omega)
    · split
      · exact own_wf t _ _ _ ht ⟨q1, q2, q3, he.1, q5⟩ h0 (by simp only; omega)
      · split
        · exact own_wf t _ _ _ ht ⟨q1, q2, q3, q4, wf_of (by simp only; omega) (by simp only; omega)⟩ (by simp only; omega) (by simp only; omega)
        · exact own_wf t _ _ _ ht ⟨q1, q2, q3, q4, q5⟩ h0 (by omega)
theorem takeWhile_mem {α : Type} {p : α → Bool} {l : List α} {x : α} (h : x ∈ l.takeWhile p) : x ∈ l := (List.takeWhile_sublist p).subset h
theorem refc_wf : ∀ (l : List Ev), (∀ e ∈ l, e.wf) → l.length ≤ 100000 → ∀ c ∈ refc l, c.wf
  | [], _, _ => fun c h => by cases h
  | e :: l, hw, hn => by
    intro c hc
    have hl : ∀ e ∈ l, e.wf := fun x hx => hw x (by simp [hx])
    simp only [List.length_cons] at hn
    simp only [refc] at hc
    have he := hw e (by simp)
    split at hc
    · rcases List.mem_cons.1 hc with rfl | hc
      · rw [ownOf]
        refine own_wf _ _ _ _ (fun x hx => hl x (takeWhile_mem hx)) ⟨he.2.2.2.2.2, he.1, wf_of (by simp [c0]) (by simp [c0]), wf_of (by simp [c0]) (by simp [c0]), wf_of (by simp [c0]) (by simp [c0])⟩ (by simp [c0]) ?_
        have := (List.takeWhile_sublist (fun e : Ev => e.kind != 2) (l := l)).length_le
        simp only [c0]; omega
      · exact refc_wf l hl (by omega) c hc
    · exact refc_wf l hl (by omega) c hc
theorem SCI.next {w : World} {M N base : Nat} {v : Value} {o : List Cy} {st : Int} {j : Nat} {W : World} (h : SCI w M N base v o st j W) (hN : w.heap.size + 2 ≤ N) (hMN : M ≠ N) (hv : ∀ g, v.ownBlock = some g → g ≠ N) : SCI w M N base v o st (j + 1) (W.setCell ⟨N, 0, none⟩ (.int .i64 ((j : Int) + 1))) := by
  have e : ((j : Int) + 1) = ((j + 1 : Nat) : Int) := by omega
  rw [e]
  exact ⟨h.keep.putNew (by omega) _ _, h.s.other (a := ⟨N, 0, none⟩) (by simp; omega) _, h.r.other (a := ⟨N, 0, none⟩) (by simp; omega) _, h.m.other (a := ⟨N, 0, none⟩) (by simp; omega) _, h.n.set 0 _, own_same h.row (fun g hg => Below.heap_setCell _ _ _ _ (by have := hv g hg; simpa using this))⟩

set_option maxRecDepth 100000 in
set_option maxHeartbeats 40000000 in
theorem statsCycles_any (a0 : Option Addr) (n0 c0 : Nat) (z0 : List (List Value)) (st : Int) (w : World) (hw0 : Flats [.int .i64, .int .i64, .int .i64, .int .i64, .int .i64, .int .i64] w a0 n0 z0) (hm0 : n0 ≤ maxLen) (hs : (Lit.int .u8 st).wf = true) (hL : laidMetH Tryd.prog Rows.statsCyclesRow.laid w) :
    Calls Tryd.prog 4 #[.slice a0 n0 c0, .int .u8 st] w fun e w' => e = .returned (.bool true) ∧ Keep none_ w w' := by
  unfold maxLen at hm0
  have bs := bounds_u8 hs
  have HT := Lib.hid (tab_of hL)
  clear hL hs
  by_cases hbig : 100 < n0
  · clear hw0
    go_enter Tryd.func4, Tryd.ntmps4
    go_wp2_with fail
    refine (awake26_any _ (HT.out.keep (((Keep.refl none_ w).alloc _).alloc _))).mono ?_
    rintro e w1 ⟨rfl, hk1⟩
    have hR := hk1.blk (Blk.new (w.alloc (.cells #[.int .u8 st] 5)) [.bool false] 4) (fun f => f)
    have hk0 : Keep none_ w w1 := (((Keep.refl none_ w).alloc _).alloc _).trans hk1
    simp only [World.size_alloc] at hR
    have cR := hR.cell 0 rfl
    have fR := hR.free 0
    have cR2 := (hR.set 0 (.bool true)).cell 0 rfl
    have hkp := hk0.putNew (B := w.heap.size + 1) (by omega) 0 (.bool true)
    clear hk1
    go_wp2_with fail
    exact bodyPost_ret (v := .bool true) (by simp [results, Tryd.f4, go_sem, cR2]) rfl ⟨rfl, hkp⟩
  obtain ⟨l, rfl, hwf⟩ := list_of (f := Ev.cells) (P := Ev.wf) (fun r h => ev_of h) z0 hw0.ok
  have HR := Lib.hid (RecAt.ofFlats hw0)
  have HW := Lib.hid hwf
  have HL : Hid (l.length = n0) := by have := hw0.len; simpa [Hid] using this
  clear hw0 hwf
  have hfn : ∀ (a : Value) (w : World), (binOp .eql 34 (.func (.func 17) #[] #[a]) .nilFunc).run Tryd.prog w = .ok (.bool false) w := fun a w => by kernel_rfl
  have HCE := Lib.hid (cyc_ref l)
  have hole : (refc l).length ≤ n0 := by
    have h1 := refp_len l l.length
    rw [refp_all] at h1
    have := HL.out
    omega
  refine (callsIn_wide (n := 9)).1 ?_
  refine callsIn_of_wp_marks Tryd.func4 rfl trivial ?_ rfl
  simp only [Tryd.ntmps4, List.size_toArray, List.length_cons, List.length_nil, Nat.reduceAdd, Nat.reduceSub, Array.replicate_succ, Array.replicate_zero, List.push_toArray, List.append_toArray, List.nil_append, List.cons_append]
  gi_wp2_with fail
  refine ⟨trivial, CallsIn.mono (callsIn_wide.2 (sCycles_any a0 n0 c0 l _ (HR.out.below (((Keep.refl none_ w).alloc _).alloc _)) (by omega))) ?_⟩
  rintro e w1 ⟨vg, rfl, hrow1, hk1⟩
  have HK1 := Lib.hid ((((Keep.refl none_ w).alloc (.cells #[.int .u8 st] 5)).alloc (.cells #[.bool false] 4)).trans hk1)
  have HS1 := Lib.hid (hk1.blk ((Blk.new w [.int .u8 st] 5).alloc _) (fun f => f))
  have HR1 := Lib.hid (hk1.blk (Blk.new (w.alloc (.cells #[.int .u8 st] 5)) [.bool false] 4) (fun f => f))
  rw [HCE.out] at hrow1
  obtain ⟨ag, cg, rfl⟩ := CyRow.form hrow1
  have HROW1 := Lib.hid hrow1
  clear hrow1 hk1
  gi_wp2_with fail
  refine ⟨trivial, CallsIn.mono (callsIn_wide.2 (lCycles_any a0 n0 c0 l _ (HR.out.below HK1.out) (by omega))) ?_⟩
  rintro e w2 ⟨vw, rfl, hrow2, hk2⟩
  have HK2 := Lib.hid (HK1.out.trans hk2)
  obtain ⟨aw, cw, rfl⟩ := CyRow.form hrow2
  have HS2 := Lib.hid (hk2.blk HS1.out (fun f => f))
  have HR2 := Lib.hid (hk2.blk HR1.out (fun f => f))
  have HG2 := Lib.hid (own_still HROW1.out hk2)
  have HROW2 := Lib.hid hrow2
  clear hrow2 hk2 HS1 HR1 HROW1
  have HCEL := Lib.hid (eachL_len (cyc l).out)
  have HRG : Hid (RecAt w2 ag (refc l).length 5 ((refc l).map Cy.cells)) := by
    obtain ⟨a9, c9, e9, h9, _⟩ := RecAt.ofOwn HG2.out (cy_len _) (by simp)
    injection e9 with e9; subst e9; exact h9
  have HRW : Hid (RecAt w2 aw (refc l).length 5 ((refc l).map Cy.cells)) := by
    obtain ⟨a9, c9, e9, h9, _⟩ := RecAt.ofOwn HROW2.out (cy_len _) (by simp)
    injection e9 with e9; subst e9; exact h9
  obtain ⟨nl, hnl⟩ : ∃ nl, nl = (refc l).length := ⟨_, rfl⟩
  rw [← hnl] at HRG HRW hole ⊢
  have HNL := Lib.hid hnl
  clear hnl
  gi_wp2_with fail
  obtain ⟨W3, hW3⟩ : ∃ W', W' = w2.alloc (.cells #[.slice aw nl cw] 22) := ⟨_, rfl⟩
  have hk3 : Keep none_ w2 W3 := by rw [hW3]; exact (Keep.refl _ _).alloc _
  have HM3 : Hid (Blk W3 w2.heap.size [.slice aw nl cw] 22) := by rw [hW3]; exact Blk.new _ _ _
  have HK3 := Lib.hid (HK2.out.trans hk3)
  have HS3 := Lib.hid (hk3.blk HS2.out (fun f => f))
  have HR3 := Lib.hid (hk3.blk HR2.out (fun f => f))
  have HROW3 := Lib.hid (own_still HROW2.out hk3)
  have HSAME := Lib.hid (lSame_any ag aw nl cg cw (refc l) W3 (HRG.out.below hk3) (HRW.out.below hk3) (by omega))
  rw [← hW3]
  have HMB : Hid (w.heap.size + 2 ≤ w2.heap.size) := by have h9 := HR2.out.lt; simp only [World.size_alloc] at h9; unfold Hid; omega
  clear hW3 hk3 HS2 HR2 HRG HRW
  generalize w2.heap.size = M at *
  refine ⟨trivial, CallsIn.mono (callsIn_wide.2 HSAME.out) ?_⟩
  rintro e w4 ⟨rfl, hk4⟩
  have HK4 := Lib.hid (HK3.out.trans hk4)
  have HS4 := Lib.hid (hk4.blk HS3.out (fun f => f))
  have HR4 := Lib.hid (hk4.blk HR3.out (fun f => f))
  have HM4 := Lib.hid (hk4.blk HM3.out (fun f => f))
  have HROW4 := Lib.hid (own_still HROW3.out hk4)
  clear hk4 HS3 HR3 HM3 HROW3
  gi_wp2_with fail
  refine ⟨trivial, CallsIn.mono (callsIn_wide.2 (sEach_any a0 n0 c0 _)) ?_⟩
  rintro e w5 ⟨rfl, hb5, hk5⟩
  have HK5 := Lib.hid (HK4.out.trans hk5)
  have HS5 := Lib.hid (hk5.blk HS4.out (fun f => f))
  have HR5 := Lib.hid (hk5.blk HR4.out (fun f => f))
  have HM5 := Lib.hid (hk5.blk HM4.out (fun f => f))
  have HROW5 := Lib.hid (own_still HROW4.out hk5)
  have HB5 := Lib.hid hb5
  have HML : Hid (M < w4.heap.size) := HM4.out.lt
  clear hk5 hb5 HS4 HR4 HM4 HROW4
  gi_wp2_with fail
  obtain ⟨W6, hW6⟩ : ∃ W', W' = w5.alloc (.cells #[.int .i64 0] 3) := ⟨_, rfl⟩
  have hk6 : Keep none_ w5 W6 := by rw [hW6]; exact (Keep.refl _ _).alloc _
  have hsz6 : W6.heap.size = w5.heap.size + 1 := by rw [hW6]; simp
  have hN6 : Blk W6 w5.heap.size [.int .i64 ((0 : Nat) : Int)] 3 := by rw [hW6]; exact Blk.new w5 [.int .i64 0] 3
  obtain ⟨base, hrow6⟩ : ∃ base, CyRow W6 base (.slice aw nl cw) (refc l) := ⟨w1.heap.size, by rw [HNL.out]; exact own_still HROW5.out hk6⟩
  obtain ⟨N, hN⟩ : ∃ N, N = w5.heap.size := ⟨_, rfl⟩
  have HML5 : Hid (M < N ∧ w4.heap.size < N ∧ w.heap.size + 2 ≤ M) := ⟨by have h1 := HM5.out.lt; omega, by have h1 := HB5.out.lt; omega, HMB.out⟩
  have HI6 : Hid (SCI w M N base (.slice aw nl cw) (refc l) st 0 W6) := ⟨HK5.out.trans hk6, hk6.blk HS5.out (fun f => f), (by have h9 := hk6.blk HR5.out (fun f => f); simp only [World.size_alloc] at h9; exact h9), hk6.blk HM5.out (fun f => f), hN ▸ hN6, hrow6⟩
  have HVN : Hid (∀ g, (Value.slice aw nl cw).ownBlock = some g → g ≠ N) := fun g hg => by rw [HNL.out] at hg; have h1 := (World.ownsRow.lt HROW5.out g hg).2; omega
  have HB6 := Lib.hid (hk6.blk HB5.out (fun f => f))
  have HREC6 := Lib.hid (HR.out.below (HK5.out.trans hk6))
  have HSZ6 : Hid (W6.heap.size = N + 1) := by unfold Hid; omega
  have HW6 : Hid (w.heap.size ≤ W6.heap.size) := (HK5.out.trans hk6).size
  rw [← hW6, ← hN]
  clear hW6 hk6 hrow6 hN6 hsz6 HS5 HR5 HM5 HROW5 HB5
  have HWF := Lib.hid (refc_wf l HW.out (by have := HL.out; omega))
  have HSEQ : Hid (SeqL Fence.wide 8 Tryd.prog 17 #[.pointer (some ⟨w4.heap.size, 0, none⟩)] (eachL (refc l)) EncE (fun b => b ≠ W6.heap.size + 1 ∧ b ≠ N) W6) := by
    have h := each_seq a0 n0 c0 w4.heap.size (fun b => b ≠ W6.heap.size + 1 ∧ b ≠ N) l 8 W6 HREC6.out (by omega) HB6.out
    rw [HCE.out] at h
    exact h
  clear HB6 HREC6 HCE HCEL HSAME hN
  generalize refc l = o at *
  generalize w4.heap.size = B at *
  obtain rfl := HNL.out
  refine rangeFn rfl (by decide) (gf := 17) (lb := #[.pointer (some ⟨B, 0, none⟩)]) rfl trivial (fun args w => by simp [callFunc, Tryd.func17, go_sem]; rfl) (all := eachL o) (Enc := EncE) (G := fun b => b ≠ W6.heap.size + 1 ∧ b ≠ N)
    HSEQ.out ?hG ?hGn ?hps
    (fun j W => SCI w M N base (.slice aw o.length cw) o st j W ∧ (0 < st → (j : Int) < st))
    (fun c j W => SCI w M N base (.slice aw o.length cw) o st j W ∧ (0 < j ∧ (j : Int) = st ∧ c = .exit 0))
    ?hI ?hIx ?h0 ?round ?done ?stop
  case hI => exact (SCI.own HW6.out).and ownFrom_pure
  case hIx => exact fun c => (SCI.own HW6.out).and ownFrom_pure
  case h0 => exact ⟨HI6.out, fun h => by omega⟩
  case hG => exact fun h => h.1 rfl
  case hGn => exact fun b hb => ⟨by omega, by have := HSZ6.out; omega⟩
  case hps =>
    rintro W x args h
    rw [h]; rfl
  case round =>
    rintro l9 j x args W hx henc hI
    obtain ⟨hjn, hx1, hxo⟩ := eachL_at hx
    obtain ⟨x1, xn, xs, xm, xr, xf⟩ := x
    simp only at hx1 hxo
    obtain rfl := hx1
    obtain rfl : args = _ := henc
    have HX := Lib.hid hxo
    have HWFX := Lib.hid (HWF.out _ (List.mem_of_getElem? hxo))
    clear hx hxo
    gi_wp2_with fail
    obtain ⟨hI, hIst⟩ := hI
    have hkA : Keep none_ W (W.alloc (.cells #[.int .i64 xn, .int .i64 xs, .int .i64 xm, .int .i64 xr, .int .i64 xf] 25)) := (Keep.refl _ _).alloc _
    have hsW := hI.keep.size
    refine ⟨KeepsFrom.ofKeep hkA, Holds.ofKeep hkA (fun _ _ f => f), fun W9 => Blk W9 W.heap.size [.int .i64 xn, .int .i64 xs, .int .i64 xm, .int .i64 xr, .int .i64 xf] 25 ∧ SCI w M N base (.slice aw o.length cw) o st x1 W9, ⟨Blk.new W _ _, hI.later hkA⟩, (ownFrom_blk (cs := fun _ => _)).and (fun _ W' W'' row h hg hr => SCI.own HW6.out x1 W' W'' row h hg hr), ?_⟩
    have HST := Lib.hid hIst
    have HSB : Hid (N < W.heap.size) := hI.n.lt
    clear hI hkA hIst
    rintro W2 ⟨hX2, hI⟩
    obtain ⟨av', cv', e1, hrec, _⟩ := RecAt.ofOwn hI.row (cy_len o) (by simp)
    injection e1 with e1 _ e3
    subst e1 e3
    obtain ⟨b, off, rfl, y, hy, g0, g1, g2, g3, g4⟩ := cyCells hrec x1 hjn
    rw [HX.out] at hy
    injection hy with hy
    subst hy
    simp only at g0 g1 g2 g3 g4
    have HI := Lib.hid hI
    have HXB := Lib.hid hX2
    have cM := hI.m.cell 0 (v := .slice (some ⟨b, off, none⟩) o.length cw) rfl
    have cN := hI.n.cell 0 (v := .int .i64 (x1 : Int)) rfl
    have c0 := hX2.cell 0 (v := .int .i64 xn) rfl
    have c1 := hX2.cell 1 (v := .int .i64 xs) rfl
    have c2 := hX2.cell 2 (v := .int .i64 xm) rfl
    have c3 := hX2.cell 3 (v := .int .i64 xr) rfl
    have c4 := hX2.cell 4 (v := .int .i64 xf) rfl
    have hge : ¬ ((o.length : Int) ≤ (x1 : Int)) := by omega
    clear hI hX2 hrec
    gi_wp2_with fail
    have HTQ := Lib.hid (HT.out.keep HI.out.keep)
    have qM := cell_regrown cM
    have qN := cell_regrown cN
    have q0 := cell_regrown c0
    have q1 := cell_regrown c1
    have q2 := cell_regrown c2
    have q3 := cell_regrown c3
    have q4 := cell_regrown c4
    have p0 := cell_regrown g0
    have p1 := cell_regrown g1
    have p2 := cell_regrown g2
    have p3 := cell_regrown g3
    have p4 := cell_regrown g4
    clear cM cN c0 c1 c2 c3 c4 g0 g1 g2 g3 g4
    refine region_quiet_r (by kernel_rfl) (by kernel_rfl) (by kernel_rfl) ?_
    repeat
      refine wpQuietIn_step (fun _ _ _ _ => trivial) (fun K hK => ?_)
      go_simp
      first
        | (refine hK _ ?_
           clear hK K)
        | (apply Exists.intro
           refine ⟨fun _ => ?_, hK _ ?_⟩
           · first
            | exact ⟨trivial, callsIn_regrown (CallsIn.inRound l9 (callsIn_wide.2 (lLine_any ⟨xn, xs, xm, xr, xf⟩ _ HWFX.out)))⟩
            | exact ⟨trivial, callsIn_regrown (CallsIn.inRound l9 (callsIn_wide.2 (sLine_any ⟨xn, xs, xm, xr, xf⟩ _ HWFX.out (HTQ.out.keep (keep_regrown _ _ _)))))⟩
            | exact callsIn_regrown (CallsIn.inRound l9 (callsIn_wide.2 (lLine_any ⟨xn, xs, xm, xr, xf⟩ _ HWFX.out)))
            | exact callsIn_regrown (CallsIn.inRound l9 (callsIn_wide.2 (sLine_any ⟨xn, xs, xm, xr, xf⟩ _ HWFX.out (HTQ.out.keep (keep_regrown _ _ _)))))
           clear hK K)
    refine wpQuietIn_nil ?_
    intro _ hw9
    obtain ⟨⟨dq, osq⟩, hw8⟩ := hw9
    subst hw8
    have hk3 := keep_regrown W2 dq osq
    clear qM qN q0 q1 q2 q3 q4 p0 p1 p2 p3 p4
    generalize grow (redrawn W2 dq) osq = w3 at hk3 ⊢
    have hI3 := HI.out.later hk3
    have hMN := HML5.out
    have hnext := hI3.next (by omega) (by omega) HVN.out
    have hS3 := hI3.s.cell 0 rfl
    have hN3 := hI3.n.cell 0 rfl
    have fN3 := hI3.n.free 0
    have hN4 : (w3.setCell ⟨N, 0, none⟩ (.int .i64 ((x1 : Int) + 1))).cell? ⟨N, 0, none⟩ = some (.int .i64 ((x1 : Int) + 1)) := World.cell?_setCell_same _ _ _ hN3
    have hS4 : (w3.setCell ⟨N, 0, none⟩ (.int .i64 ((x1 : Int) + 1))).cell? ⟨w.heap.size, 0, none⟩ = some (.int .u8 st) := (hI3.s.other (a := ⟨N, 0, none⟩) (by simp; omega) _).cell 0 rfl
    have hKF : KeepsFrom W6.heap.size W2 (w3.setCell ⟨N, 0, none⟩ (.int .i64 ((x1 : Int) + 1))) := (KeepsFrom.ofKeep hk3).trans ((KeepsOthers.setCell _ _ _).from _)
    have hHD : Holds (fun b => b ≠ W6.heap.size + 1 ∧ b ≠ N) W2 (w3.setCell ⟨N, 0, none⟩ (.int .i64 ((x1 : Int) + 1))) :=
      Holds.ofKeep (S := only N) ((hk3.mono (fun _ _ f => f.elim)).put _ _) (fun i hi e => hi.2 e)
    have HNX := Lib.hid hnext
    have HKF := Lib.hid hKF
    have HHD := Lib.hid hHD
    clear hI3 hk3 hnext hKF hHD hge
    by_cases hst : (x1 : Int) + 1 = st
    · have hstb : ((x1 : Int) + 1 == st) = true := beq_iff_eq.2 hst
      have HS2 := Lib.hid hst
      clear hst
      gi_wp2_with fail
      exact ⟨HKF.out, HNX.out, by omega, by have := HS2.out; omega, rfl⟩
    · have hstb : ((x1 : Int) + 1 == st) = false := beq_eq_false_iff_ne.2 hst
      have HS2 := Lib.hid hst
      clear hst
      gi_wp2_with fail
      exact ⟨HKF.out, HHD.out, HNX.out, fun h0 => by have h1 := HST.out h0; have h2 := HS2.out; omega⟩
  case done =>
    rintro D W hD ⟨hI, hIst⟩ hKd
    rw [eachL_len] at hI hIst
    have hole9 := hole
    by_cases hst : 0 < st
    · have hlt2 : (o.length : Int) < st := hIst hst
      have hmn : min (o.length : Int) st = (o.length : Int) := by omega
      have hdc : decide (0 < st) = true := decide_eq_true hst
      have HDC := Lib.hid hst
      clear hlt2 hst
      clear hIst
      have cM := hI.m.cell 0 (v := .slice aw o.length cw) rfl
      have cN := hI.n.cell 0 rfl
      have cS := hI.s.cell 0 rfl
      have hKD := Lib.hid hKd
      have hWsz := hI.keep.size
      have HIW := Lib.hid hI
      clear hI
      gi_wp2_with fail
      refine ⟨trivial, CallsIn.mono (callsIn_wide.2 (awake26_any _ (HT.out.keep HIW.out.keep))) ?_⟩
      rintro e w9 ⟨rfl, hk9⟩
      have hI9 := HIW.out.later hk9
      have hR9 := hI9.r.cell 0 rfl
      have fR9 := hI9.r.free 0
      have hR10 : (w9.setCell ⟨w.heap.size + 1, 0, none⟩ (.bool true)).cell? ⟨w.heap.size + 1, 0, none⟩ = some (.bool true) := World.cell?_setCell_same _ _ _ hR9
      have hDw : w.heap.size + 2 ≤ D := by have h1 := HSZ6.out; have h2 := HML5.out; omega
      have hKd9 : (w9.setCell ⟨w.heap.size + 1, 0, none⟩ (.bool true)).heap[D]? = some (.deferred (some [])) := by
        have h1 : w9.heap[D]? = some (.deferred (some [])) := (hk9.block D (Array.getElem?_eq_some_iff.1 hKd).1 (fun f => f)).trans hKd
        rw [Below.heap_setCell _ _ _ _ (by simp; omega)]; exact h1
      have hRp := ((hI9.r.set 0 (.bool true)).putObj (o' := .deferred none) hKd9 rfl).cell 0 (v := .bool true) rfl
      have hKp := ((hI9.keep.putNew (B := w.heap.size + 1) (by omega) 0 (.bool true)).takeDeferred (D := D) (by omega) (.deferred none))
      clear hKd cM cN cS
      gi_wp2_with fail
      refine ⟨by simp, .inl ⟨_, _, rfl, run_takeDeferred hKd9, ?_⟩⟩
      exact ⟨.bool true, by simp [results, Tryd.f4, go_sem, hRp], rfl, hKp⟩
    · obtain rfl : st = 0 := by omega
      clear hIst hst
      have cM := hI.m.cell 0 (v := .slice aw o.length cw) rfl
      have cN := hI.n.cell 0 rfl
      have cS := hI.s.cell 0 rfl
      have hKD := Lib.hid hKd
      have hWsz := hI.keep.size
      have HIW := Lib.hid hI
      clear hI
      gi_wp2_with fail
      refine ⟨trivial, CallsIn.mono (callsIn_wide.2 (awake26_any _ (HT.out.keep HIW.out.keep))) ?_⟩
      rintro e w9 ⟨rfl, hk9⟩
      have hI9 := HIW.out.later hk9
      have hR9 := hI9.r.cell 0 rfl
      have fR9 := hI9.r.free 0
      have hR10 : (w9.setCell ⟨w.heap.size + 1, 0, none⟩ (.bool true)).cell? ⟨w.heap.size + 1, 0, none⟩ = some (.bool true) := World.cell?_setCell_same _ _ _ hR9
      have hDw : w.heap.size + 2 ≤ D := by have h1 := HSZ6.out; have h2 := HML5.out; omega
      have hKd9 : (w9.setCell ⟨w.heap.size + 1, 0, none⟩ (.bool true)).heap[D]? = some (.deferred (some [])) := by
        have h1 : w9.heap[D]? = some (.deferred (some [])) := (hk9.block D (Array.getElem?_eq_some_iff.1 hKd).1 (fun f => f)).trans hKd
        rw [Below.heap_setCell _ _ _ _ (by simp; omega)]; exact h1
      have hRp := ((hI9.r.set 0 (.bool true)).putObj (o' := .deferred none) hKd9 rfl).cell 0 (v := .bool true) rfl
      have hKp := ((hI9.keep.putNew (B := w.heap.size + 1) (by omega) 0 (.bool true)).takeDeferred (D := D) (by omega) (.deferred none))
      clear hKd cM cN cS
      gi_wp2_with fail
      refine ⟨by simp, .inl ⟨_, _, rfl, run_takeDeferred hKd9, ?_⟩⟩
      exact ⟨.bool true, by simp [results, Tryd.f4, go_sem, hRp], rfl, hKp⟩
  case stop =>
    rintro D c j W hD hjle ⟨hI, hj0, hjst, rfl⟩ hKd
    rw [eachL_len] at hjle
    have hj0' : (0 : Int) < st := by omega
    have hmn : min (o.length : Int) st = st := by omega
    have hdc : decide (0 < st) = true := decide_eq_true hj0'
    clear hj0'
    have cM := hI.m.cell 0 (v := .slice aw o.length cw) rfl
    have cN := hI.n.cell 0 rfl
    rw [hjst] at cN
    have HJS := Lib.hid hjst
    clear hjst
    have cS := hI.s.cell 0 rfl
    have hKD := Lib.hid hKd
    have hWsz := hI.keep.size
    have HIW := Lib.hid hI
    clear hI
    gi_wp2_with fail
    refine ⟨trivial, CallsIn.mono (callsIn_wide.2 (awake26_any _ (HT.out.keep HIW.out.keep))) ?_⟩
    rintro e w9 ⟨rfl, hk9⟩
    have hI9 := HIW.out.later hk9
    have hR9 := hI9.r.cell 0 rfl
    have fR9 := hI9.r.free 0
    have hR10 : (w9.setCell ⟨w.heap.size + 1, 0, none⟩ (.bool true)).cell? ⟨w.heap.size + 1, 0, none⟩ = some (.bool true) := World.cell?_setCell_same _ _ _ hR9
    have hDw : w.heap.size + 2 ≤ D := by have h1 := HSZ6.out; have h2 := HML5.out; omega
    have hKd9 : (w9.setCell ⟨w.heap.size + 1, 0, none⟩ (.bool true)).heap[D]? = some (.deferred (some [])) := by
      have h1 : w9.heap[D]? = some (.deferred (some [])) := (hk9.block D (Array.getElem?_eq_some_iff.1 hKd).1 (fun f => f)).trans hKd
      rw [Below.heap_setCell _ _ _ _ (by simp; omega)]; exact h1
    have hRp := ((hI9.r.set 0 (.bool true)).putObj (o' := .deferred none) hKd9 rfl).cell 0 (v := .bool true) rfl
    have hKp := ((hI9.keep.putNew (B := w.heap.size + 1) (by omega) 0 (.bool true)).takeDeferred (D := D) (by omega) (.deferred none))
    clear hKd cM cN cS
    gi_wp2_with fail
    refine ⟨by simp, .inl ⟨_, _, rfl, run_takeDeferred hKd9, ?_⟩⟩
    exact ⟨.bool true, by simp [results, Tryd.f4, go_sem, hRp], rfl, hKp⟩
end Go.Proofs.YtcopkhhgcgfelaaDoor
