/- Parts of a walk, put together by a small program of mine from texts of their own: MutQ4 LawMAwake RRight FieldX LawMNone. -/
import Derived.Test.YtjdnkhljgnjkcaaGreatDoorZzz
import Derived.Test.YtjdnkhljgnjkcaaGreatDoorZzy
import Derived.Test.YtjdnkhljgnjkcaaGreatDoorZzb
import Derived.Test.YtjdnkhljgnjkcaaGreatDoorZzo
import Derived.IntWalk
/- A mutator's results; what it logged. -/
namespace Go.Proofs.YtjdnkhljgnjkcaaGreatDoor
open Go.RowKit
attribute [local go_sem] Oper.semAt_some

set_option maxRecDepth 10000 in
set_option maxHeartbeats 400000 in
theorem cloneRes_any (a : Option Addr) (n c : Nat) (rs : List (List Value)) (w : World) (h : RecAt w a n 2 rs) (hr : ∀ r ∈ rs, r.length = 2) (hnil : a = none → c = 0) (hm : n ≤ 100000000) (h1 : ∀ r ∈ rs, ∀ u ∈ r, u.oneCell' = true) :
    Calls Tryz.prog 57 #[.slice a n c] w fun e w' => ∃ v', e = .returned v' ∧ w'.ownsRow w.heap.size 110 2 v' n rs.flatten ∧ Keep none_ w w' := by
  have hlen := flat_len rs hr
  have hnl := h.len
  cases a with
  | none =>
    have h0 : n = 0 := by
      rcases Nat.eq_zero_or_pos n with h0 | h0
      · exact h0
      · obtain ⟨b, off, e, _⟩ := h.at_ h0; cases e
    subst h0
    have : rs = [] := List.eq_nil_of_length_eq_zero hnl
    subst this
    obtain rfl := hnil rfl
    clear h hr hnil hm h1 hlen hnl
    have hn := fun w => Lib.run_eql_slice_nil (P := Tryz.prog) w 43 110 none 0 0 0 0 (by kernel_rfl)
    go_enter Tryz.func57, Tryz.ntmps57
    go_wp2
    go_ret
    exact ⟨_, rfl, World.ownsRow_nil _ _ _ _, Keep.refl _ _⟩
  | some ad =>
    have hn := fun w => Lib.run_eql_slice_nil (P := Tryz.prog) w 43 110 (some ad) n c 0 0 (by kernel_rfl)
    obtain ⟨i0, hi1, hi2, hi3, hi4⟩ := info_parts Tryz.infoResC
    have hw0 : ∀ w : World, (w.alloc (.cells #[] 110)).ownsRow w.heap.size 110 2 (.slice (some ⟨w.heap.size, 0, none⟩) 0 0) 0 [] := fun w => World.ownsRow_made w #[] 0 (Nat.le_refl _) (by decide) rfl
    have HC := Lib.hid (fun j u hj => (h.below ((Keep.refl none_ w).alloc (.cells #[] 110))).flatCells (by decide) hr rfl j u hj)
    have HU : Hid (∀ u ∈ rs.flatten, u.oneCell' = true) := fun u hu => by
      obtain ⟨r, hr1, hr2⟩ := List.mem_flatten.1 hu
      exact h1 r hr1 u hr2
    rw [hnl] at hlen
    generalize rs.flatten = xs at *
    clear h hr hnil h1 hnl
    go_enter Tryz.func57, Tryz.ntmps57
    go_wp2_with (at_builtin; refine wpList_append_own _ rfl _ _ 43 rfl w.heap.size 110 i0 (.agg #[.int .i64 0, .int .i64 0]) 2 16 (by kernel_rfl) hi1 hi2 hi3 hi4 rfl (by decide) _ _ _ rfl (hw0 w) ad n c xs rfl hlen HC.out HU.out (by unfold maxLen; omega) (by omega) (by simp) ?_; intro v' w1 hown hgr _)
    have hown' : w1.ownsRow w.heap.size 110 2 v' n xs := by simpa using hown
    have hkeep : Keep none_ w w1 := ((Keep.refl none_ w).alloc _).grown hgr (fun k e hk => absurd hk (by have e' : w.heap.size = k := Option.some.inj e; omega))
    clear hown hgr
    go_wp2
    go_ret
    exact ⟨_, rfl, hown', hkeep⟩
def resRows (res : List (Int × Nat)) : List (List Value) := res.map fun r => [Value.int .i64 r.1, Value.int .i64 (r.2 : Int)]
theorem resRows_len {res : List (Int × Nat)} : ∀ r ∈ resRows res, r.length = 2 := fun r hr => by
  obtain ⟨x, _, rfl⟩ := List.mem_map.1 hr; rfl
theorem resRows_one {res : List (Int × Nat)} : ∀ r ∈ resRows res, ∀ u ∈ r, u.oneCell' = true := fun r hr u hu => by
  obtain ⟨x, _, rfl⟩ := List.mem_map.1 hr
  simp at hu
  rcases hu with rfl | rfl <;> rfl
section
variable {o : Ow} {w w' : World} {G : Geo} {g : MG} {s : Sh} {m : MS} {nv : Value} {ev : Option Ev}
set_option maxRecDepth 4000 in
theorem mResults_any (h : MAt o w G g s m ev nv) (hl : m.res.length ≤ 1000000) : Calls Tryz.prog 18 #[.pointer (some ⟨g.M, 0, none⟩)] w fun e w' => ∃ a c, e = .returned (.slice a m.res.length c) ∧ RecAt w' a m.res.length 2 (resRows m.res) ∧ (∀ x, a = some x → w.heap.size ≤ x.block) ∧ Keep none_ w w' := by
  obtain ⟨rv, er, hr, ra, rc, hrv⟩ := h.resC
  have hl2 : (resRows m.res).length = m.res.length := by simp [resRows]
  obtain ⟨a, c, e1, hrec, hnc⟩ := RecAt.ofOwn (rs := resRows m.res) hr.1 resRows_len hl2
  have hnil : a = none → c = 0 := fun e => by
    rcases hr.1.2 with ⟨e2, _⟩ | ⟨q, cap, cur, e2, _⟩
    · rw [e2] at e1; simp only [Value.slice.injEq] at e1; exact e1.2.2.symm
    · rw [e2] at e1; rw [e] at e1; cases e1
  rw [e1] at er
  have HC := Lib.hid (cloneRes_any a m.res.length c (resRows m.res) w hrec resRows_len hnil (by omega) resRows_one)
  have HEND : Hid (∀ v' W', W'.ownsRow w.heap.size 110 2 v' m.res.length (resRows m.res).flatten → ∃ a c, v' = .slice a m.res.length c ∧ RecAt W' a m.res.length 2 (resRows m.res) ∧ ∀ x, a = some x → w.heap.size ≤ x.block) := fun v' W' hv => by
    obtain ⟨a, c, e1, hrec, hnc⟩ := RecAt.ofOwn (rs := resRows m.res) hv resRows_len hl2
    refine ⟨a, c, e1, hrec, fun x hx => ?_⟩
    rcases hv.2 with ⟨e2, _⟩ | ⟨q, cap, cur, e2, hq, _⟩
    · rw [e2] at e1; simp only [Value.slice.injEq] at e1; rw [← e1.1] at hx; cases hx
    · rw [e2] at e1; simp only [Value.slice.injEq] at e1; rw [← e1.1] at hx; cases hx; exact hq
  generalize m.res.length = n at *
  generalize resRows m.res = rs at *
  clear h hr hrec hnc hnil hl hl2 hrv e1
  go_enter Tryz.func18, Tryz.ntmps18
  go_wp2_with fail
  refine HC.out.mono ?_
  rintro e w1 ⟨v', rfl, ho, hk⟩
  obtain ⟨a', c', rfl, h1, h2⟩ := HEND.out v' w1 ho
  have HR := Lib.hid (And.intro h1 (And.intro h2 hk))
  clear ho hk h1 h2
  go_wp2_with fail
  go_ret
  exact ⟨a', c', rfl, HR.out.1, HR.out.2.1, HR.out.2.2⟩
set_option maxRecDepth 4000 in
theorem mLogged_any (h : MAt o w G g s m ev nv) : Calls Tryz.prog 17 #[.pointer (some ⟨g.M, 0, none⟩)] w fun e w' => ∃ v, e = .returned v ∧ w'.ownsRow w.heap.size 3 1 v m.buf.length (tabV m.buf) ∧ Keep none_ w w' := by
  have c10 : w.cell? ⟨g.M, 10, none⟩ = some (.pointer (some ⟨g.Bf, 0, none⟩)) := h.cell 10 _ (fun _ _ => rfl)
  have HB : Hid (Calls Tryz.prog 56 #[.pointer (some ⟨g.Bf, 0, none⟩)] w fun e w' => ∃ v, e = .returned v ∧ w'.ownsRow w.heap.size 3 1 v m.buf.length (tabV m.buf) ∧ Keep none_ w w') := by
    have HA := Lib.hid (rwAll_any h.buf)
    clear h c10
    go_enter Tryz.func56, Tryz.ntmps56
    go_wp2_with fail
    refine HA.out.mono ?_
    rintro e w1 ⟨v', rfl, ho, hk⟩
    have HR := Lib.hid (And.intro ho hk)
    clear ho hk
    go_wp2_with fail
    go_ret
    exact ⟨v', rfl, HR.out.1, HR.out.2⟩
  clear h
  go_enter Tryz.func17, Tryz.ntmps17
  go_wp2_with fail
  refine HB.out.mono ?_
  rintro e w1 ⟨v', rfl, ho, hk⟩
  have HR := Lib.hid (And.intro ho hk)
  clear ho hk
  go_wp2_with fail
  go_ret
  exact ⟨v', rfl, HR.out.1, HR.out.2⟩
end
end Go.Proofs.YtjdnkhljgnjkcaaGreatDoor

/- The document's example of a mutator. -/
namespace Go.Proofs.YtjdnkhljgnjkcaaGreatDoor
open Go.RowKit
attribute [local go_sem] Oper.semAt_some

/-- The package's tables lie there. -/
structure TabsM (w : World) : Prop where
  t : Tabs w
  s : Sizes w
  g : 2 < w.heap.size ∧ 3 < w.heap.size ∧ 1 < w.heap.size
theorem TabsM.keep {w w' : World} (h : TabsM w) (k : Keep none_ w w') : TabsM w' := ⟨h.t.keep k, h.s.keep k, by have := k.size; have := h.g; omega⟩
/-- A mutator alone, in a call that began in w. -/
def Ses (w W : World) (G : Geo) (g : MG) (s : Sh) (m : MS) : Prop := ∃ o : Ow, MutAt o W G g s m ∧ (∀ x, x < w.heap.size → o x = 0) ∧ Keep none_ w W
section
variable {w W W' : World} {G : Geo} {g : MG} {s : Sh} {m : MS}
theorem Keep.zeroO {o : Ow} {I : List Nat} (k0 : Keep none_ w W) (k : Keep (In o I) W W') (h0 : I.contains 0 = false) (hz : ∀ x, x < w.heap.size → o x = 0) : Keep none_ w W' :=
  k0.trans' k (fun i hi hin => absurd hin (not_in' (hz i hi) h0))
theorem Ses.still (h : Ses w W G g s m) (k : Keep none_ W W') : Ses w W' G g s m := by
  obtain ⟨o, h1, h2, h3⟩ := h
  exact ⟨o, h1.still k, h2, h3.trans k⟩
theorem Ses.pick {N : Nat} (h : Ses w W G g s m) (ok : Pok N s m) (hN : N ≤ 1000000) : Calls Tryz.prog 11 #[.pointer (some ⟨g.M, 0, none⟩)] W fun e w' => e = .returned (.tuple #[evAgg (pickM s m).2.2, evTold (pickM s m).2.2]) ∧ Ses w w' G g (pickM s m).1 (pickM s m).2.1 := by
  obtain ⟨o, h1, h2, h3⟩ := h
  refine (mPick_any h1 ok hN).mono ?_
  rintro e w' ⟨o', rfl, e1, h4, k4⟩
  exact ⟨rfl, o', h4, fun x hx => (e1 x (Nat.lt_of_lt_of_le hx h3.size)).trans (h2 x hx), h3.zeroO k4 (stepI_0 _) h2⟩
theorem Ses.done (h : Ses w W G g s m) : Calls Tryz.prog 20 #[.pointer (some ⟨g.M, 0, none⟩)] W fun e w' => e = .returned (.bool (doneM m)) ∧ Ses w w' G g s m := by
  obtain ⟨o, h1, h2, h3⟩ := h
  refine (mDone_any h1).mono ?_
  rintro e w' ⟨rfl, k⟩
  exact ⟨rfl, o, h1.still k, h2, h3.trans k⟩
theorem Ses.results (h : Ses w W G g s m) (hl : m.res.length ≤ 1000000) : Calls Tryz.prog 18 #[.pointer (some ⟨g.M, 0, none⟩)] W fun e w' => ∃ a c, e = .returned (.slice a m.res.length c) ∧ RecAt w' a m.res.length 2 (resRows m.res) ∧ Ses w w' G g s m := by
  obtain ⟨o, h1, h2, h3⟩ := h
  obtain ⟨ev, nv, h4, h5⟩ := id h1
  refine (mResults_any h4 hl).mono ?_
  rintro e w' ⟨a, c, rfl, hr, _, k⟩
  exact ⟨a, c, rfl, hr, o, h1.still k, h2, h3.trans k⟩
theorem Ses.keep (h : Ses w W G g s m) : Keep none_ w W := by obtain ⟨o, h1, h2, h3⟩ := h; exact h3
end
theorem Bd.new_pend (n : Nat) (i : Nat) : (Bd.new (n : Int)).pend (i : Int) = false := by
  have h : (Bd.new (n : Int)).isOpen (i : Int) = false := by
    unfold Bd.isOpen Bd.new
    simp only [Int.toNat_natCast]
    rw [List.getD_eq_getElem?_getD, List.getElem?_replicate]
    split <;> rfl
  unfold Bd.pend
  rw [h, Bool.and_false]
set_option maxRecDepth 8000 in
set_option maxHeartbeats 4000000 in
theorem awake20_any (w : World) (hT : TabsM w) : Calls Tryz.prog 21 #[] w fun e w' => e = .returned (.bool true) ∧ Keep none_ w w' := by
  have HLT := Lib.hid (little_any ⟨0, 0, 0, 1, 0, 0, 0⟩ w)
  have hlt : (⟨0, 0, 0, 1, 0, 0, 0⟩ : Conf).little = awC := by decide
  rw [hlt] at HLT
  have HSH : Hid (∀ W, Keep none_ w W → Calls Tryz.prog 7 #[.agg awC.cells.toArray] W fun e w' => ∃ (o : Ow) (G : Geo), e = .returned (.tuple #[.pointer (some ⟨G.S, 0, none⟩), .int .i64 0]) ∧ ShAt o w' G awS ∧ (∀ x, x < W.heap.size → o x = 0) ∧ (∀ x, o x < 20) ∧ Keep none_ W w') := fun W hW =>
    share_ok awC 1 16 0 1 (by decide) rfl rfl rfl rfl W (hT.keep hW).t (hT.keep hW).s (hT.keep hW).g
  have hok0 : Pok 0 awS awM := Pok.first 0 _ (QOk.new _ _ _ _ _) rfl (by decide)
  have HOK : Hid (∀ k, k ≤ 16 → Pok k (pickN k awS awM).1 (pickN k awS awM).2) := fun k _ => by have h := (pickN_ok hok0 k).1; rwa [Nat.zero_add] at h
  simp only [Conf.cells] at HLT HSH
  clear hT hlt hok0
  go_enter Tryz.func21, Tryz.ntmps21
  go_wp2_with fail
  refine HLT.out.mono ?_
  rintro e w1 ⟨rfl, k1⟩
  have HS1 := Lib.hid (HSH.out w1 k1)
  have HK1 := Lib.hid k1
  clear k1 HLT HSH
  go_wp2_with fail
  refine HS1.out.mono ?_
  rintro e w2 ⟨o, G, rfl, hsh, hz, hz20, k2⟩
  have HK2 := Lib.hid (HK1.out.trans k2)
  have HZ : Hid (∀ x, x < w.heap.size → o x = 0) := fun x hx => hz x (Nat.lt_of_lt_of_le hx HK1.out.size)
  have HSHA := Lib.hid hsh
  obtain ⟨W3, hW3⟩ : ∃ W3, W3 = w2.alloc (.cells #[.int .i64 1, .int .i64 0, .int .i64 1, .int .i64 0, .int .i64 7, .int .i64 1, .int .i64 0, .int .i64 0] 61) := ⟨_, rfl⟩
  have k3 : Keep none_ w2 W3 := by rw [hW3]; exact (Keep.refl _ _).alloc _
  have hb3 : Blk W3 w2.heap.size [.int .i64 1, .int .i64 0, .int .i64 1, .int .i64 0, .int .i64 7, .int .i64 1, .int .i64 0, .int .i64 0] 61 := by rw [hW3]; exact Blk.new w2 _ _
  have hrec : RecAt W3 (some ⟨w2.heap.size, 0, none⟩) 2 4 (opCells [⟨1, 0, 1, 0⟩, ⟨7, 1, 0, 0⟩]) := by
    refine ⟨rfl, fun _ => ⟨_, 0, rfl, fun i r hi j v hj => ?_⟩⟩
    refine hb3.cell _ ?_
    have hi2 := (List.getElem?_eq_some_iff.1 hi).1
    simp [opCells] at hi2
    rcases (by omega : i = 0 ∨ i = 1) with rfl | rfl
    · simp [opCells, OpR.cells] at hi; subst hi
      have hj2 := (List.getElem?_eq_some_iff.1 hj).1
      simp at hj2
      rcases (by omega : j = 0 ∨ j = 1 ∨ j = 2 ∨ j = 3) with rfl | rfl | rfl | rfl <;> simpa using hj
    · simp [opCells, OpR.cells] at hi; subst hi
      have hj2 := (List.getElem?_eq_some_iff.1 hj).1
      simp at hj2
      rcases (by omega : j = 0 ∨ j = 1 ∨ j = 2 ∨ j = 3) with rfl | rfl | rfl | rfl <;> simpa using hj
  have HN := Lib.hid (mutNew_ok (hsh.still k3 (by decide)) (by decide) 0 (by decide) [⟨1, 0, 1, 0⟩, ⟨7, 1, 0, 0⟩] 2 rfl (by decide) (some ⟨w2.heap.size, 0, none⟩) 2 hrec (fun e => by cases e))
  have HK3 := Lib.hid (HK2.out.trans k3)
  have HW3 := Lib.hid hW3
  clear hsh hz hz20 k2 hW3 k3 hb3 hrec HS1
  go_wp2_with fail
  rw [← HW3.out]
  refine HN.out.mono ?_
  rintro e w4 ⟨o', g, rfl, e4, h4, h4x, k4⟩
  have HI0 : Hid (Ses w w4 G g (pickN 0 awS awM).1 (pickN 0 awS awM).2) := ⟨o', h4, fun x hx => (e4 x (Nat.lt_of_lt_of_le hx HK3.out.size)).trans (HZ.out x hx), HK3.out.trans k4⟩
  clear e4 h4 h4x k4 HN HZ HSHA
  go_wp2_with fail
  go_loopw [5] (fun i wr => ∃ k : Nat, k ≤ 16 ∧ i = .int .i64 k ∧ Ses w wr G g (pickN k awS awM).1 (pickN k awS awM).2) (fun i _ => 16 - (intOf i).toNat)
  case atStart => exact ⟨0, Nat.zero_le _, rfl, HI0.out⟩
  case round =>
    obtain ⟨k, hk, rfl, hses⟩ := hrel
    have HD := Lib.hid (Ses.done hses)
    have hkI : (k : Int) < 100 := by omega
    have hk0 : (0 : Int) ≤ (k : Int) := by omega
    by_cases hlt : k < 16
    · have hdn : doneM (pickN k awS awM).2 = false := by rw [aw_done k (by omega)]; exact decide_eq_false (by omega)
      rw [hdn] at HD
      have HP : Hid (∀ W, Ses w W G g (pickN k awS awM).1 (pickN k awS awM).2 → Calls Tryz.prog 11 #[.pointer (some ⟨g.M, 0, none⟩)] W fun e w' => (∃ v, e = .returned v) ∧ Ses w w' G g (pickN (k + 1) awS awM).1 (pickN (k + 1) awS awM).2) := fun W hW => by
        refine (hW.pick (HOK.out k hk) (by omega)).mono ?_
        rintro e w' ⟨rfl, h⟩
        exact ⟨⟨_, rfl⟩, h⟩
      clear hses hdn
      go_wp2_with fail
      refine HD.out.mono ?_
      rintro e w5 ⟨rfl, h5⟩
      have HP5 := Lib.hid (HP.out w5 h5)
      clear h5 HD HP
      go_wp2_with fail
      refine HP5.out.mono ?_
      rintro e w6 ⟨⟨v, rfl⟩, h6⟩
      have H6 := Lib.hid h6
      clear h6 HP5
      go_wp2_with fail
      go_roundw
      case rel => exact ⟨k + 1, by omega, by go_num, H6.out⟩
      case measure => simp [intOf] <;> omega
    · obtain rfl : k = 16 := by omega
      have hdn : doneM (pickN 16 awS awM).2 = true := by rw [aw_done 16 (by omega)]; rfl
      rw [hdn] at HD
      have HR : Hid (∀ W, Ses w W G g (pickN 16 awS awM).1 (pickN 16 awS awM).2 → Calls Tryz.prog 18 #[.pointer (some ⟨g.M, 0, none⟩)] W fun e w' => ∃ b off c, e = .returned (.slice (some ⟨b, off, none⟩) 2 c) ∧ w'.cell? ⟨b, off, none⟩ = some (.int .i64 0) ∧ w'.cell? ⟨b, off + 1, none⟩ = some (.int .i64 1) ∧ w'.cell? ⟨b, off + 2, none⟩ = some (.int .i64 0) ∧ w'.cell? ⟨b, off + 3, none⟩ = some (.int .i64 1) ∧ Keep none_ w w') := fun W hW => by
        refine (hW.results (by rw [aw_res]; decide)).mono ?_
        rintro e w' ⟨a, c, rfl, hr, h⟩
        rw [aw_res] at hr
        obtain ⟨b, off, rfl, hc⟩ := hr.at_ (by decide)
        refine ⟨b, off, c, by rw [aw_res]; rfl, ?_, ?_, ?_, ?_, h.keep⟩
        · exact hc 0 _ rfl 0 _ rfl
        · exact hc 0 _ rfl 1 _ rfl
        · exact hc 1 _ rfl 0 _ rfl
        · exact hc 1 _ rfl 1 _ rfl
      clear hses hdn
      go_wp2_with fail
      refine HD.out.mono ?_
      rintro e w5 ⟨rfl, h5⟩
      have HR5 := Lib.hid (HR.out w5 h5)
      clear h5 HD HR
      go_wp2_with fail
      refine HR5.out.mono ?_
      rintro e w6 ⟨b, off, c, rfl, y0, y1, y2, y3, hk6⟩
      have H6 := Lib.hid hk6
      clear hk6 HR5
      go_wp2_with fail
      go_ret
      exact ⟨rfl, H6.out⟩
end Go.Proofs.YtjdnkhljgnjkcaaGreatDoor

/- Right of the reference 02. -/
namespace Go.Proofs.YtjdnkhljgnjkcaaGreatDoor
open Go.RowKit

set_option maxRecDepth 4000 in
set_option maxHeartbeats 4000000 in
theorem rRight_any (c : Conf) (w : World) : Calls Tryz.prog 8 #[.agg c.cells.toArray] w fun e w' => e = .returned (.bool c.ok) ∧ Keep none_ w w' := by
  obtain ⟨b, ww, m, r, cc, l, s⟩ := c
  obtain ⟨b0, h0⟩ : ∃ x, x = decide (1 ≤ b ∧ b ≤ 4096) := ⟨_, rfl⟩
  obtain ⟨b1, h1⟩ : ∃ x, x = decide (16 ≤ ww ∧ ww ≤ 256) := ⟨_, rfl⟩
  obtain ⟨b2, h2⟩ : ∃ x, x = decide (1 ≤ m ∧ m ≤ 8) := ⟨_, rfl⟩
  obtain ⟨b3, h3⟩ : ∃ x, x = decide (1 ≤ r ∧ r ≤ 64) := ⟨_, rfl⟩
  obtain ⟨b4, h4⟩ : ∃ x, x = decide (0 ≤ cc ∧ cc ≤ 64) := ⟨_, rfl⟩
  obtain ⟨b5, h5⟩ : ∃ x, x = decide (1 ≤ l ∧ l ≤ 256) := ⟨_, rfl⟩
  obtain ⟨b6, h6⟩ : ∃ x, x = decide (1 ≤ s ∧ s ≤ 4096) := ⟨_, rfl⟩
  have e : Conf.ok ⟨b, ww, m, r, cc, l, s⟩ = (b0 && b1 && b2 && b3 && b4 && b5 && b6) := by rw [h0, h1, h2, h3, h4, h5, h6]; rfl
  have HW : Hid (∀ x lo hi y W, y = decide (lo ≤ x ∧ x ≤ hi) → Calls Tryz.prog 48 #[.int .i64 x, .int .i64 lo, .int .i64 hi] W fun e w' => e = .returned (.bool y) ∧ W = w') := fun x lo hi y W hy => by
    rw [hy, Bool.decide_and]; exact (within_is x lo hi W).mono (fun _ _ h => ⟨h.1, h.2.symm⟩)
  have H := Lib.hid (And.intro h0 (And.intro h1 (And.intro h2 (And.intro h3 (And.intro h4 (And.intro h5 h6))))))
  clear h0 h1 h2 h3 h4 h5 h6
  rw [e]
  clear e
  simp only [Conf.cells]
  obtain ⟨W0, hW0⟩ : ∃ W', W' = w.alloc (.cells #[.int .i64 b, .int .i64 ww, .int .i64 m, .int .i64 r, .int .i64 cc, .int .i64 l, .int .i64 s] 23) := ⟨_, rfl⟩
  have HK : Hid (Keep none_ w W0) := by rw [hW0]; exact (Keep.refl _ _).alloc _
  have HA : Hid (Blk W0 w.heap.size [.int .i64 b, .int .i64 ww, .int .i64 m, .int .i64 r, .int .i64 cc, .int .i64 l, .int .i64 s] 23) := by rw [hW0]; exact Blk.new w _ _
  have d0 := HA.out.cell 0 rfl; have d1 := HA.out.cell 1 rfl; have d2 := HA.out.cell 2 rfl; have d3 := HA.out.cell 3 rfl; have d4 := HA.out.cell 4 rfl; have d5 := HA.out.cell 5 rfl; have d6 := HA.out.cell 6 rfl
  have HC0 : Hid (Calls Tryz.prog 48 #[.int .i64 b, .int .i64 1, .int .i64 4096] W0 fun e w' => e = .returned (.bool b0) ∧ W0 = w') := HW.out _ _ _ _ _ H.out.1
  have HC1 : Hid (Calls Tryz.prog 48 #[.int .i64 ww, .int .i64 16, .int .i64 256] W0 fun e w' => e = .returned (.bool b1) ∧ W0 = w') := HW.out _ _ _ _ _ H.out.2.1
  have HC2 : Hid (Calls Tryz.prog 48 #[.int .i64 m, .int .i64 1, .int .i64 8] W0 fun e w' => e = .returned (.bool b2) ∧ W0 = w') := HW.out _ _ _ _ _ H.out.2.2.1
  have HC3 : Hid (Calls Tryz.prog 48 #[.int .i64 r, .int .i64 1, .int .i64 64] W0 fun e w' => e = .returned (.bool b3) ∧ W0 = w') := HW.out _ _ _ _ _ H.out.2.2.2.1
  have HC4 : Hid (Calls Tryz.prog 48 #[.int .i64 cc, .int .i64 0, .int .i64 64] W0 fun e w' => e = .returned (.bool b4) ∧ W0 = w') := HW.out _ _ _ _ _ H.out.2.2.2.2.1
  have HC5 : Hid (Calls Tryz.prog 48 #[.int .i64 l, .int .i64 1, .int .i64 256] W0 fun e w' => e = .returned (.bool b5) ∧ W0 = w') := HW.out _ _ _ _ _ H.out.2.2.2.2.2.1
  have HC6 : Hid (Calls Tryz.prog 48 #[.int .i64 s, .int .i64 1, .int .i64 4096] W0 fun e w' => e = .returned (.bool b6) ∧ W0 = w') := HW.out _ _ _ _ _ H.out.2.2.2.2.2.2
  clear HW H HA
  have HW0 := Lib.hid hW0
  clear hW0
  go_enter Tryz.func8, Tryz.ntmps8
  go_wp2_with fail
  rw [← HW0.out]
  refine HC0.out.mono ?_
  rintro e w1 ⟨rfl, rfl⟩
  cases b0 with
  | false =>
    go_wp2_with fail
    go_ret
    exact ⟨rfl, HK.out⟩
  | true =>
  go_wp2_with fail
  refine HC1.out.mono ?_
  rintro e w1 ⟨rfl, rfl⟩
  cases b1 with
  | false =>
    go_wp2_with fail
    go_ret
    exact ⟨rfl, HK.out⟩
  | true =>
  go_wp2_with fail
  refine HC2.out.mono ?_
  rintro e w1 ⟨rfl, rfl⟩
  cases b2 with
  | false =>
    go_wp2_with fail
    go_ret
    exact ⟨rfl, HK.out⟩
  | true =>
  go_wp2_with fail
  refine HC3.out.mono ?_
  rintro e w1 ⟨rfl, rfl⟩
  cases b3 with
  | false =>
    go_wp2_with fail
    go_ret
    exact ⟨rfl, HK.out⟩
  | true =>
  go_wp2_with fail
  refine HC4.out.mono ?_
  rintro e w1 ⟨rfl, rfl⟩
  cases b4 with
  | false =>
    go_wp2_with fail
    go_ret
    exact ⟨rfl, HK.out⟩
  | true =>
  go_wp2_with fail
  refine HC5.out.mono ?_
  rintro e w1 ⟨rfl, rfl⟩
  cases b5 with
  | false =>
    go_wp2_with fail
    go_ret
    exact ⟨rfl, HK.out⟩
  | true =>
  go_wp2_with fail
  refine HC6.out.mono ?_
  rintro e w1 ⟨rfl, rfl⟩
  go_wp2_with fail
  go_ret
  exact ⟨by simp, HK.out⟩
end Go.Proofs.YtjdnkhljgnjkcaaGreatDoor

/- A config's third number, as a value's field. -/
namespace Go.Proofs.YtjdnkhljgnjkcaaGreatDoor
open Go.RowKit
theorem field_muts (a0 a1 a2 a3 a4 a5 a6 : Int) (w : World) : (Instr.field 23 (.agg #[.int .i64 a0, .int .i64 a1, .int .i64 a2, .int .i64 a3, .int .i64 a4, .int .i64 a5, .int .i64 a6]) 2).run Tryz.prog w = .ok (.int .i64 a2) w := by
  have hf : (match Tryz.prog.underlying 23 with | some (.struct fs) => (fs[2]?).map (fun f => (f.type, f.offset)) | _ => none) = some (3, 2) := by kernel_rfl
  obtain ⟨fs, hfs⟩ : ∃ fs, Tryz.prog.underlying 23 = some (.struct fs) := by
    revert hf
    cases h : Tryz.prog.underlying 23 with
    | none => intro hf; cases hf
    | some d =>
      cases d with
      | struct fs => intro _; exact ⟨fs, rfl⟩
      | _ => intro hf; cases hf
  rw [hfs] at hf
  simp only at hf
  obtain ⟨f, hf1, hf2⟩ := Option.map_eq_some_iff.1 hf
  simp only [Prod.mk.injEq] at hf2
  have hi : (Tryz.prog.info? 3).map (·.size) = some 1 := by kernel_rfl
  obtain ⟨i, hi1, hi2⟩ := Option.map_eq_some_iff.1 hi
  simp [Instr.field, run_underlying hfs, hf1, hf2.1, hf2.2, part, asAgg, sizeOf, typeInfo, hi1, hi2, go_sem]
end Go.Proofs.YtjdnkhljgnjkcaaGreatDoor

/- The walk of MutatorNone. -/
namespace Go.Proofs.YtjdnkhljgnjkcaaGreatDoor
open Go.RowKit
attribute [local go_sem] Oper.semAt_some

theorem little_okM (c : Conf) : c.little.ok = true := by
  obtain ⟨b, w, m, r, cc, l, s⟩ := c
  have e : ∀ (p q : Prop) [Decidable p] [Decidable q], p → q → (decide p && decide q) = true := fun p q _ _ hp hq => by rw [decide_eq_true hp, decide_eq_true hq]; rfl
  have e2 : ∀ (x : Bool) (q : Prop) [Decidable q], x = true → q → (x && decide q) = true := fun x q _ hp hq => by rw [hp, decide_eq_true hq]; rfl
  unfold Conf.ok Conf.little
  simp only
  exact e2 _ _ (e2 _ _ (e2 _ _ (e2 _ _ (e2 _ _ (e _ _ (by omega) (by omega)) (by omega)) (by omega)) (by omega)) (by omega)) (by omega)
theorem tabsM_of {w : World} (h : laidMet Tryz.prog [("dustpan/config.limits", Rows.laid_dustpan_config_limits), ("dustpan/class.sizes", Rows.laid_dustpan_class_sizes), ("dustpan/op.kinds", Rows.laid_dustpan_op_kinds)] w) : TabsM w := by
  have hl := lim_of h
  have hs := sizes_of (laidMet.tail h)
  have hk := kind_of (laidMet.tail (laidMet.tail h))
  refine ⟨⟨hl, hk⟩, hs, ?_, ?_, ?_⟩
  · exact World.block_lt_of_cell? _ _ (hl 0 _ rfl)
  · exact World.block_lt_of_cell? _ _ (hk 0 _ rfl)
  · exact World.block_lt_of_cell? _ _ (hs 0 _ rfl)
theorem zero_ops (n : Nat) (w : World) (hn : n ≤ 2000) : (Instr.makeSlice 33 (.int .i64 (n : Int)) (.int .i64 (n : Int))).run Tryz.prog w = .ok (.slice (some ⟨w.heap.size, 0, none⟩) n n) (w.alloc (.cells (madeCells #[.int .i64 0, .int .i64 0, .int .i64 0, .int .i64 0] (n * 4)) 61)) ∧
    RecAt (w.alloc (.cells (madeCells #[.int .i64 0, .int .i64 0, .int .i64 0, .int .i64 0] (n * 4)) 61)) (some ⟨w.heap.size, 0, none⟩) n 4 (opCells (List.replicate n ⟨0, 0, 0, 0⟩)) := by
  obtain ⟨i0, hi1, hi2, hi3, hi4⟩ := info_parts Tryz.infoOpC
  constructor
  · have h := run_makeSlice (P := Tryz.prog) w 33 61 i0 (.agg #[.int .i64 0, .int .i64 0, .int .i64 0, .int .i64 0]) (by kernel_rfl) hi1 hi2 .i64 .i64 (n : Int) (n : Int) (by omega) (Int.le_refl _) (by rw [hi3]; omega) (by rw [hi4]; omega) (by omega)
    rw [hi3, Int.toNat_natCast] at h
    exact h
  · refine ⟨by simp [opCells], fun h0 => ⟨_, 0, rfl, fun i r hi j v hj => ?_⟩⟩
    have hin : i < n := by have := (List.getElem?_eq_some_iff.1 hi).1; simpa [opCells] using this
    have hr : r = [.int .i64 0, .int .i64 0, .int .i64 0, .int .i64 0] := by
      simp [opCells, List.getElem?_replicate, hin, OpR.cells] at hi; exact hi.symm
    subst hr
    have hj4 := (List.getElem?_eq_some_iff.1 hj).1
    simp at hj4
    have hv : v = .int .i64 0 := by
      rcases (by omega : j = 0 ∨ j = 1 ∨ j = 2 ∨ j = 3) with rfl | rfl | rfl | rfl <;> (simp at hj; exact hj.symm)
    subst hv
    have hz : ∀ q, q < 4 → (#[Value.int .i64 0, .int .i64 0, .int .i64 0, .int .i64 0] : Array Value)[q]! = .int .i64 0 := fun q hq => by
      rcases (by omega : q = 0 ∨ q = 1 ∨ q = 2 ∨ q = 3) with rfl | rfl | rfl | rfl <;> rfl
    have hb := Blk.new w (madeCells #[.int .i64 0, .int .i64 0, .int .i64 0, .int .i64 0] (n * 4)).toList 61
    have e : (madeCells #[Value.int .i64 0, .int .i64 0, .int .i64 0, .int .i64 0] (n * 4)).toList.toArray = madeCells #[.int .i64 0, .int .i64 0, .int .i64 0, .int .i64 0] (n * 4) := by simp
    rw [e] at hb
    refine hb.cell _ ?_
    have hlt : i * 4 + j < n * 4 := by omega
    rw [Nat.zero_add]
    simp only [madeCells]
    rw [Array.getElem?_toList, Array.getElem?_map, Array.getElem?_range, if_pos hlt]
    simp only [Option.map_some]
    exact congrArg some (hz _ (Nat.mod_lt _ (by decide)))
set_option maxRecDepth 100000 in
set_option maxHeartbeats 16000000 in
theorem mutatorNone_any (z0 : List Value) (id more : Int) (w : World) (h0 : FlatOk [.int .i64, .int .i64, .int .i64, .int .i64, .int .i64, .int .i64, .int .i64] z0) (_hid : (Lit.int .i64 id).wf = true) (hmo : (Lit.int .u8 more).wf = true) (hL : laidMetH Tryz.prog Rows.mutatorNoneRow.laid w) :
    Calls Tryz.prog 3 #[.agg z0.toArray, .int .i64 id, .int .u8 more] w fun e w' => e = .returned (.bool true) ∧ Keep none_ w w' := by
  have hL' : laidMetH Tryz.prog [("dustpan/config.limits", Rows.laid_dustpan_config_limits), ("dustpan/class.sizes", Rows.laid_dustpan_class_sizes), ("dustpan/op.kinds", Rows.laid_dustpan_op_kinds)] w := hL
  rw [MakeChecks.laidMetH_plain _ _ _ (by kernel_rfl)] at hL'
  have HT := Lib.hid (tabsM_of hL')
  clear hL hL'
  obtain ⟨c, rfl, -⟩ := conf_of h0
  have HRR := Lib.hid (fun W => rRight_any c W)
  have HLI := Lib.hid (fun W => little_any c W)
  obtain ⟨q, hq⟩ : ∃ q, q = c.little := ⟨_, rfl⟩
  rw [← hq] at HLI
  have hqok : q.ok = true := by rw [hq]; exact little_okM c
  have hqb := ok_bounds hqok
  obtain ⟨b, hb⟩ : ∃ b : Nat, q.b = b := ⟨q.b.toNat, by omega⟩
  obtain ⟨ww, hw⟩ : ∃ b : Nat, q.w = b := ⟨q.w.toNat, by omega⟩
  obtain ⟨nc, hc⟩ : ∃ b : Nat, q.c = b := ⟨q.c.toNat, by omega⟩
  obtain ⟨n, hn⟩ : ∃ b : Nat, q.m = b := ⟨q.m.toNat, by omega⟩
  have hn18 : 1 ≤ n ∧ n ≤ 8 := by omega
  have HSQ : Hid (∀ W, Keep none_ w W → Calls Tryz.prog 7 #[.agg q.cells.toArray] W fun e w' => ∃ G : Geo, e = .returned (.tuple #[.pointer (some ⟨G.S, 0, none⟩), .int .i64 0]) ∧ Hid (∃ o : Ow, ShAt o w' G (Sh.new q b ww nc n)) ∧ Hid (Keep none_ W w')) := fun W hW => by
    refine (share_ok q b ww nc n hqok hb hw hc hn W (HT.out.keep hW).t (HT.out.keep hW).s (HT.out.keep hW).g).mono ?_
    rintro e w' ⟨o, G, rfl, h1, _, _, h4⟩
    exact ⟨G, rfl, ⟨o, h1⟩, h4⟩
  have hbl : (Sh.new q b ww nc n).boxes.length = n := by simp [Sh.new]
  -- the mutator of any number
  obtain ⟨f1, hf1⟩ : ∃ f1 : Int, f1 = if 0 ≤ id ∧ id < (n : Int) then 0 else 1 := ⟨_, rfl⟩
  have HN1 : Hid (∀ W G, (∃ o : Ow, ShAt o W G (Sh.new q b ww nc n)) → Calls Tryz.prog 10 #[.pointer (some ⟨G.S, 0, none⟩), .int .i64 id, .slice none 0 0] W fun e w' => (∃ p, e = .returned (.tuple #[.pointer p, .int .i64 f1])) ∧ Hid (Keep none_ W w')) := fun W G ⟨o, hs⟩ => by
    by_cases hv : 0 ≤ id ∧ id < (n : Int)
    · obtain ⟨i, rfl⟩ : ∃ i : Nat, id = (i : Int) := ⟨id.toNat, by omega⟩
      rw [if_pos hv] at hf1
      refine (mutNew_ok hs (by rw [hbl]; omega) i (by rw [hbl]; omega) [] 0 rfl (by decide) none 0 (RecAt.nil _ _) (fun _ => rfl)).mono ?_
      rintro e w' ⟨o', g, rfl, _, _, _, k⟩
      exact ⟨⟨_, by rw [hf1]⟩, k⟩
    · rw [if_neg hv] at hf1
      refine (mutNew_bad hs id (by rw [hbl]; omega) _).mono ?_
      rintro e w' ⟨rfl, rfl⟩
      exact ⟨⟨_, by rw [hf1]⟩, Keep.refl _ _⟩
  -- the mutator of a long program
  obtain ⟨mo, hmo1, hmo2⟩ : ∃ mo : Nat, more = (mo : Int) ∧ mo ≤ 255 := by
    simp [Lit.wf] at hmo
    have h1 : IntKind.u8.min = 0 := by decide
    have h2 : IntKind.u8.max = 255 := by decide
    exact ⟨more.toNat, by omega, by omega⟩
  subst hmo1
  obtain ⟨r12, hr12⟩ : ∃ r12, r12 = mo % 12 := ⟨_, rfl⟩
  have hr11 : r12 < 12 := by omega
  have hrem : (mo : Int).tmod 12 = (r12 : Int) := by rw [hr12]; rfl
  have hrem2 : (mo : Int) % 12 = (r12 : Int) := by rw [hr12]; rfl
  obtain ⟨N, hN⟩ : ∃ N, N = 995 + r12 := ⟨_, rfl⟩
  have hNI : (995 : Int) + (r12 : Int) = (N : Int) := by omega
  have hN2 : N ≤ 1006 := by omega
  have hmk : ∀ w : World, (Instr.makeSlice 33 (.int .i64 (N : Int)) (.int .i64 (N : Int))).run Tryz.prog w = .ok (.slice (some ⟨w.heap.size, 0, none⟩) N N) (w.alloc (.cells (madeCells #[.int .i64 0, .int .i64 0, .int .i64 0, .int .i64 0] (N * 4)) 61)) := fun w => (zero_ops N w (by omega)).1
  obtain ⟨f3, hf3⟩ : ∃ f3 : Int, f3 = if 1000 < N then 3 else 0 := ⟨_, rfl⟩
  have HN3 : Hid (∀ W G, (∃ o : Ow, ShAt o W G (Sh.new q b ww nc n)) → Calls Tryz.prog 10 #[.pointer (some ⟨G.S, 0, none⟩), .int .i64 0, .slice (some ⟨W.heap.size, 0, none⟩) N N] (W.alloc (.cells (madeCells #[.int .i64 0, .int .i64 0, .int .i64 0, .int .i64 0] (N * 4)) 61)) fun e w' => (∃ p, e = .returned (.tuple #[.pointer p, .int .i64 f3])) ∧ Hid (Keep none_ W w')) := fun W G ⟨o, hs⟩ => by
    have ka : Keep none_ W (W.alloc (.cells (madeCells #[.int .i64 0, .int .i64 0, .int .i64 0, .int .i64 0] (N * 4)) 61)) := (Keep.refl _ _).alloc _
    have hs' := hs.still ka (by rw [hbl]; omega)
    by_cases hv : 1000 < N
    · rw [if_pos hv] at hf3
      refine (mutNew_long hs' 0 (by rw [hbl]; omega) _ N N hv).mono ?_
      rintro e w' ⟨rfl, rfl⟩
      exact ⟨⟨_, by rw [hf3]⟩, ka⟩
    · rw [if_neg hv] at hf3
      refine (mutNew_ok hs' (by rw [hbl]; omega) 0 (by rw [hbl]; omega) (List.replicate N ⟨0, 0, 0, 0⟩) N (by simp) (by omega) _ N (zero_ops N W (by omega)).2 (fun e => by cases e)).mono ?_
      rintro e w' ⟨o', g, rfl, _, _, _, k⟩
      exact ⟨⟨_, by rw [hf3]⟩, ka.trans k⟩
  have HST : Hid (∀ W W' G, (∃ o : Ow, ShAt o W G (Sh.new q b ww nc n)) → Keep none_ W W' → ∃ o : Ow, ShAt o W' G (Sh.new q b ww nc n)) := fun W W' G ⟨o, hs⟩ k => ⟨o, hs.still k (by rw [hbl]; omega)⟩
  have HAW : Hid (∀ W, Keep none_ w W → Calls Tryz.prog 21 #[] W fun e w' => e = .returned (.bool true) ∧ Hid (Keep none_ W w')) := fun W hW => (awake20_any W (HT.out.keep hW))
  obtain ⟨W0, hW0⟩ : ∃ W', W' = w.alloc (.cells c.cells.toArray 23) := ⟨_, rfl⟩
  have hk0 : Keep none_ w W0 := by rw [hW0]; exact (Keep.refl _ _).alloc _
  have hb0 : Blk W0 w.heap.size c.cells 23 := by rw [hW0]; exact Blk.new w _ _
  have HCB : Hid (∀ W, Keep none_ W0 W → Blk W w.heap.size c.cells 23) := fun W hW => hW.blk hb0 (fun f => f)
  have HK0 := Lib.hid hk0
  -- Share of the config as it came
  have HS1 : Hid (∀ W, Keep none_ w W → Calls Tryz.prog 7 #[.agg c.cells.toArray] W fun e w' => ((c.ok = false ∧ e = .returned (.tuple #[.pointer none, .int .i64 1])) ∨ (c.ok = true ∧ ∃ p, e = .returned (.tuple #[.pointer p, .int .i64 0]))) ∧ Hid (Keep none_ W w')) := fun W hW => by
    cases hok : c.ok with
    | false =>
      refine (share_no c hok W (HT.out.keep hW).t).mono ?_
      rintro e w' ⟨rfl, k⟩
      exact ⟨.inl ⟨rfl, rfl⟩, k⟩
    | true =>
      have hcb := ok_bounds hok
      refine (share_ok c c.b.toNat c.w.toNat c.c.toNat c.m.toNat hok (by omega) (by omega) (by omega) (by omega) W (HT.out.keep hW).t (HT.out.keep hW).s (HT.out.keep hW).g).mono ?_
      rintro e w' ⟨o, G, rfl, _, _, _, k⟩
      exact ⟨.inr ⟨rfl, _, rfl⟩, k⟩
  have hqm : q.cells.toArray = #[.int .i64 q.b, .int .i64 q.w, .int .i64 (n : Int), .int .i64 q.r, .int .i64 q.c, .int .i64 q.l, .int .i64 q.s] := by simp [Conf.cells, hn]
  rw [hqm] at HSQ HLI
  generalize q.cells = qq at *
  generalize q.b = q0 at *
  generalize q.w = q1 at *
  generalize q.r = q3 at *
  generalize q.c = q4 at *
  generalize q.l = q5 at *
  generalize q.s = q6 at *
  generalize Sh.new q b ww nc n = sh0 at *
  obtain ⟨c0, c1, c2, c3, c4, c5, c6⟩ := c
  simp only [Conf.cells] at HRR HLI HCB HS1 hW0 ⊢
  have HW0 := Lib.hid hW0
  have HF1 := Lib.hid hf1
  have HF3 := Lib.hid hf3
  have HNN := Lib.hid hN
  have HBLO := Lib.hid hbl
  clear h0 hq hqok hqb hb hw hc hn hn18 hbl hf1 hmo2 hr12 hN hf3 hW0 hk0 hb0 hqm
  have hfld := field_muts q0 q1 (n : Int) q3 q4 q5 q6
  go_enter Tryz.func3, Tryz.ntmps3
  go_wp2_with fail
  rw [← HW0.out]
  refine (HS1.out W0 HK0.out).mono ?_
  rintro e w1 ⟨hsh, hk1⟩
  have HCB1 : Hid (∀ W, Keep none_ w1 W → Blk W w.heap.size [.int .i64 c0, .int .i64 c1, .int .i64 c2, .int .i64 c3, .int .i64 c4, .int .i64 c5, .int .i64 c6] 23) := fun W hW => HCB.out W (hk1.out.trans hW)
  have HKF1 : Hid (Keep none_ w w1) := HK0.out.trans hk1.out
  have HRR1 := Lib.hid (HRR.out w1)
  rcases hsh with ⟨hok, rfl⟩ | ⟨hok, p1, rfl⟩
  all_goals
    rw [hok] at HRR1
    have hcb1 := HCB1.out w1 (Keep.refl _ _)
    have y0 := hcb1.cell 0 rfl; have y1 := hcb1.cell 1 rfl; have y2 := hcb1.cell 2 rfl; have y3 := hcb1.cell 3 rfl; have y4 := hcb1.cell 4 rfl; have y5 := hcb1.cell 5 rfl; have y6 := hcb1.cell 6 rfl
    clear hcb1 hok
    go_wp2_with fail
    refine HRR1.out.mono ?_
    rintro e w2 ⟨rfl, k2⟩
    have hcb2 := HCB1.out w2 k2
    clear y0 y1 y2 y3 y4 y5 y6
    have y0 := hcb2.cell 0 rfl; have y1 := hcb2.cell 1 rfl; have y2 := hcb2.cell 2 rfl; have y3 := hcb2.cell 3 rfl; have y4 := hcb2.cell 4 rfl; have y5 := hcb2.cell 5 rfl; have y6 := hcb2.cell 6 rfl
    have HK2 := Lib.hid k2
    clear hcb2 k2
    go_wp2_with fail
    refine (HLI.out w2).mono ?_
    rintro e w3 ⟨rfl, k3⟩
    have HK3 := Lib.hid (HK2.out.trans k3)
    clear k3 y0 y1 y2 y3 y4 y5 y6
    go_wp2_with fail
    refine (HSQ.out w3 (HKF1.out.trans HK3.out)).mono ?_
    rintro e w4 ⟨G, rfl, hS, k4⟩
    have HK4 := Lib.hid (HK3.out.trans k4.out)
    have hcb4 := HCB1.out w4 HK4.out
    have y0 := hcb4.cell 0 rfl; have y1 := hcb4.cell 1 rfl; have y2 := hcb4.cell 2 rfl; have y3 := hcb4.cell 3 rfl; have y4 := hcb4.cell 4 rfl; have y5 := hcb4.cell 5 rfl; have y6 := hcb4.cell 6 rfl
    clear hcb4 k4
    go_wp2_with fail
    refine (HLI.out w4).mono ?_
    rintro e w5 ⟨rfl, k5⟩
    have HK5 := Lib.hid (HK4.out.trans k5)
    have hS5 := Lib.hid (HST.out w4 w5 G hS.out k5)
    clear k5 hS y0 y1 y2 y3 y4 y5 y6
    go_wp2_with fail
    refine (HN1.out w5 G hS5.out).mono ?_
    rintro e w6 ⟨⟨p6, rfl⟩, k6⟩
    have HK6 := Lib.hid (HKF1.out.trans (HK5.out.trans k6.out))
    have hS6 := Lib.hid (HST.out w5 w6 G hS5.out k6.out)
    clear k6 hS5
    have HFIN : Hid (∀ W, Keep none_ w6 W → Keep none_ w W) := fun W hW => HK6.out.trans hW
    have hw1 : IntKind.i64.wrap ((r12 : Int)) = (r12 : Int) := IntWalk.i64_in _ (by omega)
    have hw2 : IntKind.i64.wrap ((995 : Int) + (r12 : Int)) = (N : Int) := by rw [hNI]; exact IntWalk.i64_in _ (by omega)
    have hw3 : IntKind.u8.wrap ((r12 : Int)) = (r12 : Int) := by
      have : IntKind.u8.wrap (r12 : Int) = (r12 : Int) := by
        rcases (by omega : r12 = 0 ∨ r12 = 1 ∨ r12 = 2 ∨ r12 = 3 ∨ r12 = 4 ∨ r12 = 5 ∨ r12 = 6 ∨ r12 = 7 ∨ r12 = 8 ∨ r12 = 9 ∨ r12 = 10 ∨ r12 = 11) with rfl | rfl | rfl | rfl | rfl | rfl | rfl | rfl | rfl | rfl | rfl | rfl <;> decide
      exact this
    have hsp : (f1 = 0 ∧ decide (0 ≤ id) = true ∧ decide (id < (n : Int)) = true) ∨ (f1 = 1 ∧ decide (0 ≤ id) = false) ∨ (f1 = 1 ∧ decide (0 ≤ id) = true ∧ decide (id < (n : Int)) = false) := by
      rw [HF1.out]
      by_cases h0 : 0 ≤ id
      · by_cases h1 : id < (n : Int)
        · rw [if_pos ⟨h0, h1⟩]; exact .inl ⟨rfl, decide_eq_true h0, decide_eq_true h1⟩
        · rw [if_neg (fun h => h1 h.2)]; exact .inr (.inr ⟨rfl, decide_eq_true h0, decide_eq_false h1⟩)
      · rw [if_neg (fun h => h0 h.1)]; exact .inr (.inl ⟨rfl, decide_eq_false h0⟩)
    rcases hsp with ⟨rfl, hd0, hd1⟩ | ⟨rfl, hd0⟩ | ⟨rfl, hd0, hd1⟩
    all_goals
      go_wp2_with fail
      refine (mutNew_nil 0 _ _).mono ?_
      rintro e w7 ⟨rfl, rfl⟩
      go_wp2_with fail
      refine (HN3.out w6 G hS6.out).mono ?_
      rintro e w7 ⟨⟨p7, rfl⟩, k7⟩
      have hkF : Keep none_ w w7 := HFIN.out w7 k7.out
      have hsp3 : (f3 = 3 ∧ (1000 : Int) < (N : Int) ∧ decide ((1000 : Int) < (N : Int)) = true ∧ decide ((N : Int) ≤ 1000) = false) ∨ (f3 = 0 ∧ ¬ (1000 : Int) < (N : Int) ∧ decide ((1000 : Int) < (N : Int)) = false ∧ decide ((N : Int) ≤ 1000) = true) := by
        rw [HF3.out]
        by_cases h : 1000 < N
        · rw [if_pos h]; exact .inl ⟨rfl, by omega, decide_eq_true (by omega), decide_eq_false (by omega)⟩
        · rw [if_neg h]; exact .inr ⟨rfl, by omega, decide_eq_false (by omega), decide_eq_true (by omega)⟩
      clear k7 hd0
      rcases hsp3 with ⟨rfl, hn0, hn1, hn2⟩ | ⟨rfl, hn0, hn1, hn2⟩
      all_goals
        go_wp2_with fail
        refine (mPick_nil _).mono ?_
        rintro e w8 ⟨rfl, k8⟩
        have hkF := hkF.trans k8
        clear k8
        go_wp2_with (first
          | (go_at_call 12; refine (mMost_nil _).mono ?_; rintro e w9 ⟨rfl, rfl⟩; have hkF := hkF.alloc (.cells zero6 35))
          | (go_at_call 13; refine (mRegs_nil _).mono ?_; rintro e w9 ⟨rfl, rfl⟩)
          | (go_at_call 14; refine (mHeld_nil _).mono ?_; rintro e w9 ⟨rfl, rfl⟩)
          | (go_at_call 15; refine (mMode_nil _).mono ?_; rintro e w9 ⟨rfl, rfl⟩)
          | (go_at_call 16; refine (mColor_nil _).mono ?_; rintro e w9 ⟨rfl, rfl⟩)
          | (go_at_call 17; refine (mLogged_nil _).mono ?_; rintro e w9 ⟨rfl, rfl⟩)
          | (go_at_call 18; refine (mResults_nil _).mono ?_; rintro e w9 ⟨rfl, rfl⟩)
          | (go_at_call 19; refine (mBusy_nil _).mono ?_; rintro e w9 ⟨rfl, rfl⟩)
          | (go_at_call 20; refine (mDone_nil _).mono ?_; rintro e w9 ⟨rfl, k9⟩; have hkF := hkF.trans k9; clear k9)
          | (go_at_call 21; refine (HAW.out _ hkF).mono ?_; rintro e w9 ⟨rfl, k9⟩; have hkF := hkF.trans k9.out; clear k9))
        go_ret
        exact ⟨rfl, hkF⟩
end Go.Proofs.YtjdnkhljgnjkcaaGreatDoor
