/- Parts of a walk, put together by a small program of mine from texts of their own: MutQ4 LawMAwake LogsPlain BackS2 HeapMk. -/
import Derived.Test.YtjdnkhljgnjkcaaGreatDoorZzaa
import Derived.Test.YtjdnkhljgnjkcaaGreatDoorZzz
import Derived.Test.YtjdnkhljgnjkcaaGreatDoorZzn
import Derived.Test.YtjdnkhljgnjkcaaGreatDoorZzx
import Derived.Test.YtjdnkhljgnjkcaaGreatDoorZzo
import Derived.Test.YtjdnkhljgnjkcaaGreatDoorZzs
import Derived.Test.YtjdnkhljgnjkcaaGreatDoorZzu
/- A mutator's results; what it logged. -/
namespace Go.Proofs.YtjdnkhljgnjkcaaGreatDoor
open Go.RowKit
attribute [local go_sem] Oper.semAt_some

set_option maxRecDepth 10000 in
set_option maxHeartbeats 400000 in
theorem cloneRes_any (a : Option Addr) (n c : Nat) (rs : List (List Value)) (w : World) (h : RecAt w a n 2 rs) (hr : ∀ r ∈ rs, r.length = 2) (hnil : a = none → c = 0) (hm : n ≤ 100000000) (h1 : ∀ r ∈ rs, ∀ u ∈ r, u.oneCell' = true) :
    Calls Tryz.prog 57 #[.slice a n c] w fun e w' => ∃ v', e = .returned v' ∧ w'.ownsRow w.heap.size 110 2 v' n rs.flatten ∧ Keep none_ w w' := by
  have hlen := flat_len rs hr
  have hnl := h.len
  cases a with
  | none =>
    have h0 : n = 0 := by
      rcases Nat.eq_zero_or_pos n with h0 | h0
      · exact h0
      · obtain ⟨b, off, e, _⟩ := h.at_ h0; cases e
    subst h0
    have : rs = [] := List.eq_nil_of_length_eq_zero hnl
    subst this
    obtain rfl := hnil rfl
    clear h hr hnil hm h1 hlen hnl
    have hn := fun w => Lib.run_eql_slice_nil (P := Tryz.prog) w 43 110 none 0 0 0 0 (by kernel_rfl)
    go_enter Tryz.func57, Tryz.ntmps57
    go_wp2
    go_ret
    exact ⟨_, rfl, World.ownsRow_nil _ _ _ _, Keep.refl _ _⟩
  | some ad =>
    have hn := fun w => Lib.run_eql_slice_nil (P := Tryz.prog) w 43 110 (some ad) n c 0 0 (by kernel_rfl)
    obtain ⟨i0, hi1, hi2, hi3, hi4⟩ := info_parts Tryz.infoResC
    have hw0 : ∀ w : World, (w.alloc (.cells #[] 110)).ownsRow w.heap.size 110 2 (.slice (some ⟨w.heap.size, 0, none⟩) 0 0) 0 [] := fun w => World.ownsRow_made w #[] 0 (Nat.le_refl _) (by decide) rfl
    have HC := Lib.hid (fun j u hj => (h.below ((Keep.refl none_ w).alloc (.cells #[] 110))).flatCells (by decide) hr rfl j u hj)
    have HU : Hid (∀ u ∈ rs.flatten, u.oneCell' = true) := fun u hu => by
      obtain ⟨r, hr1, hr2⟩ := List.mem_flatten.1 hu
      exact h1 r hr1 u hr2
    rw [hnl] at hlen
    generalize rs.flatten = xs at *
    clear h hr hnil h1 hnl
    go_enter Tryz.func57, Tryz.ntmps57
    go_wp2_with (at_builtin; refine wpList_append_own _ rfl _ _ 43 rfl w.heap.size 110 i0 (.agg #[.int .i64 0, .int .i64 0]) 2 16 (by kernel_rfl) hi1 hi2 hi3 hi4 rfl (by decide) _ _ _ rfl (hw0 w) ad n c xs rfl hlen HC.out HU.out (by unfold maxLen; omega) (by omega) (by simp) ?_; intro v' w1 hown hgr _)
    have hown' : w1.ownsRow w.heap.size 110 2 v' n xs := by simpa using hown
    have hkeep : Keep none_ w w1 := ((Keep.refl none_ w).alloc _).grown hgr (fun k e hk => absurd hk (by have e' : w.heap.size = k := Option.some.inj e; omega))
    clear hown hgr
    go_wp2
    go_ret
    exact ⟨_, rfl, hown', hkeep⟩
def resRows (res : List (Int × Nat)) : List (List Value) := res.map fun r => [Value.int .i64 r.1, Value.int .i64 (r.2 : Int)]
theorem resRows_len {res : List (Int × Nat)} : ∀ r ∈ resRows res, r.length = 2 := fun r hr => by
  obtain ⟨x, _, rfl⟩ := List.mem_map.1 hr; rfl
theorem resRows_one {res : List (Int × Nat)} : ∀ r ∈ resRows res, ∀ u ∈ r, u.oneCell' = true := fun r hr u hu => by
  obtain ⟨x, _, rfl⟩ := List.mem_map.1 hr
  simp at hu
  rcases hu with rfl | rfl <;> rfl
section
variable {o : Ow} {w w' : World} {G : Geo} {g : MG} {s : Sh} {m : MS} {nv : Value} {ev : Option Ev}
set_option maxRecDepth 4000 in
theorem mResults_any (h : MAt o w G g s m ev nv) (hl : m.res.length ≤ 1000000) : Calls Tryz.prog 18 #[.pointer (some ⟨g.M, 0, none⟩)] w fun e w' => ∃ a c, e = .returned (.slice a m.res.length c) ∧ RecAt w' a m.res.length 2 (resRows m.res) ∧ (∀ x, a = some x → w.heap.size ≤ x.block) ∧ Keep none_ w w' := by
  obtain ⟨rv, er, hr, ra, rc, hrv⟩ := h.resC
  have hl2 : (resRows m.res).length = m.res.length := by simp [resRows]
  obtain ⟨a, c, e1, hrec, hnc⟩ := RecAt.ofOwn (rs := resRows m.res) hr.1 resRows_len hl2
  have hnil : a = none → c = 0 := fun e => by
    rcases hr.1.2 with ⟨e2, _⟩ | ⟨q, cap, cur, e2, _⟩
    · rw [e2] at e1; simp only [Value.slice.injEq] at e1; exact e1.2.2.symm
    · rw [e2] at e1; rw [e] at e1; cases e1
  rw [e1] at er
  have HC := Lib.hid (cloneRes_any a m.res.length c (resRows m.res) w hrec resRows_len hnil (by omega) resRows_one)
  have HEND : Hid (∀ v' W', W'.ownsRow w.heap.size 110 2 v' m.res.length (resRows m.res).flatten → ∃ a c, v' = .slice a m.res.length c ∧ RecAt W' a m.res.length 2 (resRows m.res) ∧ ∀ x, a = some x → w.heap.size ≤ x.block) := fun v' W' hv => by
    obtain ⟨a, c, e1, hrec, hnc⟩ := RecAt.ofOwn (rs := resRows m.res) hv resRows_len hl2
    refine ⟨a, c, e1, hrec, fun x hx => ?_⟩
    rcases hv.2 with ⟨e2, _⟩ | ⟨q, cap, cur, e2, hq, _⟩
    · rw [e2] at e1; simp only [Value.slice.injEq] at e1; rw [← e1.1] at hx; cases hx
    · rw [e2] at e1; simp only [Value.slice.injEq] at e1; rw [← e1.1] at hx; cases hx; exact hq
  generalize m.res.length = n at *
  generalize resRows m.res = rs at *
  clear h hr hrec hnc hnil hl hl2 hrv e1
  go_enter Tryz.func18, Tryz.ntmps18
  go_wp2_with fail
  refine HC.out.mono ?_
  rintro e w1 ⟨v', rfl, ho, hk⟩
  obtain ⟨a', c', rfl, h1, h2⟩ := HEND.out v' w1 ho
  have HR := Lib.hid (And.intro h1 (And.intro h2 hk))
  clear ho hk h1 h2
  go_wp2_with fail
  go_ret
  exact ⟨a', c', rfl, HR.out.1, HR.out.2.1, HR.out.2.2⟩
set_option maxRecDepth 4000 in
theorem mLogged_any (h : MAt o w G g s m ev nv) : Calls Tryz.prog 17 #[.pointer (some ⟨g.M, 0, none⟩)] w fun e w' => ∃ v, e = .returned v ∧ w'.ownsRow w.heap.size 3 1 v m.buf.length (tabV m.buf) ∧ Keep none_ w w' := by
  have c10 : w.cell? ⟨g.M, 10, none⟩ = some (.pointer (some ⟨g.Bf, 0, none⟩)) := h.cell 10 _ (fun _ _ => rfl)
  have HB : Hid (Calls Tryz.prog 56 #[.pointer (some ⟨g.Bf, 0, none⟩)] w fun e w' => ∃ v, e = .returned v ∧ w'.ownsRow w.heap.size 3 1 v m.buf.length (tabV m.buf) ∧ Keep none_ w w') := by
    have HA := Lib.hid (rwAll_any h.buf)
    clear h c10
    go_enter Tryz.func56, Tryz.ntmps56
    go_wp2_with fail
    refine HA.out.mono ?_
    rintro e w1 ⟨v', rfl, ho, hk⟩
    have HR := Lib.hid (And.intro ho hk)
    clear ho hk
    go_wp2_with fail
    go_ret
    exact ⟨v', rfl, HR.out.1, HR.out.2⟩
  clear h
  go_enter Tryz.func17, Tryz.ntmps17
  go_wp2_with fail
  refine HB.out.mono ?_
  rintro e w1 ⟨v', rfl, ho, hk⟩
  have HR := Lib.hid (And.intro ho hk)
  clear ho hk
  go_wp2_with fail
  go_ret
  exact ⟨v', rfl, HR.out.1, HR.out.2⟩
end
end Go.Proofs.YtjdnkhljgnjkcaaGreatDoor

/- The document's example of a mutator. -/
namespace Go.Proofs.YtjdnkhljgnjkcaaGreatDoor
open Go.RowKit
attribute [local go_sem] Oper.semAt_some

/-- The package's tables lie there. -/
structure TabsM (w : World) : Prop where
  t : Tabs w
  s : Sizes w
  g : 2 < w.heap.size ∧ 3 < w.heap.size ∧ 1 < w.heap.size
theorem TabsM.keep {w w' : World} (h : TabsM w) (k : Keep none_ w w') : TabsM w' := ⟨h.t.keep k, h.s.keep k, by have := k.size; have := h.g; omega⟩
/-- A mutator alone, in a call that began in w. -/
def Ses (w W : World) (G : Geo) (g : MG) (s : Sh) (m : MS) : Prop := ∃ o : Ow, MutAt o W G g s m ∧ (∀ x, x < w.heap.size → o x = 0) ∧ Keep none_ w W
section
variable {w W W' : World} {G : Geo} {g : MG} {s : Sh} {m : MS}
theorem Keep.zeroO {o : Ow} {I : List Nat} (k0 : Keep none_ w W) (k : Keep (In o I) W W') (h0 : I.contains 0 = false) (hz : ∀ x, x < w.heap.size → o x = 0) : Keep none_ w W' :=
  k0.trans' k (fun i hi hin => absurd hin (not_in' (hz i hi) h0))
theorem Ses.still (h : Ses w W G g s m) (k : Keep none_ W W') : Ses w W' G g s m := by
  obtain ⟨o, h1, h2, h3⟩ := h
  exact ⟨o, h1.still k, h2, h3.trans k⟩
theorem Ses.pick {N : Nat} (h : Ses w W G g s m) (ok : Pok N s m) (hN : N ≤ 1000000) : Calls Tryz.prog 11 #[.pointer (some ⟨g.M, 0, none⟩)] W fun e w' => e = .returned (.tuple #[evAgg (pickM s m).2.2, evTold (pickM s m).2.2]) ∧ Ses w w' G g (pickM s m).1 (pickM s m).2.1 := by
  obtain ⟨o, h1, h2, h3⟩ := h
  refine (mPick_any h1 ok hN).mono ?_
  rintro e w' ⟨o', rfl, e1, h4, k4⟩
  exact ⟨rfl, o', h4, fun x hx => (e1 x (Nat.lt_of_lt_of_le hx h3.size)).trans (h2 x hx), h3.zeroO k4 (stepI_0 _) h2⟩
theorem Ses.done (h : Ses w W G g s m) : Calls Tryz.prog 20 #[.pointer (some ⟨g.M, 0, none⟩)] W fun e w' => e = .returned (.bool (doneM m)) ∧ Ses w w' G g s m := by
  obtain ⟨o, h1, h2, h3⟩ := h
  refine (mDone_any h1).mono ?_
  rintro e w' ⟨rfl, k⟩
  exact ⟨rfl, o, h1.still k, h2, h3.trans k⟩
theorem Ses.results (h : Ses w W G g s m) (hl : m.res.length ≤ 1000000) : Calls Tryz.prog 18 #[.pointer (some ⟨g.M, 0, none⟩)] W fun e w' => ∃ a c, e = .returned (.slice a m.res.length c) ∧ RecAt w' a m.res.length 2 (resRows m.res) ∧ Ses w w' G g s m := by
  obtain ⟨o, h1, h2, h3⟩ := h
  obtain ⟨ev, nv, h4, h5⟩ := id h1
  refine (mResults_any h4 hl).mono ?_
  rintro e w' ⟨a, c, rfl, hr, _, k⟩
  exact ⟨a, c, rfl, hr, o, h1.still k, h2, h3.trans k⟩
theorem Ses.keep (h : Ses w W G g s m) : Keep none_ w W := by obtain ⟨o, h1, h2, h3⟩ := h; exact h3
end
theorem Bd.new_pend (n : Nat) (i : Nat) : (Bd.new (n : Int)).pend (i : Int) = false := by
  have h : (Bd.new (n : Int)).isOpen (i : Int) = false := by
    unfold Bd.isOpen Bd.new
    simp only [Int.toNat_natCast]
    rw [List.getD_eq_getElem?_getD, List.getElem?_replicate]
    split <;> rfl
  unfold Bd.pend
  rw [h, Bool.and_false]
set_option maxRecDepth 8000 in
set_option maxHeartbeats 4000000 in
theorem awake20_any (w : World) (hT : TabsM w) : Calls Tryz.prog 21 #[] w fun e w' => e = .returned (.bool true) ∧ Keep none_ w w' := by
  have HLT := Lib.hid (little_any ⟨0, 0, 0, 1, 0, 0, 0⟩ w)
  have hlt : (⟨0, 0, 0, 1, 0, 0, 0⟩ : Conf).little = awC := by decide
  rw [hlt] at HLT
  have HSH : Hid (∀ W, Keep none_ w W → Calls Tryz.prog 7 #[.agg awC.cells.toArray] W fun e w' => ∃ (o : Ow) (G : Geo), e = .returned (.tuple #[.pointer (some ⟨G.S, 0, none⟩), .int .i64 0]) ∧ ShAt o w' G awS ∧ (∀ x, x < W.heap.size → o x = 0) ∧ (∀ x, o x < 20) ∧ Keep none_ W w') := fun W hW =>
    share_ok awC 1 16 0 1 (by decide) rfl rfl rfl rfl W (hT.keep hW).t (hT.keep hW).s (hT.keep hW).g
  have hok0 : Pok 0 awS awM := Pok.first 0 _ (QOk.new _ _ _ _ _) rfl (by decide)
  have HOK : Hid (∀ k, k ≤ 16 → Pok k (pickN k awS awM).1 (pickN k awS awM).2) := fun k _ => by have h := (pickN_ok hok0 k).1; rwa [Nat.zero_add] at h
  simp only [Conf.cells] at HLT HSH
  clear hT hlt hok0
  go_enter Tryz.func21, Tryz.ntmps21
  go_wp2_with fail
  refine HLT.out.mono ?_
  rintro e w1 ⟨rfl, k1⟩
  have HS1 := Lib.hid (HSH.out w1 k1)
  have HK1 := Lib.hid k1
  clear k1 HLT HSH
  go_wp2_with fail
  refine HS1.out.mono ?_
  rintro e w2 ⟨o, G, rfl, hsh, hz, hz20, k2⟩
  have HK2 := Lib.hid (HK1.out.trans k2)
  have HZ : Hid (∀ x, x < w.heap.size → o x = 0) := fun x hx => hz x (Nat.lt_of_lt_of_le hx HK1.out.size)
  have HSHA := Lib.hid hsh
  obtain ⟨W3, hW3⟩ : ∃ W3, W3 = w2.alloc (.cells #[.int .i64 1, .int .i64 0, .int .i64 1, .int .i64 0, .int .i64 7, .int .i64 1, .int .i64 0, .int .i64 0] 61) := ⟨_, rfl⟩
  have k3 : Keep none_ w2 W3 := by rw [hW3]; exact (Keep.refl _ _).alloc _
  have hb3 : Blk W3 w2.heap.size [.int .i64 1, .int .i64 0, .int .i64 1, .int .i64 0, .int .i64 7, .int .i64 1, .int .i64 0, .int .i64 0] 61 := by rw [hW3]; exact Blk.new w2 _ _
  have hrec : RecAt W3 (some ⟨w2.heap.size, 0, none⟩) 2 4 (opCells [⟨1, 0, 1, 0⟩, ⟨7, 1, 0, 0⟩]) := by
    refine ⟨rfl, fun _ => ⟨_, 0, rfl, fun i r hi j v hj => ?_⟩⟩
    refine hb3.cell _ ?_
    have hi2 := (List.getElem?_eq_some_iff.1 hi).1
    simp [opCells] at hi2
    rcases (by omega : i = 0 ∨ i = 1) with rfl | rfl
    · simp [opCells, OpR.cells] at hi; subst hi
      have hj2 := (List.getElem?_eq_some_iff.1 hj).1
      simp at hj2
      rcases (by omega : j = 0 ∨ j = 1 ∨ j = 2 ∨ j = 3) with rfl | rfl | rfl | rfl <;> simpa using hj
    · simp [opCells, OpR.cells] at hi; subst hi
      have hj2 := (List.getElem?_eq_some_iff.1 hj).1
      simp at hj2
      rcases (by omega : j = 0 ∨ j = 1 ∨ j = 2 ∨ j = 3) with rfl | rfl | rfl | rfl <;> simpa using hj
  have HN := Lib.hid (mutNew_ok (hsh.still k3 (by decide)) (by decide) 0 (by decide) [⟨1, 0, 1, 0⟩, ⟨7, 1, 0, 0⟩] 2 rfl (by decide) (some ⟨w2.heap.size, 0, none⟩) 2 hrec (fun e => by cases e))
  have HK3 := Lib.hid (HK2.out.trans k3)
  have HW3 := Lib.hid hW3
  clear hsh hz hz20 k2 hW3 k3 hb3 hrec HS1
  go_wp2_with fail
  rw [← HW3.out]
  refine HN.out.mono ?_
  rintro e w4 ⟨o', g, rfl, e4, h4, h4x, k4⟩
  have HI0 : Hid (Ses w w4 G g (pickN 0 awS awM).1 (pickN 0 awS awM).2) := ⟨o', h4, fun x hx => (e4 x (Nat.lt_of_lt_of_le hx HK3.out.size)).trans (HZ.out x hx), HK3.out.trans k4⟩
  clear e4 h4 h4x k4 HN HZ HSHA
  go_wp2_with fail
  go_loopw [5] (fun i wr => ∃ k : Nat, k ≤ 16 ∧ i = .int .i64 k ∧ Ses w wr G g (pickN k awS awM).1 (pickN k awS awM).2) (fun i _ => 16 - (intOf i).toNat)
  case atStart => exact ⟨0, Nat.zero_le _, rfl, HI0.out⟩
  case round =>
    obtain ⟨k, hk, rfl, hses⟩ := hrel
    have HD := Lib.hid (Ses.done hses)
    have hkI : (k : Int) < 100 := by omega
    have hk0 : (0 : Int) ≤ (k : Int) := by omega
    by_cases hlt : k < 16
    · have hdn : doneM (pickN k awS awM).2 = false := by rw [aw_done k (by omega)]; exact decide_eq_false (by omega)
      rw [hdn] at HD
      have HP : Hid (∀ W, Ses w W G g (pickN k awS awM).1 (pickN k awS awM).2 → Calls Tryz.prog 11 #[.pointer (some ⟨g.M, 0, none⟩)] W fun e w' => (∃ v, e = .returned v) ∧ Ses w w' G g (pickN (k + 1) awS awM).1 (pickN (k + 1) awS awM).2) := fun W hW => by
        refine (hW.pick (HOK.out k hk) (by omega)).mono ?_
        rintro e w' ⟨rfl, h⟩
        exact ⟨⟨_, rfl⟩, h⟩
      clear hses hdn
      go_wp2_with fail
      refine HD.out.mono ?_
      rintro e w5 ⟨rfl, h5⟩
      have HP5 := Lib.hid (HP.out w5 h5)
      clear h5 HD HP
      go_wp2_with fail
      refine HP5.out.mono ?_
      rintro e w6 ⟨⟨v, rfl⟩, h6⟩
      have H6 := Lib.hid h6
      clear h6 HP5
      go_wp2_with fail
      go_roundw
      case rel => exact ⟨k + 1, by omega, by go_num, H6.out⟩
      case measure => simp [intOf] <;> omega
    · obtain rfl : k = 16 := by omega
      have hdn : doneM (pickN 16 awS awM).2 = true := by rw [aw_done 16 (by omega)]; rfl
      rw [hdn] at HD
      have HR : Hid (∀ W, Ses w W G g (pickN 16 awS awM).1 (pickN 16 awS awM).2 → Calls Tryz.prog 18 #[.pointer (some ⟨g.M, 0, none⟩)] W fun e w' => ∃ b off c, e = .returned (.slice (some ⟨b, off, none⟩) 2 c) ∧ w'.cell? ⟨b, off, none⟩ = some (.int .i64 0) ∧ w'.cell? ⟨b, off + 1, none⟩ = some (.int .i64 1) ∧ w'.cell? ⟨b, off + 2, none⟩ = some (.int .i64 0) ∧ w'.cell? ⟨b, off + 3, none⟩ = some (.int .i64 1) ∧ Keep none_ w w') := fun W hW => by
        refine (hW.results (by rw [aw_res]; decide)).mono ?_
        rintro e w' ⟨a, c, rfl, hr, h⟩
        rw [aw_res] at hr
        obtain ⟨b, off, rfl, hc⟩ := hr.at_ (by decide)
        refine ⟨b, off, c, by rw [aw_res]; rfl, ?_, ?_, ?_, ?_, h.keep⟩
        · exact hc 0 _ rfl 0 _ rfl
        · exact hc 0 _ rfl 1 _ rfl
        · exact hc 1 _ rfl 0 _ rfl
        · exact hc 1 _ rfl 1 _ rfl
      clear hses hdn
      go_wp2_with fail
      refine HD.out.mono ?_
      rintro e w5 ⟨rfl, h5⟩
      have HR5 := Lib.hid (HR.out w5 h5)
      clear h5 HD HR
      go_wp2_with fail
      refine HR5.out.mono ?_
      rintro e w6 ⟨b, off, c, rfl, y0, y1, y2, y3, hk6⟩
      have H6 := Lib.hid hk6
      clear hk6 HR5
      go_wp2_with fail
      go_ret
      exact ⟨rfl, H6.out⟩
end Go.Proofs.YtjdnkhljgnjkcaaGreatDoor

/- A mutator picked till something holds; a heap's slots and objects made; MutatorLogs, plainly. -/
namespace Go.Proofs.YtjdnkhljgnjkcaaGreatDoor

/-- Picked till something holds, so many times at most. -/
def pickTill (stop : Sh → MS → Bool) : Nat → Sh → MS → Sh × MS
  | 0, s, m => (s, m)
  | f + 1, s, m => if stop s m then (s, m) else pickTill stop f (pickM s m).1 (pickM s m).2.1
theorem pickTill_ok {stop : Sh → MS → Bool} : ∀ (f N : Nat) (s : Sh) (m : MS), Pok N s m → Pok (N + f) (pickTill stop f s m).1 (pickTill stop f s m).2
  | 0, _, _, _, h => h
  | f + 1, N, s, m, h => by
    unfold pickTill
    split
    · exact ⟨h.color, h.want, Nat.le_trans h.opn (by omega), Nat.le_trans h.res (by omega), h.q, Nat.le_trans h.sp (by omega), h.rl, h.nx⟩
    · have := pickTill_ok (stop := stop) f (N + 1) _ _ (pick_ok h).1
      rwa [show N + 1 + f = N + (f + 1) by omega] at this
def HS.putL : HS → List Nat → HS
  | H, [] => H
  | H, a :: l => (H.putP a).putL l
def HS.slotP (H : HS) (k : Nat) : Nat × Nat × HS :=
  if (H.takeP k).2.1 = 0 then ((H.takeP k).1, 0, (H.takeP k).2.2)
  else if (H.assignP k).2.1 = 0 then ((H.assignP k).1.headD 0, 0, ((H.assignP k).2.2).putL (H.assignP k).1.tail.reverse)
  else (0, 10, H)
def HS.storeL (H : HS) (a : Nat) : Nat → HS
  | 0 => H
  | i + 1 => (H.storeL a i).storeP a (i : Int) 0
/-- An object made: its address, and the heap. -/
def HS.makeP (H : HS) (f c : Nat) : Nat × HS :=
  if (H.slotP (ofK f)).2.1 = 0 then ((H.slotP (ofK f)).1, (((H.slotP (ofK f)).2.2.beginP (H.slotP (ofK f)).1 f).storeL (H.slotP (ofK f)).1 f).bearP (H.slotP (ofK f)).1 c)
  else (0, (H.slotP (ofK f)).2.2)
/-! ### The law -/
def lgC (ww st : Nat) : Conf := ⟨1, ww, 1, 2, 1, 4, st⟩
def lgH0 (ww st : Nat) : HS := ((HS.new (lgC ww st) 1 ww 1).makeP 1 0).2
def lgH1 (ww st : Nat) : HS := ((lgH0 ww st).makeP 1 0).2
def lgS (ww st : Nat) : Sh := { Sh.new (lgC ww st) 1 ww 1 1 with H := (lgH1 ww st).setP 0 1 }
def lgM (ww st : Nat) : MS := MS.new (lgS ww st).H.c 0 [⟨4, 1, 0, 0⟩, ⟨4, 0, 0, 0⟩, ⟨5, 0, 1, 0⟩]
def lgA (ww st : Nat) : Sh × MS := pickTill (fun _ m => decide (1 ≤ m.res.length)) 19 (lgS ww st) (lgM ww st)
def lgB (ww st : Nat) : Sh × MS := ({ (lgA ww st).1 with H := (lgA ww st).1.H.setP 0 3 }, (lgA ww st).2)
def lgK (i : Nat) : Nat := if i = 0 then 1 else if i = 1 then 5 else 7
/-- Behind so many requests. -/
def lgQ (ww st : Nat) : Nat → Sh × MS
  | 0 => lgB ww st
  | i + 1 => pickTill (fun s _ => s.B.all) 199 { (lgQ ww st i).1 with B := (lgQ ww st i).1.B.askB (lgK i : Int) } (lgQ ww st i).2
def lgE (ww st i : Nat) : Sh × MS := pickTill (fun _ m => doneM m) 199 (lgQ ww st i).1 (lgQ ww st i).2
def lgOk (ww st i : Nat) : Bool :=
  let e := lgE ww st i
  let l := e.2.buf ++ e.1.box 0
  if i = 1 then l.contains 1 && l.contains 3 else if i = 2 then l.contains 3 else e.2.buf.isEmpty && doneM e.2
theorem till_next {stop : Sh → MS → Bool} {f : Nat} {s : Sh} {m : MS} {E : Sh × MS} (h : pickTill stop f s m = E) (hE : stop E.1 E.2 = true) : (stop s m = true ∧ E = (s, m)) ∨ (stop s m = false ∧ ∃ f', f = f' + 1 ∧ pickTill stop f' (pickM s m).1 (pickM s m).2.1 = E) := by
  cases f with
  | zero =>
    have e : E = (s, m) := h.symm
    rw [e] at hE
    exact .inl ⟨hE, e⟩
  | succ f =>
    unfold pickTill at h
    cases hs : stop s m with
    | true => rw [hs, if_pos rfl] at h; exact .inl ⟨rfl, h.symm⟩
    | false => rw [hs, if_neg (by decide)] at h; exact .inr ⟨rfl, f, rfl, h⟩
def lgFacts (ww st : Nat) : Bool :=
  decide (1 ≤ (lgA ww st).2.res.length) && ((List.range 3).all fun i => (lgQ ww st (i + 1)).1.B.all) && ((List.range 4).all fun i => doneM (lgE ww st i).2) && ((List.range 4).all fun i => decide ((lgQ ww st i).1.B.count = i)) &&
    ((List.range 4).all fun i => decide ((lgE ww st i).1.boxes.length = 1)) && ((List.range 4).all fun i => decide (((lgE ww st i).1.box 0).length ≤ 10) && decide ((lgE ww st i).2.buf.length ≤ 10))
theorem lg_facts : ∀ ww, ww < 20 → ∀ st, st < 4 → lgFacts (16 + ww) (1 + st) = true := by decide +kernel
theorem lg_stop {ww st : Nat} (h1 : ww < 20) (h2 : st < 4) : 1 ≤ (lgA (16 + ww) (1 + st)).2.res.length ∧ (∀ i, i < 3 → (lgQ (16 + ww) (1 + st) (i + 1)).1.B.all = true) ∧ (∀ i, i < 4 → doneM (lgE (16 + ww) (1 + st) i).2 = true) ∧ (∀ i, i < 4 → (lgQ (16 + ww) (1 + st) i).1.B.count = i) ∧ (∀ i, i < 4 → (lgE (16 + ww) (1 + st) i).1.boxes.length = 1) ∧ (∀ i, i < 4 → ((lgE (16 + ww) (1 + st) i).1.box 0).length ≤ 10 ∧ (lgE (16 + ww) (1 + st) i).2.buf.length ≤ 10) := by
  have h := lg_facts ww h1 st h2
  unfold lgFacts at h
  simp only [Bool.and_eq_true, List.all_eq_true, List.mem_range, decide_eq_true_eq] at h
  obtain ⟨⟨⟨⟨⟨g1, g2⟩, g3⟩, g4⟩, g5⟩, g6⟩ := h
  exact ⟨g1, g2, g3, g4, g5, g6⟩
theorem lg_make : ∀ ww, ww < 20 → ∀ st, st < 4 → ((HS.new (lgC (16 + ww) (1 + st)) 1 (16 + ww) 1).makeP 1 0).1 = 1 ∧ ((lgH0 (16 + ww) (1 + st)).makeP 1 0).1 = 3 := by decide +kernel
theorem lg_ok : ∀ ww, ww < 20 → ∀ st, st < 4 → ∀ i, i < 4 → lgOk (16 + ww) (1 + st) i = true := by decide +kernel
end Go.Proofs.YtjdnkhljgnjkcaaGreatDoor

/- slices.Backward of a part of a slice of numbers. -/
namespace Go.Proofs.YtjdnkhljgnjkcaaGreatDoor
open Go.RowKit
attribute [local go_sem] Oper.semAt_some

set_option maxRecDepth 100000 in
set_option maxHeartbeats 1000000 in
theorem back_seq2 (xs : List Nat) (pB X off cap : Nat) (hn : xs.length ≤ 4096) (m : Nat) (w : World) (cs : List Value) (hbp : Blk w pB [.slice (some ⟨X, off, none⟩) xs.length cap] 40) (hbx : Blk w X cs 3) (hcs : ∀ q, q < xs.length → cs[off + q]? = some (.int .i64 ((xs.getD q 0 : Nat) : Int))) :
    SeqL Fence.wide m Tryz.prog 148 #[.pointer (some ⟨pB, 0, none⟩)] (backL xs) EncS (backG pB X) w := by
  intro l J Jx W hW hJ hJx hY h0
  have hbp1 := hW.blk hbp (fun f => f)
  have hbx1 := hW.blk hbx (fun f => f)
  have hc0 := hbp1.cell 0 (v := .slice (some ⟨X, off, none⟩) xs.length cap) rfl
  have HLEN := Lib.hid (backL_len xs)
  have HAT : Hid (∀ j q, j + q + 1 = xs.length → (backL xs)[j]? = some (q, xs.getD q 0)) := fun j q e => by
    rw [backL_at (by omega), show xs.length - 1 - j = q by omega]
  have HV : Hid (∀ q wr, q < xs.length → Blk wr X cs 3 → wr.cell? ⟨X, off + q, none⟩ = some (.int .i64 ((xs.getD q 0 : Nat) : Int))) := fun q wr hq hb => hb.cell (off + q) (hcs q hq)
  have hnI : (xs.length : Int) ≤ 4096 := by omega
  have hw0 : IntKind.i64.wrap ((xs.length : Int) - 1) = (xs.length : Int) - 1 := IntWalk.i64_in _ (by omega)
  generalize backL xs = L at *
  obtain ⟨at_, hat⟩ : ∃ f : Nat → Nat, f = fun q => xs.getD q 0 := ⟨_, rfl⟩
  have HAT2 : Hid (∀ j q, j + q + 1 = xs.length → L[j]? = some (q, at_ q)) := fun j q e => by rw [hat]; exact HAT.out j q e
  have HV2 : Hid (∀ q wr, q < xs.length → Blk wr X cs 3 → wr.cell? ⟨X, off + q, none⟩ = some (.int .i64 ((at_ q : Nat) : Int))) := fun q wr h1 h2 => by rw [hat]; exact HV.out q wr h1 h2
  clear HAT HV hat hbx hbp hcs
  generalize xs.length = n at *
  refine callsIn_of_wp Tryz.func148 rfl trivial ?_ rfl
  simp only [Tryz.ntmps148, List.size_toArray, List.length_cons, List.length_nil, Nat.reduceAdd, Nat.reduceSub, Array.replicate_succ, Array.replicate_zero, List.push_toArray, List.append_toArray, List.nil_append, List.cons_append]
  gi_wp2_with fail
  gi_loopw [3] (fun v wr => ∃ (j : Nat) (i : Int), j ≤ n ∧ i = (n : Int) - 1 - j ∧ v = .int .i64 i ∧ J j wr ∧ Holds (backG pB X) W wr) (fun v _ => (intOf v + 1).toNat)
  case atStart => exact ⟨0, _, by omega, by omega, rfl, h0, Holds.refl _ _⟩
  case round =>
    obtain ⟨j, i, hj, hi, rfl, hJj, hH⟩ := hrel
    have b1 := hH.blk (.inl rfl) hbp1
    have b2 := hH.blk (.inr rfl) hbx1
    have c1 := b1.cell 0 (v := .slice (some ⟨X, off, none⟩) n cap) rfl
    by_cases hlt : j < n
    · obtain ⟨q, rfl⟩ : ∃ q : Nat, i = (q : Int) := ⟨i.toNat, by omega⟩
      have hq : j + q + 1 = n := by omega
      have hqn : q < n := by omega
      have hq0 : (0 : Int) ≤ (q : Int) := by omega
      have hqI : (q : Int) < (n : Int) := by omega
      have c2 := HV2.out q wr hqn b2
      have hL := HAT2.out j q hq
      have hwq : IntKind.i64.wrap ((q : Int) - 1) = (q : Int) - 1 := IntWalk.i64_in _ (by omega)
      generalize at_ q = x at *
      have HY := Lib.hid hY
      have HJ := Lib.hid hJj
      have HQ := Lib.hid hq
      clear hY hJj hi hq
      obtain ⟨fn, tmps, assign, body, hy, hR⟩ := HY.out j (q, x) #[.int .i64 (q : Int), .int .i64 (x : Int)] wr hL HJ.out rfl
      gi_wp2_with fail
      refine ⟨fun h => (by cases h), hR.mono ?_⟩
      rintro e W' (⟨rfl, hJ', hk⟩ | ⟨rfl, hJx'⟩)
      · gi_wp2_with fail
        go_roundw
        case rel => exact ⟨j + 1, (q : Int) - 1, by omega, by have := HQ.out; omega, by go_num, hJ', hH.trans hk⟩
        case measure => simp [intOf] <;> omega
      · gi_wp2_with fail
        refine bodyPost_ret (results_none rfl _ _ _) rfl ?_
        exact ⟨⟨_, rfl⟩, .inr ⟨j + 1, by rw [HLEN.out]; omega, hJx'⟩⟩
    · clear hY
      obtain rfl : i = -1 := by omega
      have HJE : Hid (j = n) := by unfold Hid; omega
      clear hi
      gi_wp2_with fail
      go_end0
      exact ⟨⟨_, rfl⟩, .inl (by rw [HLEN.out, ← HJE.out]; exact hJj)⟩
end Go.Proofs.YtjdnkhljgnjkcaaGreatDoor

/- A heap makes an object: slot, Make. -/
namespace Go.Proofs.YtjdnkhljgnjkcaaGreatDoor
open Go.RowKit
attribute [local go_sem] Oper.semAt_some

section
variable {w w' : World} {D : Nat → Nat} {H : HS}
theorem putL_snoc : ∀ (l : List Nat) (H : HS) (a : Nat), H.putL (l ++ [a]) = (H.putL l).putP a
  | [], _, _ => rfl
  | b :: l, H, a => putL_snoc l (H.putP b) a
/-- What a round of slot's loop finds. -/
structure SkI (w : World) (D : Nat → Nat) (N b g : Nat) (cs : List Value) (H : HS) (xs : List Nat) (j : Nat) (W : World) : Prop where
  keep : Keep (HF D) w W
  heap : HeapAt W D (H.putL ((xs.reverse).take j))
  hb : Blk W b [.pointer (some ⟨D 0, 0, none⟩)] 48
  hg : Blk W g cs 3
  big : N ≤ W.heap.size
theorem SkI.own {N b g : Nat} {cs : List Value} {xs : List Nat} {B : Nat} (hB : w.heap.size ≤ B) (hD : ∀ i, i < 13 → D i < B) (hg : 2 < B ∧ 3 < B ∧ 1 < B) : OwnFrom B (SkI w D N b g cs H xs) := by
  rintro j W W' row ⟨h1, h2, h3, h4, hN⟩ hgr hr
  have k : Keep (fun i => row = some i) W W' := ⟨hgr.os, hgr.tape, hgr.output, hgr.size, fun x hx n => hgr.block x hx (fun e => n e.symm)⟩
  have hne : ∀ i, i < B → ¬ row = some i := fun i hi e => by have := (hr i e).1; omega
  exact ⟨ownFrom_keep (β := Nat) hB j W W' row h1 hgr hr, h2.keep k (fun i hi => hne _ (hD i hi)) (hne _ hg.1) (hne _ hg.2.1) (hne _ hg.2.2), ownFrom_blk (β := Nat) (cs := fun _ => _) j W W' row h3 hgr hr, ownFrom_blk (β := Nat) (cs := fun _ => _) j W W' row h4 hgr hr, Nat.le_trans hN hgr.size⟩
set_option maxRecDepth 4000 in
set_option maxHeartbeats 1000000 in
theorem hSlot_take (h : HeapAt w D H) (k : Nat) (hk : k < 4) (ht : (H.takeP k).2.1 = 0) : Calls Tryz.prog 62 #[.pointer (some ⟨D 0, 0, none⟩), .int .i64 (k : Int)] w fun e w' => e = .returned (.tuple #[.int .i64 ((H.slotP k).1 : Int), .int .i64 ((H.slotP k).2.1 : Int)]) ∧ HeapAt w' D (H.slotP k).2.2 ∧ Keep (HF D) w w' := by
  have e : H.slotP k = ((H.takeP k).1, 0, (H.takeP k).2.2) := by unfold HS.slotP; rw [if_pos ht]
  rw [e]
  have HT : Hid (∀ x, Calls Tryz.prog 102 #[.pointer (some ⟨D 0, 0, none⟩), .int .i64 (k : Int)] (w.alloc x) fun e w' => e = .returned (.tuple #[.int .i64 ((H.takeP k).1 : Int), .int .i64 0]) ∧ HeapAt w' D (H.takeP k).2.2 ∧ Keep (HF D) w w') := fun x => by
    have k1 : Keep none_ w (w.alloc x) := (Keep.refl _ _).alloc x
    refine (hTake_any (h.still k1) k hk).mono ?_
    rintro e w' ⟨rfl, h1, k2⟩
    rw [ht]
    exact ⟨rfl, h1, (k1.mono (fun _ _ f => f.elim)).trans k2⟩
  generalize (H.takeP k).1 = a at *
  generalize (H.takeP k).2.2 = H2 at *
  clear h ht e
  go_enter Tryz.func62, Tryz.ntmps62
  go_wp2_with fail
  refine (HT.out _).mono ?_
  rintro e w1 ⟨rfl, h1, k1⟩
  have HE := Lib.hid (And.intro h1 k1)
  clear h1 k1 HT
  go_wp2_with fail
  go_ret2
  exact ⟨rfl, HE.out.1, HE.out.2⟩
set_option maxRecDepth 100000 in
set_option maxHeartbeats 4000000 in
theorem hSlot_assign (h : HeapAt w D H) (k : Nat) (hk : k < 4) (ht : (H.takeP k).2.1 ≠ 0) (ha : (H.assignP k).2.1 = 0) (h2 : 2 ≤ (H.assignP k).1.length) (h4 : (H.assignP k).1.length ≤ 256) : Calls Tryz.prog 62 #[.pointer (some ⟨D 0, 0, none⟩), .int .i64 (k : Int)] w fun e w' => e = .returned (.tuple #[.int .i64 ((H.slotP k).1 : Int), .int .i64 ((H.slotP k).2.1 : Int)]) ∧ HeapAt w' D (H.slotP k).2.2 ∧ Keep (HF D) w w' := by
  have e : H.slotP k = ((H.assignP k).1.headD 0, 0, ((H.assignP k).2.2).putL (H.assignP k).1.tail.reverse) := by unfold HS.slotP; rw [if_neg ht, if_pos ha]
  rw [e]
  have ht12 : (H.takeP k).2.1 = 12 ∧ (H.takeP k).2.2 = H := by
    unfold HS.takeP at ht ⊢
    split
    · exact ⟨rfl, rfl⟩
    · rename_i e; rw [e] at ht; exact absurd rfl ht
  obtain ⟨W0, hW0⟩ : ∃ W0, W0 = w.alloc (.cells #[.pointer (some ⟨D 0, 0, none⟩)] 48) := ⟨_, rfl⟩
  have k0 : Keep none_ w W0 := by rw [hW0]; exact (Keep.refl _ _).alloc _
  have hb0 : Blk W0 w.heap.size [.pointer (some ⟨D 0, 0, none⟩)] 48 := by rw [hW0]; exact Blk.new w _ _
  have hDw : ∀ i, i < 13 → D i < w.heap.size := h.ltD
  have HGL0 := h.gloLt
  have HT := Lib.hid (hTake_any (h.still k0) k hk)
  rw [ht12.1, ht12.2] at HT
  have HA : Hid (∀ W, HeapAt W D H → Calls Tryz.prog 103 #[.pointer (some ⟨D 0, 0, none⟩), .int .i64 (k : Int)] W fun e w' => ∃ v, e = .returned (.tuple #[v, .int .i64 0]) ∧ w'.ownsRow W.heap.size 3 1 v (H.assignP k).1.length (tabV (H.assignP k).1) ∧ HeapAt w' D (H.assignP k).2.2 ∧ Keep (HF D) W w') := fun W hW => by
    have h9 := hAssign_any hW k hk
    rw [ha] at h9
    exact h9
  generalize (H.assignP k).2.2 = H2 at *
  obtain ⟨x0, xs, hall⟩ : ∃ x0 xs, (H.assignP k).1 = x0 :: xs := by
    cases hh : (H.assignP k).1 with
    | nil => rw [hh] at h2; simp at h2
    | cons x l => exact ⟨x, l, rfl⟩
  rw [hall] at HA h2 h4 ⊢
  simp only [List.length_cons, List.headD_cons, List.tail_cons] at HA h2 h4 ⊢
  have hx1 : 1 ≤ xs.length ∧ xs.length ≤ 255 := by omega
  have HXL := Lib.hid hx1
  have HW0 := Lib.hid hW0
  have HK0 := Lib.hid k0
  have HB0 := Lib.hid hb0
  have HDW := Lib.hid hDw
  have HGL := Lib.hid HGL0
  clear h ht ha e ht12 hall h2 h4 hW0 k0 hb0 hDw HGL0 hx1
  refine (callsIn_wide (n := 9)).1 ?_
  refine callsIn_of_wp_marks Tryz.func62 rfl trivial ?_ rfl
  refine wpIn_wide.2 ?_
  simp only [Tryz.ntmps62, List.size_toArray, List.length_cons, List.length_nil, Nat.reduceAdd, Nat.reduceSub, Array.replicate_succ, Array.replicate_zero, List.push_toArray, List.append_toArray, List.nil_append, List.cons_append]
  go_wp2_with fail
  rw [← HW0.out]
  refine HT.out.mono ?_
  rintro e w1 ⟨rfl, h1, k1⟩
  have kb : ∀ i, i < 13 → w.heap.size ≠ D i := fun i hi => by have := HDW.out i hi; omega
  have hb1 : Blk w1 w.heap.size [.pointer (some ⟨D 0, 0, none⟩)] 48 := k1.blk HB0.out (fun ⟨i, hi, e⟩ => kb i hi e)
  have c1 : w1.cell? ⟨w.heap.size, 0, none⟩ = some (.pointer (some ⟨D 0, 0, none⟩)) := hb1.cell 0 rfl
  have HA1 := Lib.hid (HA.out w1 h1)
  have HK1 : Hid (Keep (HF D) w w1) := (HK0.out.mono (fun _ _ f => f.elim)).trans k1
  have HB1 := Lib.hid hb1
  have HS1 : Hid (w.heap.size < w1.heap.size) := hb1.lt
  clear h1 k1 hb1 HT HA HB0 kb
  go_wp2_with fail
  refine HA1.out.mono ?_
  rintro e w2 ⟨v, rfl, hown, h2, k2⟩
  obtain ⟨g, cap, cur, rfl, hg0, hg, hnc, hcc⟩ : ∃ g cap cur, v = .slice (some ⟨g, 0, none⟩) (xs.length + 1) cap ∧ w1.heap.size ≤ g ∧ Blk w2 g cur 3 ∧ xs.length + 1 ≤ cap ∧ ∀ j u, (tabV (x0 :: xs))[j]? = some u → cur[j]? = some u := by
    rcases hown.2 with ⟨_, h0⟩ | ⟨g, cap, cur, e1, hg0, hg, hn, _, hs, hc⟩
    · omega
    · refine ⟨g, cap, cur.toList, e1, hg0, by unfold Blk; simpa using hg, hn, fun j u hj => ?_⟩
      have h9 := hj
      rw [← hc] at h9
      have hlt := (List.getElem?_eq_some_iff.1 h9).1
      rw [List.getElem?_take_of_lt (by simp at hlt; omega)] at h9
      exact h9
  have hcut : ∀ w, (Instr.slice 40 (.slice (some ⟨g, 0, none⟩) (xs.length + 1) cap) (some (.int .i64 1)) none none).run Tryz.prog w = .ok (.slice (some ⟨g, 1, none⟩) xs.length (cap - 1)) w := fun w => by
    have h9 := run_cut (P := Tryz.prog) (T := 40) (e := 3) (by kernel_rfl) (by kernel_rfl) (some ⟨g, 0, none⟩) (xs.length + 1) cap 1 (by omega) w
    have e1 : cutA (some ⟨g, 0, none⟩) cap 1 = some ⟨g, 1, none⟩ := by
      unfold cutA
      rw [if_neg (by have := HXL.out; omega)]
      simp [Addr.add]
    rw [e1, Nat.add_sub_cancel] at h9
    exact h9
  have hb2 : Blk w2 w.heap.size [.pointer (some ⟨D 0, 0, none⟩)] 48 := k2.blk HB1.out (fun ⟨i, hi, e⟩ => by have := HDW.out i hi; omega)
  have hs2 := k2.size
  have hs1 := HS1.out
  obtain ⟨W3, hW3⟩ : ∃ W3, W3 = w2.alloc (.cells #[.slice (some ⟨g, 1, none⟩) xs.length (cap - 1)] 40) := ⟨_, rfl⟩
  have k3 : Keep none_ w2 W3 := by rw [hW3]; exact (Keep.refl _ _).alloc _
  have hb3 : Blk W3 w2.heap.size [.slice (some ⟨g, 1, none⟩) xs.length (cap - 1)] 40 := by rw [hW3]; exact Blk.new w2 _ _
  have e3 : W3.heap.size = w2.heap.size + 1 := by rw [hW3]; simp
  have hglt := hg.lt
  have HSEQ : Hid (SeqL Fence.wide 8 Tryz.prog 148 #[.pointer (some ⟨w2.heap.size, 0, none⟩)] (backL xs) EncS (backG w2.heap.size g) W3) := back_seq2 xs w2.heap.size g 1 (cap - 1) (by have := HXL.out; omega) 8 W3 cur hb3 (k3.blk hg (fun f => f)) (fun q hq => by
    refine hcc (1 + q) _ ?_
    rw [Nat.add_comm]
    unfold tabV
    rw [List.map_cons, List.getElem?_cons_succ, List.getElem?_map, List.getElem?_eq_getElem hq, List.getD_eq_getElem?_getD, List.getElem?_eq_getElem hq]; rfl)
  have HI0 : Hid (SkI w D W3.heap.size w.heap.size g cur H2 xs 0 W3) := ⟨(HK1.out.trans k2).trans (k3.mono (fun _ _ f => f.elim)), by rw [List.take_zero]; exact h2.still k3, k3.blk hb2 (fun f => f), k3.blk hg (fun f => f), Nat.le_refl _⟩
  have HGX : Hid (∀ i, backG w2.heap.size g i → i < W3.heap.size ∧ ∀ j, j < 13 → i ≠ D j) := by
    rintro i (rfl | rfl)
    · exact ⟨by omega, fun j hj e => by have := HDW.out j hj; omega⟩
    · exact ⟨by omega, fun j hj e => by have := HDW.out j hj; omega⟩
  have HOWN : Hid (OwnFrom W3.heap.size (SkI w D W3.heap.size w.heap.size g cur H2 xs)) := SkI.own (by omega) (fun i hi => by have := HDW.out i hi; omega) (by have := HGL.out; omega)
  have HC0 : Hid (cur[0]? = some (.int .i64 (x0 : Int))) := hcc 0 _ rfl
  have HGD : Hid (w.heap.size < g ∧ w.heap.size < W3.heap.size) := ⟨by omega, by omega⟩
  have HW3 := Lib.hid hW3
  have c2 : w2.cell? ⟨w.heap.size, 0, none⟩ = some (.pointer (some ⟨D 0, 0, none⟩)) := hb2.cell 0 rfl
  clear hown h2 k2 hg0 hg hcc hb2 hs2 hs1 k3 hb3 e3 hglt hW3 HA1 HK1 HB1 HS1 c1
  go_wp2_with fail
  refine (bwNew_any _ _ _ _).mono ?_
  rintro e w4 ⟨rfl, hw4⟩
  rw [← HW3.out] at hw4
  subst hw4
  clear c2 hcut
  go_wp2_with fail
  refine wpIn_wide (n := 9) |>.1 ?_
  refine rangeFn rfl (by decide) (gf := 148) (lb := #[.pointer (some ⟨w2.heap.size, 0, none⟩)]) rfl trivial (fun args w => by simp [callFunc, Tryz.func148, go_sem]; rfl) (all := backL xs) (Enc := EncS) (G := backG w2.heap.size g)
    HSEQ.out ?hG ?hps (fun j W => SkI w D w4.heap.size w.heap.size g cur H2 xs j W) (fun _ _ _ => False) ?hI ?hIx ?h0 ?round ?done ?stop
  case hI => exact HOWN.out
  case hIx => exact fun c s W W' row h hg hr => h
  case h0 => exact HI0.out
  case hG => exact fun i hi => (HGX.out i hi).1
  case hps =>
    rintro W x args h
    rw [h]; rfl
  case stop => exact fun D c k W hD hk h => h.elim
  case round =>
    rintro l j x args W hx henc hI
    have hj : j < xs.length := by
      have h := (List.getElem?_eq_some_iff.1 hx).1
      rwa [backL_len] at h
    rw [backL_at hj] at hx
    injection hx with hx
    subst hx
    obtain ⟨x, hx⟩ : ∃ x, x = xs.getD (xs.length - 1 - j) 0 := ⟨_, rfl⟩
    obtain ⟨y, hy⟩ : ∃ y : Nat, y = xs.length - 1 - j := ⟨_, rfl⟩
    obtain rfl : args = #[.int .i64 (y : Int), .int .i64 (x : Int)] := by rw [hx, hy]; exact henc
    have hsn : (xs.reverse).take (j + 1) = (xs.reverse).take j ++ [x] := by
      rw [List.take_add_one, List.getElem?_reverse hj, hx, List.getD_eq_getElem?_getD]
      rw [List.getElem?_eq_getElem (by omega)]; rfl
    have HSN := Lib.hid hsn
    clear hx hy henc hsn
    have HI := Lib.hid hI
    clear hI
    gi_wp2_with fail
    refine ⟨fun W => SkI w D w4.heap.size w.heap.size g cur H2 xs j W, KeepsFrom.refl _ _, Holds.refl _ _, HI.out, (fun _ W' W'' row h hg hr => HOWN.out j W' W'' row h hg hr), ?_⟩
    clear HI
    rintro W2 hI
    have c2 : W2.cell? ⟨w.heap.size, 0, none⟩ = some (.pointer (some ⟨D 0, 0, none⟩)) := hI.hb.cell 0 rfl
    have HP := Lib.hid (hPut_any hI.heap x)
    have HI := Lib.hid hI
    clear hI
    gi_wp2_with fail
    refine ⟨trivial, CallsIn.mono (CallsIn.inRound l (callsIn_wide.2 HP.out)) ?_⟩
    rintro e w5 ⟨⟨er, rfl⟩, h5, k5⟩
    have HEND : Hid (KeepsFrom w4.heap.size W2 w5 ∧ Holds (backG w2.heap.size g) W2 w5 ∧ SkI w D w4.heap.size w.heap.size g cur H2 xs (j + 1) w5) := by
      have hbig := HI.out.big
      refine ⟨⟨k5.size, fun i oo hB hq ho => (k5.block i (Array.getElem?_eq_some_iff.1 hq).1 (fun ⟨q, hq2, e⟩ => by have := HDW.out q hq2; have := HGD.out; omega)).trans hq⟩, ?_, HI.out.keep.trans k5, ?_, k5.blk HI.out.hb (fun ⟨i, hi, e⟩ => by have := HDW.out i hi; omega), k5.blk HI.out.hg (fun ⟨i, hi, e⟩ => by have := HDW.out i hi; have := HGD.out; omega), Nat.le_trans hbig k5.size⟩
      · exact Holds.ofKeep k5 (fun i hi => ⟨Nat.lt_of_lt_of_le (HGX.out i hi).1 hbig, fun ⟨q, hq, e⟩ => (HGX.out i hi).2 q hq e⟩)
      · rw [HSN.out, putL_snoc]; exact h5
    clear h5 k5 HP c2
    gi_wp2_with fail
    exact ⟨HEND.out.1, HEND.out.2.1, HEND.out.2.2⟩
  case done =>
    rintro D5 W hD hI hKd
    rw [backL_len] at hI
    have c0 : W.cell? ⟨g, 0, none⟩ = some (.int .i64 (x0 : Int)) := hI.hg.cell 0 HC0.out
    have HEND : Hid (HeapAt (W.putObj D5 (.deferred none)) D (H2.putL xs.reverse) ∧ Keep (HF D) w (W.putObj D5 (.deferred none))) := by
      have hk9 : Keep (fun i => i = D5) W (W.putObj D5 (.deferred none)) := ⟨rfl, rfl, rfl, by simp, fun q _ n => World.putObj_heap_other n⟩
      have h9 := hI.heap
      rw [List.take_of_length_le (by simp)] at h9
      refine ⟨h9.keep hk9 (fun i hi e => by have := HDW.out i hi; have := HGD.out; omega) (fun e => by have := HGL.out; have := HGD.out; omega) (fun e => by have := HGL.out; have := HGD.out; omega) (fun e => by have := HGL.out; have := HGD.out; omega), hI.keep.takeDeferred (D := D5) (by have := HGD.out; omega) (.deferred none)⟩
    clear hI
    go_wp2_with fail
    refine ⟨by simp, .inl ⟨_, _, rfl, run_takeDeferred hKd, ?_⟩⟩
    exact ⟨.tuple #[.int .i64 (x0 : Int), .int .i64 0], by simp [results, Tryz.f62, go_sem], rfl, HEND.out.1, HEND.out.2⟩
/-- Storing nothing into the fields. -/
theorem storeL_succ (a i : Nat) : H.storeL a (i + 1) = (H.storeL a i).storeP a (i : Int) 0 := rfl
set_option maxRecDepth 8000 in
set_option maxHeartbeats 2000000 in
/-- Make, where a slot was found. -/
theorem hMake_of (f c : Nat) (hf : f ≤ 15) (hc : c < 2) (w : World) (he : (H.slotP (ofK f)).2.1 = 0) (hS : Sizes w)
    (hSl : Calls Tryz.prog 62 #[.pointer (some ⟨D 0, 0, none⟩), .int .i64 (ofK f : Int)] w fun e w' => e = .returned (.tuple #[.int .i64 ((H.slotP (ofK f)).1 : Int), .int .i64 ((H.slotP (ofK f)).2.1 : Int)]) ∧ HeapAt w' D (H.slotP (ofK f)).2.2 ∧ Keep (HF D) w w')
    (hb : (((H.slotP (ofK f)).2.2.beginP (H.slotP (ofK f)).1 f).storeL (H.slotP (ofK f)).1 f).bearE (H.slotP (ofK f)).1 c = 0) : Calls Tryz.prog 25 #[.pointer (some ⟨D 0, 0, none⟩), .int .i64 (f : Int), .int .i64 (c : Int)] w fun e w' => e = .returned (.tuple #[.int .i64 ((H.makeP f c).1 : Int), .int .i64 0]) ∧ HeapAt w' D (H.makeP f c).2 ∧ Keep (HF D) w w' := by
  have e : H.makeP f c = ((H.slotP (ofK f)).1, (((H.slotP (ofK f)).2.2.beginP (H.slotP (ofK f)).1 f).storeL (H.slotP (ofK f)).1 f).bearP (H.slotP (ofK f)).1 c) := by unfold HS.makeP; rw [if_pos he]
  rw [e]
  rw [he] at hSl
  have HSL := Lib.hid hSl
  have HOF : Hid (Calls Tryz.prog 60 #[.int .i64 (f : Int)] w fun e w' => e = .returned (.tuple #[.int .i64 (ofK f : Int), .bool true]) ∧ w = w') := by
    exact cOf_any (f : Int) (by omega) (by omega) w hS
  have HCO : Hid (∀ W, Calls Tryz.prog 61 #[.int .i64 (c : Int)] W fun e w' => e = .returned (.bool true) ∧ W = w') := fun W => by
    rcases (by omega : c = 0 ∨ c = 1) with rfl | rfl
    all_goals
      go_enter Tryz.func61, Tryz.ntmps61
      go_wp2_with fail
      go_ret
      exact ⟨rfl, rfl⟩
  generalize (H.slotP (ofK f)).1 = a at *
  generalize (H.slotP (ofK f)).2.2 = H2 at *
  have HBG : Hid (∀ W, HeapAt W D H2 → Calls Tryz.prog 63 #[.pointer (some ⟨D 0, 0, none⟩), .int .i64 (a : Int), .int .i64 (f : Int)] W fun e w' => (∃ er : Int, e = .returned (.int .i64 er)) ∧ HeapAt w' D (H2.beginP a f) ∧ Keep (HF D) W w') := fun W hW => hBegin_any hW a f hf
  have HST : Hid (∀ W i, HeapAt W D ((H2.beginP a f).storeL a i) → Calls Tryz.prog 64 #[.pointer (some ⟨D 0, 0, none⟩), .int .i64 (a : Int), .int .i64 (i : Int), .int .i64 0] W fun e w' => (∃ er : Int, e = .returned (.int .i64 er)) ∧ HeapAt w' D ((H2.beginP a f).storeL a (i + 1)) ∧ Keep (HF D) W w') := fun W i hW => by
    refine (hStore_any hW a (i : Int) 0).mono ?_
    rintro e w' ⟨rfl, h1, k1⟩
    exact ⟨⟨_, rfl⟩, h1, k1⟩
  have HBE : Hid (∀ W, HeapAt W D ((H2.beginP a f).storeL a f) → Calls Tryz.prog 65 #[.pointer (some ⟨D 0, 0, none⟩), .int .i64 (a : Int), .int .i64 (c : Int)] W fun e w' => e = .returned (.int .i64 0) ∧ HeapAt w' D (((H2.beginP a f).storeL a f).bearP a c) ∧ Keep (HF D) W w') := fun W hW => by
    have h9 := hBear_any hW a c
    rw [hb] at h9
    exact h9
  have hf0 : (f : Int) ≤ 15 := by omega
  have hw0 : HeapAt w D H2 → True := fun _ => trivial
  show Calls Tryz.prog 25 #[.pointer (some ⟨D 0, 0, none⟩), .int .i64 (f : Int), .int .i64 (c : Int)] w fun e w' => e = .returned (.tuple #[.int .i64 (a : Int), .int .i64 0]) ∧ HeapAt w' D (((H2.beginP a f).storeL a f).bearP a c) ∧ Keep (HF D) w w'
  generalize H2.beginP a f = H3 at *
  clear hSl hS he hb e hw0
  go_enter Tryz.func25, Tryz.ntmps25
  go_wp2_with fail
  refine HOF.out.mono ?_
  rintro e w1 ⟨rfl, rfl⟩
  go_wp2_with fail
  refine (HCO.out _).mono ?_
  rintro e w1 ⟨rfl, rfl⟩
  go_wp2_with fail
  refine HSL.out.mono ?_
  rintro e w1 ⟨rfl, h1, k1⟩
  have HB1 := Lib.hid (HBG.out w1 h1)
  have HK1 := Lib.hid k1
  clear h1 k1 HSL HBG HOF HCO
  go_wp2_with fail
  refine HB1.out.mono ?_
  rintro e w2 ⟨⟨er, rfl⟩, h2, k2⟩
  have HI0 : Hid (HeapAt w2 D (H3.storeL a 0) ∧ Keep (HF D) w w2) := ⟨h2, HK1.out.trans k2⟩
  clear h2 k2 HB1 HK1
  go_wp2_with fail
  go_loopw [39] (fun i wr => ∃ j : Nat, j ≤ f ∧ i = .int .i64 j ∧ HeapAt wr D (H3.storeL a j) ∧ Keep (HF D) w wr) (fun i _ => f - (intOf i).toNat)
  case atStart => exact ⟨0, Nat.zero_le _, rfl, HI0.out.1, HI0.out.2⟩
  case round =>
    obtain ⟨j, hj, rfl, hh, hk⟩ := hrel
    by_cases hlt : j < f
    · have hltI : (j : Int) < (f : Int) := by omega
      have HS1 := Lib.hid (HST.out wr j hh)
      have HK := Lib.hid hk
      clear hh hk
      go_wp2_with fail
      refine HS1.out.mono ?_
      rintro e w3 ⟨⟨er, rfl⟩, h3, k3⟩
      have H3' : Hid (HeapAt w3 D (H3.storeL a (j + 1)) ∧ Keep (HF D) w w3) := ⟨h3, HK.out.trans k3⟩
      clear h3 k3 HS1
      go_wp2_with fail
      go_roundw
      case rel => exact ⟨j + 1, by omega, by go_num, H3'.out.1, H3'.out.2⟩
      case measure => simp [intOf] <;> omega
    · obtain rfl : j = f := by omega
      have hnlt : ¬ (j : Int) < (j : Int) := by omega
      have HB := Lib.hid (HBE.out wr hh)
      have HK := Lib.hid hk
      clear hh hk hlt
      go_wp2_with fail
      refine HB.out.mono ?_
      rintro e w3 ⟨rfl, h3, k3⟩
      have H3' : Hid (HeapAt w3 D ((H3.storeL a j).bearP a c) ∧ Keep (HF D) w w3) := ⟨h3, HK.out.trans k3⟩
      clear h3 k3 HB
      go_wp2_with fail
      go_ret2
      exact ⟨rfl, H3'.out.1, H3'.out.2⟩
end
end Go.Proofs.YtjdnkhljgnjkcaaGreatDoor
