/- Parts of a walk, put together by a small program of mine from texts of their own: Lists3 Bits2 Header3. -/
import Derived.Test.YtjdnkhljgnjkcaaGreatDoorZzf
import Derived.Test.YtjdnkhljgnjkcaaGreatDoorZze
import Derived.Test.YtjdnkhljgnjkcaaGreatDoorZzc
import Derived.Lib.SliceRun
import Derived.Deep.RegionHeld3
/- The free slots of each class: Take, New. -/
namespace Go.Proofs.YtjdnkhljgnjkcaaGreatDoor
open Go.RowKit
attribute [local go_sem] Oper.semAt_some

section
variable {w w' : World} {L iR iX aR aX tR sz : Nat} {In F A : List Nat}
set_option maxRecDepth 4000 in
set_option maxHeartbeats 1000000 in
theorem lTake_none (h : ListsAt w L iR iX aR tR sz In F) (k : Nat) (hk : k < 4) (hf : F.getD k 0 = 0) : Calls Tryz.prog 146 #[.pointer (some ⟨L, 0, none⟩), .int .i64 (k : Int)] w fun e w' => e = .returned (.tuple #[.int .i64 0, .int .i64 12]) ∧ w = w' := by
  have HI := Lib.hid (clIs_any (k : Int) w)
  rw [decide_eq_true (by omega)] at HI
  have qf := (h.first hk).1
  rw [hf] at qf
  have hkI : (k : Int) < 4 := by omega
  clear h hk hf
  go_enter Tryz.func146, Tryz.ntmps146
  go_wp2_with (go_at_call 152; refine HI.out.mono ?_; rintro e w1 ⟨rfl, rfl⟩)
  go_ret2
  exact ⟨rfl, rfl⟩
def take3 (L iX aR : Nat) : Nat → Prop := fun i => i = L ∨ i = iX ∨ i = aR
set_option maxRecDepth 4000 in
set_option maxHeartbeats 2000000 in
theorem lTake_ok (h : ListsAt w L iR iX aR tR sz In F) (hA : ArenaAt w aR aX A) (hne : iX ≠ aX) (p k nx : Nat) (hk : k < 4) (hf : F.getD k 0 = p + 1) (hp : p < A.length) (hw : A.getD p 0 = linkW nx) (hn : nx ≤ 1048576) :
    Calls Tryz.prog 146 #[.pointer (some ⟨L, 0, none⟩), .int .i64 (k : Int)] w fun e w' => e = .returned (.tuple #[.int .i64 ((p : Int) + 1), .int .i64 0]) ∧ ListsAt w' L iR iX aR tR sz (putL sz In ((p : Int) + 1) false) (F.set k nx) ∧ ArenaAt w' aR aX A ∧ Keep (take3 L iX aR) w w' := by
  have HI := Lib.hid (fun W => clIs_any (k : Int) W)
  have hI := fun W => clIs_any (k : Int) W
  simp only [decide_eq_true (show (0 ≤ (k : Int) ∧ (k : Int) < 4) by omega)] at hI
  have HI := Lib.hid hI
  have qf := (h.first hk).1
  rw [hf] at qf
  have qe : (((p + 1 : Nat) : Nat) : Int) = (p : Int) + 1 := by omega
  rw [qe] at qf
  have hkI : (k : Int) < 4 := by omega
  have HNX := Lib.hid (lNext_in (h.still (k := (Keep.refl none_ w).drew)) (hA.still (k := (Keep.refl none_ w).drew)) p nx hp hw hn)
  have fF := h.free (3 + k)
  have hLn := h.ne
  obtain ⟨M0, hM0, hbL⟩ := h.blk
  obtain ⟨cap0, hbi⟩ := h.set.blk
  obtain ⟨cur0, hbx, _⟩ := h.set.wds
  obtain ⟨ld, st, hbr⟩ := hA.blk
  have hbax := hA.wds
  have n5 : aR ≠ iX := fun e => by rw [e] at hbr; exact absurd (hbr.uniq hbx).2 (by decide)
  have n6 : aR ≠ L := fun e => by rw [e] at hbr; exact absurd (hbr.uniq hbL).2 (by decide)
  have n7 : aX ≠ L := fun e => by rw [e] at hbax; exact absurd (hbax.uniq hbL).2 (by decide)
  have n8 : aR ≠ iR := fun e => by rw [e] at hbr; exact absurd (hbr.uniq hbi).2 (by decide)
  have HN : Hid (aR ≠ iX ∧ aR ≠ L ∧ aX ≠ L ∧ L ≠ iR ∧ L ≠ iX ∧ aR ≠ iR ∧ iX ≠ aX ∧ aX ≠ aR) := ⟨n5, n6, n7, hLn.1, hLn.2, n8, hne, fun e => hA.ne e.symm⟩
  have H := Lib.hid h
  have HA := Lib.hid hA
  have HK4 : Hid (k < 4) := hk
  have HNB : Hid (nx ≤ 1048576) := hn
  have hz : ((p : Int) + 1 == 0) = false := by simp; omega
  obtain ⟨pp, hpp⟩ : ∃ pp : Int, pp = (p : Int) + 1 := ⟨_, rfl⟩
  rw [← hpp] at qf hz HNX ⊢
  clear h hA hbL hbi hbx hbr hbax hk hp hf hw n5 n6 n7 n8 hLn hne hpp hM0 hI hn qe
  go_enter Tryz.func146, Tryz.ntmps146
  go_wp2_with (go_at_call 152; refine (HI.out _).mono ?_; rintro e w1 ⟨rfl, rfl⟩)
  go_region_held3 (fun _ => True)
    (first | exact trivial | fail "SFAIL")
    ((go_at_call 117
      refine HNX.out.mono ?_
      rintro e w1 ⟨rfl, ha1, hk1⟩
      have hk01 : Keep (only aR) w w1 := (Keep.refl _ _).drew.trans hk1
      have HS1 := Lib.hid (H.out.keep hk01 (fun e => HN.out.2.1 e.symm) (fun e => HN.out.2.2.2.2.2.1 e.symm) (fun e => HN.out.1 e.symm))
      have HA1 := Lib.hid ha1
      have HK1 := Lib.hid hk01
      have qf1 := hk01.cellv qf (fun e => HN.out.2.1 e.symm)
      have fF1 := HS1.out.free (3 + k)
      have HKN : Hid (w1.cell? ⟨L, 3 + k, none⟩ = some (.int .i64 pp) ∧ w1.frozen? ⟨L, 3 + k, none⟩ = false) := ⟨qf1, fF1⟩
      clear ha1 hk1 hk01))
  obtain ⟨W2, hW2⟩ : ∃ W', W' = w1.setCell ⟨L, 3 + k, none⟩ (.int .i64 (nx : Int)) := ⟨_, rfl⟩
  rw [← hW2]
  have hk12 : Keep (only L) w1 W2 := by rw [hW2]; exact (Keep.refl _ _).put _ _
  have HS2 : Hid (ListsAt W2 L iR iX aR tR sz In (F.set k nx)) := by
    rw [hW2]
    exact HS1.out.setF HK4.out HNB.out
  have HA2 := Lib.hid (HA1.out.keep hk12 HN.out.2.1 HN.out.2.2.1)
  have HK2 : Hid (Keep (take3 L iX aR) w W2) := (HK1.out.mono (fun i _ e => Or.inr (Or.inr e))).trans (hk12.mono (fun i _ e => Or.inl e))
  clear hW2 hk12 qf fF qf1 fF1 HKN HS1 HA1 HK1 HNX
  obtain ⟨mm, qm⟩ := HS2.out.many HK4.out
  have fM := HS2.out.free (7 + k)
  go_wp2_with fail
  go_region
  obtain ⟨W3, hW3⟩ : ∃ W', W' = (W2.setCell ⟨L, 7 + k, none⟩ (.int .i64 (wrap64 (mm - 1)))).drew := ⟨_, rfl⟩
  rw [← hW3]
  have hk23 : Keep (only L) W2 W3 := by rw [hW3]; exact ((Keep.refl _ _).put _ _).drew
  have HS3 : Hid (ListsAt W3 L iR iX aR tR sz In (F.set k nx)) := by
    rw [hW3]
    exact (HS2.out.setM k _).still (k := (Keep.refl none_ _).drew)
  have HA3 := Lib.hid (HA2.out.keep hk23 HN.out.2.1 HN.out.2.2.1)
  have HK3 : Hid (Keep (take3 L iX aR) w W3) := HK2.out.trans (hk23.mono (fun i _ e => Or.inl e))
  clear hW3 hk23 fM qm HS2 HA2 HK2
  obtain ⟨q0, q1, q2⟩ := HS3.out.ptrs
  have HBP := Lib.hid (bPut_any HS3.out.set pp false)
  generalize putP sz In pp false = pb at *
  go_wp2_with (go_at_call 111; refine HBP.out.mono ?_; rintro e w4 ⟨rfl, hs4, hk4⟩; have HS4 := Lib.hid hs4; have HK4' := Lib.hid hk4; clear hs4 hk4)
  go_ret2
  exact ⟨rfl, HS3.out.newSet HK4'.out HN.out.2.2.2.2.1 HS4.out, HA3.out.keep HK4'.out HN.out.1 (fun e => HN.out.2.2.2.2.2.2.1 e.symm), HK3.out.trans (HK4'.out.mono (fun i _ e => Or.inr (Or.inl e)))⟩
set_option maxRecDepth 4000 in
set_option maxHeartbeats 2000000 in
theorem lNew_ok {tX b ww : Nat} {c : Conf} {K : List Nat} (hA : ArenaAt w aR aX A) (hTb : TableAt w tR tX c K) (hb : c.b = b) (hw : c.w = ww) (hlen : A.length = b * ww) (hT : Tabs w) : Calls Tryz.prog 89 #[.pointer (some ⟨aR, 0, none⟩), .pointer (some ⟨tR, 0, none⟩)] w fun e w' => ∃ L iR iX, e = .returned (.tuple #[.pointer (some ⟨L, 0, none⟩), .int .i64 0]) ∧ ListsAt w' L iR iX aR tR (b * ww + 1) (List.replicate ((b * ww + 1 + 63) / 64) 0) [0, 0, 0, 0] ∧ w.heap.size ≤ L ∧ w.heap.size ≤ iR ∧ w.heap.size ≤ iX ∧ Keep none_ w w' := by
  have hn := ok_nat hTb.ok hb hw
  have HC := Lib.hid (tConfig_any hTb)
  have HW : Hid (∀ W, Keep none_ w W → Calls Tryz.prog 87 #[.agg c.cells.toArray] W fun e w' => e = .returned (.int .i64 ((b * ww : Nat) : Int)) ∧ Keep none_ W w') := fun W hW => cWords_any hTb.ok hb hw W (hT.keep hW)
  have HL : Hid (∀ W, Keep none_ w W → Calls Tryz.prog 112 #[.pointer (some ⟨aR, 0, none⟩)] W fun e w' => e = .returned (.int .i64 ((b * ww : Nat) : Int)) ∧ W = w') := fun W hW => by
    have h9 := aLen_any (hA.still hW)
    rw [hlen] at h9
    exact h9
  have HB : Hid (∀ W, Calls Tryz.prog 90 #[.int .i64 (((b * ww : Nat) : Int) + 1)] W fun e w' => ∃ B X, e = .returned (.tuple #[.pointer (some ⟨B, 0, none⟩), .int .i64 0]) ∧ SetAt w' B X (b * ww + 1) (List.replicate ((b * ww + 1 + 63) / 64) 0) ∧ W.heap.size ≤ B ∧ W.heap.size ≤ X ∧ Keep none_ W w') := fun W => by
    have h9 := bNew_any (b * ww + 1) (by omega) W
    rw [show (((b * ww + 1 : Nat) : Nat) : Int) = ((b * ww : Nat) : Int) + 1 by omega] at h9
    exact h9
  generalize b * ww = N at *
  have hwr : IntKind.i64.wrap ((N : Int) + 1) = (N : Int) + 1 := IntWalk.i64_in _ (by omega)
  generalize (List.replicate ((N + 1 + 63) / 64) 0) = In' at *
  obtain ⟨c0, c1, c2, c3, c4, c5, c6⟩ := c
  simp only [Conf.cells] at *
  clear hA hTb hb hw hlen hT hn
  go_enter Tryz.func89, Tryz.ntmps89
  go_wp2_with (first
    | (go_at_call 92; refine HC.out.mono ?_; rintro e w1 ⟨rfl, hk1⟩; have HK1 := Lib.hid hk1; clear hk1)
    | (go_at_call 87; refine (HW.out _ HK1.out).mono ?_; rintro e w2 ⟨rfl, hk2⟩; have HK2 := Lib.hid (HK1.out.trans hk2); clear hk2)
    | (go_at_call 112; refine (HL.out _ HK2.out).mono ?_; rintro e w3 ⟨rfl, rfl⟩)
    | (go_at_call 90; refine (HB.out _).mono ?_; rintro e w4 ⟨iR, iX, rfl, hs, h1, h2, hk4⟩; have HS := Lib.hid hs; have HK4 := Lib.hid (HK2.out.trans hk4); have HLE : Hid (w.heap.size ≤ iR ∧ w.heap.size ≤ iX) := ⟨Nat.le_trans HK2.out.size h1, Nat.le_trans HK2.out.size h2⟩; clear hs h1 h2 hk4))
  obtain ⟨W5, hW5⟩ : ∃ W', W' = w4.alloc (.cells #[.pointer (some ⟨aR, 0, none⟩), .pointer (some ⟨tR, 0, none⟩), .pointer (some ⟨iR, 0, none⟩), .int .i64 0, .int .i64 0, .int .i64 0, .int .i64 0, .int .i64 0, .int .i64 0, .int .i64 0, .int .i64 0] 186) := ⟨_, rfl⟩
  rw [← hW5]
  go_ret2
  have hk5 : Keep none_ w4 W5 := by rw [hW5]; exact (Keep.refl _ _).alloc _
  refine ⟨w4.heap.size, iR, iX, rfl, ⟨⟨[0, 0, 0, 0], rfl, ?_⟩, HS.out.still hk5, rfl, by decide⟩, HK4.out.size, HLE.out.1, HLE.out.2, HK4.out.trans hk5⟩
  rw [hW5]
  exact Blk.new w4 _ _
end
end Go.Proofs.YtjdnkhljgnjkcaaGreatDoor

/- Sets of numbers: Copy. -/
namespace Go.Proofs.YtjdnkhljgnjkcaaGreatDoor
open Go.RowKit

theorem own_some {w : World} {base n : Nat} {e : TypeId} {v : Value} {xs : List Value} (h : w.ownsRow base e 1 v n xs) (h1 : 1 ≤ n) : ∃ g cap, v = .slice (some ⟨g, 0, none⟩) n cap ∧ base ≤ g := by
  rcases h.2 with ⟨rfl, h0⟩ | ⟨g, cap, cur, rfl, hb, _⟩
  · omega
  · exact ⟨g, cap, rfl, hb⟩
set_option maxRecDepth 10000 in
set_option maxHeartbeats 400000 in
theorem cloneU_cells (ad : Addr) (n c : Nat) (xs : List Value) (w : World) (h : Cells w (some ad) n xs) (hm : n ≤ 4000000000) (h1 : ∀ u ∈ xs, u.oneCell' = true) :
    Calls Tryz.prog 127 #[.slice (some ad) n c] w fun e w' => ∃ v', e = .returned v' ∧ w'.ownsRow w.heap.size 139 1 v' n xs ∧ Keep none_ w w' := by
  obtain ⟨rfl, hc⟩ := h
  have hn := fun w => Lib.run_eql_slice_nil (P := Tryz.prog) w 175 139 (some ad) xs.length c 0 0 (by kernel_rfl)
  obtain ⟨i0, hi1, hi2, hi3, hi4⟩ := info_parts Tryz.infoU
  have hw0 : ∀ w : World, (w.alloc (.cells #[] 139)).ownsRow w.heap.size 139 1 (.slice (some ⟨w.heap.size, 0, none⟩) 0 0) 0 [] := fun w => World.ownsRow_made w #[] 0 (Nat.le_refl _) (by decide) rfl
  have hcell : ∀ (j : Nat) (u : Value), xs[j]? = some u → (w.alloc (.cells #[] 139)).cell? (ad.add j) = some u := fun j u hj => by
    have hjl := (List.getElem?_eq_some_iff.1 hj).1
    obtain ⟨b, off, e, hx⟩ := hc (by omega)
    injection e with e
    subst e
    have hcl := hx j u hj
    have ea : (⟨b, off, none⟩ : Addr).add j = ⟨b, off + j, none⟩ := by simp only [Addr.add]; split <;> simp_all
    rw [ea, World.cell?_alloc_lt _ _ _ (World.block_lt_of_cell? _ _ hcl)]
    exact hcl
  have HC := Lib.hid hcell
  have HU := Lib.hid h1
  clear hcell hc h1
  go_enter Tryz.func127, Tryz.ntmps127
  go_wp2_with (at_builtin; refine wpList_append_own _ rfl _ _ 175 rfl w.heap.size 139 i0 (.int .u64 0) 1 8 (by kernel_rfl) hi1 hi2 hi3 hi4 rfl (by decide) _ _ _ rfl (hw0 w) ad xs.length c xs rfl (by simp) HC.out HU.out (by unfold maxLen; omega) (by omega) (by simp) ?_; intro v' w1 hown hgr _)
  have hown' : w1.ownsRow w.heap.size 139 1 v' xs.length xs := by simpa using hown
  have hkeep : Keep none_ w w1 := ((Keep.refl none_ w).alloc _).grown hgr (fun k e hk => absurd hk (by have e' : w.heap.size = k := Option.some.inj e; omega))
  clear hown hgr
  go_wp2
  go_ret
  exact ⟨_, rfl, hown', hkeep⟩
section
variable {w w' : World} {B X size : Nat} {W : List Nat}
theorem SetAt.cells (h : SetAt w B X size W) : Cells w (some ⟨X, 0, none⟩) W.length (wordsV W) := by
  obtain ⟨cur, h2, h3⟩ := h.wds
  refine ⟨by simp [wordsV], fun _ => ⟨X, 0, rfl, fun j u hj => ?_⟩⟩
  rw [Nat.zero_add]
  exact h2.cell j (h3 j u hj)
set_option maxRecDepth 10000 in
set_option maxHeartbeats 1000000 in
theorem bCopy_any (h : SetAt w B X size W) (h1 : 1 ≤ size) : Calls Tryz.prog 91 #[.pointer (some ⟨B, 0, none⟩)] w fun e w' => ∃ B' X', e = .returned (.pointer (some ⟨B', 0, none⟩)) ∧ SetAt w' B' X' size W ∧ w.heap.size ≤ B' ∧ w.heap.size ≤ X' ∧ Keep none_ w w' := by
  obtain ⟨cap, hb⟩ := h.blk
  have y0 := hb.cell 0 rfl
  have y1 := hb.cell 1 rfl
  have hlen := h.len
  have hsz := h.sz
  have HC := Lib.hid (cloneU_cells ⟨X, 0, none⟩ W.length cap (wordsV W) w.drew (h.still (k := (Keep.refl none_ w).drew)).cells (by omega) (fun u hu => by obtain ⟨z, _, rfl⟩ := List.mem_map.1 hu; rfl))
  have H := Lib.hid h
  have HL1 : Hid (1 ≤ W.length) := by unfold Hid; omega
  generalize hWL : W.length = wl at *
  have HWL := Lib.hid hWL
  clear h hb hlen hsz h1 hWL
  go_enter Tryz.func91, Tryz.ntmps91
  go_wp2_with fail
  go_region_held3 (fun w' => w'.cell? ⟨B, 0, none⟩ = some (.slice (some ⟨X, 0, none⟩) wl cap) ∧ w'.cell? ⟨B, 1, none⟩ = some (.int .i64 (size : Int)))
    (first | exact ⟨y0, y1⟩ | exact ⟨HK1.out.still y0, HK1.out.still y1⟩ | exact ⟨(HK1.out.alloc _).still y0, (HK1.out.alloc _).still y1⟩ | fail "SFAIL")
    ((go_at_call 127
      refine HC.out.mono ?_
      rintro e w1 ⟨v, rfl, hown, hk1⟩
      obtain ⟨g, cp, rfl, hge⟩ := own_some hown HL1.out
      have HGE := Lib.hid hge
      have HOWN := Lib.hid hown
      have HK1 := Lib.hid ((Keep.refl none_ w).drew.trans hk1)
      clear hown hk1 hge))
  obtain ⟨W2, hW2⟩ : ∃ W', W' = w1.alloc (.cells #[.slice (some ⟨g, 0, none⟩) wl cp, .int .i64 (size : Int)] 177) := ⟨_, rfl⟩
  rw [← hW2]
  go_wp2_with fail
  go_ret
  have hk2 : Keep none_ w1 W2 := by rw [hW2]; exact (Keep.refl _ _).alloc _
  refine ⟨w1.heap.size, g, rfl, ⟨⟨cp, ?_⟩, ?_, H.out.len, H.out.lt, H.out.sz⟩, HK1.out.size, HGE.out, HK1.out.trans hk2⟩
  · rw [hW2, HWL.out]; exact Blk.new w1 _ _
  · rcases HOWN.out.2 with ⟨h, _⟩ | ⟨g', cap', cur, hv, hb, hg, hn, hm, hs, hc⟩
    · cases h
    · cases hv
      refine ⟨cur.toList, hk2.blk (by unfold Blk; simpa using hg) (fun f => f), fun i v hi => ?_⟩
      rw [← hc] at hi
      have hl := (List.getElem?_eq_some_iff.1 hi).1
      rw [List.getElem?_take_of_lt (by simp at hl; omega)] at hi
      exact hi
end
end Go.Proofs.YtjdnkhljgnjkcaaGreatDoor

/- What a slot's first word says: Kind, Parse, of whatever word. -/
namespace Go.Proofs.YtjdnkhljgnjkcaaGreatDoor
open Go.RowKit

/-- What an object's header says. -/
def hdP (x : Nat) : Option (Nat × Nat) := if objOk (x / 256 % 256) (x % 256) ∧ objW (x / 256 % 256) (x % 256) = x then some (x / 256 % 256, x % 256) else none
theorem hdP_obj {c f : Nat} (h : objOk c f) : hdP (objW c f) = some (c, f) := by
  obtain ⟨_, _, _, _, h2, h3⟩ := objW_facts h
  unfold hdP
  rw [h2, h3, if_pos ⟨h, rfl⟩]
theorem hdP_some {x c f : Nat} (h : hdP x = some (c, f)) : objOk c f ∧ x = objW c f := by
  unfold hdP at h
  split at h
  · rename_i h1
    simp only [Option.some.injEq, Prod.mk.injEq] at h
    obtain ⟨rfl, rfl⟩ := h
    exact ⟨h1.1, h1.2.symm⟩
  · cases h
/-- A word that is no object's header. -/
theorem obj_no {x : Nat} (h : hdP x = none) (ho : objOk (x / 256 % 256) (x % 256)) : objW (x / 256 % 256) (x % 256) ≠ x := fun e => by
  unfold hdP at h
  rw [if_pos ⟨ho, e⟩] at h
  cases h
/-- What Kind says where it is no object. -/
def kindN (x : Nat) : Nat := if x % 72057594037927936 ≤ 1048576 ∧ linkW (x % 72057594037927936) = x then 2 else 0
theorem int_ne {a b : Nat} (h : a ≠ b) : ((a : Int) == (b : Int)) = false := by
  simp; omega
theorem int_eq {a b : Nat} (h : a = b) : ((a : Int) == (b : Int)) = true := by
  simp; omega
set_option maxRecDepth 4000 in
set_option maxHeartbeats 2000000 in
theorem hdKind_none (x : Nat) (hx : x < 216172782113783808) (h : hdP x = none) (w : World) (hS : Sizes w) : Calls Tryz.prog 191 #[.int .u64 (x : Int)] w fun e w' => e = .returned (.int .i64 (kindN x : Int)) ∧ w = w' := by
  have HP := Lib.hid (hdParts_any x (by omega) w)
  have HO := Lib.hid (hdObject_any (x / 256 % 256) (x % 256) (by omega) (by omega) w hS)
  have HA := Lib.hid (hdAddress_any x (by omega) w)
  have HL := Lib.hid (hdLink_any (x % 72057594037927936) (by omega) w)
  have hno := obj_no h
  -- the link's test
  have HLT : Hid (kindN x = if x % 72057594037927936 ≤ 1048576 ∧ linkW (x % 72057594037927936) = x then 2 else 0) := rfl
  have hkk : x / 72057594037927936 = 1 ∨ x / 72057594037927936 = 2 ∨ x / 72057594037927936 = 0 := by omega
  have hlink : x / 72057594037927936 ≠ 2 → ∀ a, linkW a ≠ x ∨ 72057594037927936 ≤ a := fun hk a => by
    rcases Nat.lt_or_ge a 72057594037927936 with h1 | h1
    · left; intro e; unfold linkW at e; omega
    · right; exact h1
  have hz : x / 72057594037927936 = 0 → kindN x = 0 := fun hk => by
    rw [HLT.out, if_neg]
    rintro ⟨_, h2⟩
    unfold linkW at h2; omega
  have h1' : x / 72057594037927936 = 1 → kindN x = 0 := fun hk => by
    rw [HLT.out, if_neg]
    rintro ⟨_, h2⟩
    unfold linkW at h2; omega
  rcases hkk with hk | hk | hk
  · have hke := kind_wrap x 1 hk
    rw [h1' hk]
    have HLN : Hid (x % 72057594037927936 ≤ 1048576 → ((linkW (x % 72057594037927936) : Int) == (x : Int)) = false) := fun _ => int_ne (fun e => by unfold linkW at e; omega)
    by_cases ho : objOk (x / 256 % 256) (x % 256)
    · have hne := int_ne (hno ho)
      rw [if_pos ho, decide_eq_true ho] at HO
      by_cases hl : x % 72057594037927936 ≤ 1048576
      · have hln := HLN.out hl
        rw [if_pos hl, decide_eq_true hl] at HL
        generalize x / 256 % 256 = c at *
        generalize x % 256 = f at *
        generalize x % 72057594037927936 = a at *
        generalize objW c f = ow at *
        generalize linkW a = lw at *
        clear h hno ho hl hz h1' hlink hk HLT HLN hS
        go_enter Tryz.func191, Tryz.ntmps191
        go_wp2_with (first | (go_at_call 192; refine HP.out.mono ?_; rintro e w1 ⟨rfl, rfl⟩) | (go_at_call 107; refine HO.out.mono ?_; rintro e w1 ⟨rfl, rfl⟩) | (go_at_call 193; refine HA.out.mono ?_; rintro e w1 ⟨rfl, rfl⟩) | (go_at_call 188; refine HL.out.mono ?_; rintro e w1 ⟨rfl, rfl⟩))
        go_ret
        exact ⟨rfl, rfl⟩
      · rw [if_neg hl, decide_eq_false hl] at HL
        generalize x / 256 % 256 = c at *
        generalize x % 256 = f at *
        generalize x % 72057594037927936 = a at *
        generalize objW c f = ow at *
        clear h hno ho hl hz h1' hlink hk HLT HLN hS
        go_enter Tryz.func191, Tryz.ntmps191
        go_wp2_with (first | (go_at_call 192; refine HP.out.mono ?_; rintro e w1 ⟨rfl, rfl⟩) | (go_at_call 107; refine HO.out.mono ?_; rintro e w1 ⟨rfl, rfl⟩) | (go_at_call 193; refine HA.out.mono ?_; rintro e w1 ⟨rfl, rfl⟩) | (go_at_call 188; refine HL.out.mono ?_; rintro e w1 ⟨rfl, rfl⟩))
        go_ret
        exact ⟨rfl, rfl⟩
    · rw [if_neg ho, decide_eq_false ho] at HO
      by_cases hl : x % 72057594037927936 ≤ 1048576
      · have hln := HLN.out hl
        rw [if_pos hl, decide_eq_true hl] at HL
        generalize x / 256 % 256 = c at *
        generalize x % 256 = f at *
        generalize x % 72057594037927936 = a at *
        generalize linkW a = lw at *
        clear h hno ho hl hz h1' hlink hk HLT HLN hS
        go_enter Tryz.func191, Tryz.ntmps191
        go_wp2_with (first | (go_at_call 192; refine HP.out.mono ?_; rintro e w1 ⟨rfl, rfl⟩) | (go_at_call 107; refine HO.out.mono ?_; rintro e w1 ⟨rfl, rfl⟩) | (go_at_call 193; refine HA.out.mono ?_; rintro e w1 ⟨rfl, rfl⟩) | (go_at_call 188; refine HL.out.mono ?_; rintro e w1 ⟨rfl, rfl⟩))
        go_ret
        exact ⟨rfl, rfl⟩
      · rw [if_neg hl, decide_eq_false hl] at HL
        generalize x / 256 % 256 = c at *
        generalize x % 256 = f at *
        generalize x % 72057594037927936 = a at *
        clear h hno ho hl hz h1' hlink hk HLT HLN hS
        go_enter Tryz.func191, Tryz.ntmps191
        go_wp2_with (first | (go_at_call 192; refine HP.out.mono ?_; rintro e w1 ⟨rfl, rfl⟩) | (go_at_call 107; refine HO.out.mono ?_; rintro e w1 ⟨rfl, rfl⟩) | (go_at_call 193; refine HA.out.mono ?_; rintro e w1 ⟨rfl, rfl⟩) | (go_at_call 188; refine HL.out.mono ?_; rintro e w1 ⟨rfl, rfl⟩))
        go_ret
        exact ⟨rfl, rfl⟩
  · have hke := kind_wrap x 2 hk
    by_cases hl : x % 72057594037927936 ≤ 1048576
    · rw [if_pos hl, decide_eq_true hl] at HL
      have hq : linkW (x % 72057594037927936) = x := by unfold linkW; omega
      have HR : Hid (kindN x = 2) := by unfold Hid; rw [HLT.out, if_pos ⟨hl, hq⟩]
      have hqe := int_eq hq
      rw [HR.out]
      generalize x % 72057594037927936 = a at *
      generalize linkW a = lw at *
      clear h hno hl hz h1' hlink hk HLT hS HO HP hq HR
      go_enter Tryz.func191, Tryz.ntmps191
      go_wp2_with (first | (go_at_call 193; refine HA.out.mono ?_; rintro e w1 ⟨rfl, rfl⟩) | (go_at_call 188; refine HL.out.mono ?_; rintro e w1 ⟨rfl, rfl⟩))
      go_ret
      exact ⟨rfl, rfl⟩
    · rw [if_neg hl, decide_eq_false hl] at HL
      have HR : Hid (kindN x = 0) := by unfold Hid; rw [HLT.out, if_neg (fun e => hl e.1)]
      rw [HR.out]
      generalize x % 72057594037927936 = a at *
      clear h hno hl hz h1' hlink hk HLT hS HO HP HR
      go_enter Tryz.func191, Tryz.ntmps191
      go_wp2_with (first | (go_at_call 193; refine HA.out.mono ?_; rintro e w1 ⟨rfl, rfl⟩) | (go_at_call 188; refine HL.out.mono ?_; rintro e w1 ⟨rfl, rfl⟩))
      go_ret
      exact ⟨rfl, rfl⟩
  · have hke := kind_wrap x 0 hk
    rw [hz hk]
    clear h hno hz h1' hlink hk HLT hS HO HP HA HL
    go_enter Tryz.func191, Tryz.ntmps191
    go_wp2_with fail
    go_ret
    exact ⟨rfl, rfl⟩
set_option maxRecDepth 4000 in
set_option maxHeartbeats 1000000 in
theorem hdParse_none (x : Nat) (hx : x < 216172782113783808) (h : hdP x = none) (w : World) (hS : Sizes w) : Calls Tryz.prog 155 #[.int .u64 (x : Int)] w fun e w' => e = .returned (.tuple #[.int .i64 0, .int .i64 0, .bool false]) ∧ w = w' := by
  have HK := Lib.hid (hdKind_none x hx h w hS)
  have hne : ((kindN x : Int) == 1) = false := by
    have : kindN x = 2 ∨ kindN x = 0 := by unfold kindN; split <;> simp
    rcases this with e | e <;> rw [e] <;> rfl
  have hne2 : ((kindN x : Int) != 1) = true := by simp only [bne, hne]; rfl
  generalize kindN x = kk at *
  clear h
  go_enter Tryz.func155, Tryz.ntmps155
  go_wp2_with (go_at_call 191; refine HK.out.mono ?_; rintro e w1 ⟨rfl, rfl⟩)
  go_ret3
  exact ⟨rfl, rfl⟩
end Go.Proofs.YtjdnkhljgnjkcaaGreatDoor
