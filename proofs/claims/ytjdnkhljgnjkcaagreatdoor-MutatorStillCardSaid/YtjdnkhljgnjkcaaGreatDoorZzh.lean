/- Parts of a walk, put together by a small program of mine from texts of their own: Bits2 Header3 HeapPlain SetF HeapTell. -/
import Derived.Test.YtjdnkhljgnjkcaaGreatDoorZze
import Derived.Test.YtjdnkhljgnjkcaaGreatDoorZzc
import Derived.Lib.SliceRun
import Derived.Deep.RegionHeld3
import Derived.Test.YtjdnkhljgnjkcaaGreatDoorZza
import Derived.Test.YtjdnkhljgnjkcaaGreatDoorZzd
/- Sets of numbers: Copy. -/
namespace Go.Proofs.YtjdnkhljgnjkcaaGreatDoor
open Go.RowKit

theorem own_some {w : World} {base n : Nat} {e : TypeId} {v : Value} {xs : List Value} (h : w.ownsRow base e 1 v n xs) (h1 : 1 ≤ n) : ∃ g cap, v = .slice (some ⟨g, 0, none⟩) n cap ∧ base ≤ g := by
  rcases h.2 with ⟨rfl, h0⟩ | ⟨g, cap, cur, rfl, hb, _⟩
  · omega
  · exact ⟨g, cap, rfl, hb⟩
set_option maxRecDepth 10000 in
set_option maxHeartbeats 400000 in
theorem cloneU_cells (ad : Addr) (n c : Nat) (xs : List Value) (w : World) (h : Cells w (some ad) n xs) (hm : n ≤ 4000000000) (h1 : ∀ u ∈ xs, u.oneCell' = true) :
    Calls Tryz.prog 127 #[.slice (some ad) n c] w fun e w' => ∃ v', e = .returned v' ∧ w'.ownsRow w.heap.size 139 1 v' n xs ∧ Keep none_ w w' := by
  obtain ⟨rfl, hc⟩ := h
  have hn := fun w => Lib.run_eql_slice_nil (P := Tryz.prog) w 175 139 (some ad) xs.length c 0 0 (by kernel_rfl)
  obtain ⟨i0, hi1, hi2, hi3, hi4⟩ := info_parts Tryz.infoU
  have hw0 : ∀ w : World, (w.alloc (.cells #[] 139)).ownsRow w.heap.size 139 1 (.slice (some ⟨w.heap.size, 0, none⟩) 0 0) 0 [] := fun w => World.ownsRow_made w #[] 0 (Nat.le_refl _) (by decide) rfl
  have hcell : ∀ (j : Nat) (u : Value), xs[j]? = some u → (w.alloc (.cells #[] 139)).cell? (ad.add j) = some u := fun j u hj => by
    have hjl := (List.getElem?_eq_some_iff.1 hj).1
    obtain ⟨b, off, e, hx⟩ := hc (by omega)
    injection e with e
    subst e
    have hcl := hx j u hj
    have ea : (⟨b, off, none⟩ : Addr).add j = ⟨b, off + j, none⟩ := by simp only [Addr.add]; split <;> simp_all
    rw [ea, World.cell?_alloc_lt _ _ _ (World.block_lt_of_cell? _ _ hcl)]
    exact hcl
  have HC := Lib.hid hcell
  have HU := Lib.hid h1
  clear hcell hc h1
  go_enter Tryz.func127, Tryz.ntmps127
  go_wp2_with (at_builtin; refine wpList_append_own _ rfl _ _ 175 rfl w.heap.size 139 i0 (.int .u64 0) 1 8 (by kernel_rfl) hi1 hi2 hi3 hi4 rfl (by decide) _ _ _ rfl (hw0 w) ad xs.length c xs rfl (by simp) HC.out HU.out (by unfold maxLen; omega) (by omega) (by simp) ?_; intro v' w1 hown hgr _)
  have hown' : w1.ownsRow w.heap.size 139 1 v' xs.length xs := by simpa using hown
  have hkeep : Keep none_ w w1 := ((Keep.refl none_ w).alloc _).grown hgr (fun k e hk => absurd hk (by have e' : w.heap.size = k := Option.some.inj e; omega))
  clear hown hgr
  go_wp2
  go_ret
  exact ⟨_, rfl, hown', hkeep⟩
section
variable {w w' : World} {B X size : Nat} {W : List Nat}
theorem SetAt.cells (h : SetAt w B X size W) : Cells w (some ⟨X, 0, none⟩) W.length (wordsV W) := by
  obtain ⟨cur, h2, h3⟩ := h.wds
  refine ⟨by simp [wordsV], fun _ => ⟨X, 0, rfl, fun j u hj => ?_⟩⟩
  rw [Nat.zero_add]
  exact h2.cell j (h3 j u hj)
set_option maxRecDepth 10000 in
set_option maxHeartbeats 1000000 in
theorem bCopy_any (h : SetAt w B X size W) (h1 : 1 ≤ size) : Calls Tryz.prog 91 #[.pointer (some ⟨B, 0, none⟩)] w fun e w' => ∃ B' X', e = .returned (.pointer (some ⟨B', 0, none⟩)) ∧ SetAt w' B' X' size W ∧ w.heap.size ≤ B' ∧ w.heap.size ≤ X' ∧ Keep none_ w w' := by
  obtain ⟨cap, hb⟩ := h.blk
  have y0 := hb.cell 0 rfl
  have y1 := hb.cell 1 rfl
  have hlen := h.len
  have hsz := h.sz
  have HC := Lib.hid (cloneU_cells ⟨X, 0, none⟩ W.length cap (wordsV W) w.drew (h.still (k := (Keep.refl none_ w).drew)).cells (by omega) (fun u hu => by obtain ⟨z, _, rfl⟩ := List.mem_map.1 hu; rfl))
  have H := Lib.hid h
  have HL1 : Hid (1 ≤ W.length) := by unfold Hid; omega
  generalize hWL : W.length = wl at *
  have HWL := Lib.hid hWL
  clear h hb hlen hsz h1 hWL
  go_enter Tryz.func91, Tryz.ntmps91
  go_wp2_with fail
  go_region_held3 (fun w' => w'.cell? ⟨B, 0, none⟩ = some (.slice (some ⟨X, 0, none⟩) wl cap) ∧ w'.cell? ⟨B, 1, none⟩ = some (.int .i64 (size : Int)))
    (first | exact ⟨y0, y1⟩ | exact ⟨HK1.out.still y0, HK1.out.still y1⟩ | exact ⟨(HK1.out.alloc _).still y0, (HK1.out.alloc _).still y1⟩ | fail "SFAIL")
    ((go_at_call 127
      refine HC.out.mono ?_
      rintro e w1 ⟨v, rfl, hown, hk1⟩
      obtain ⟨g, cp, rfl, hge⟩ := own_some hown HL1.out
      have HGE := Lib.hid hge
      have HOWN := Lib.hid hown
      have HK1 := Lib.hid ((Keep.refl none_ w).drew.trans hk1)
      clear hown hk1 hge))
  obtain ⟨W2, hW2⟩ : ∃ W', W' = w1.alloc (.cells #[.slice (some ⟨g, 0, none⟩) wl cp, .int .i64 (size : Int)] 177) := ⟨_, rfl⟩
  rw [← hW2]
  go_wp2_with fail
  go_ret
  have hk2 : Keep none_ w1 W2 := by rw [hW2]; exact (Keep.refl _ _).alloc _
  refine ⟨w1.heap.size, g, rfl, ⟨⟨cp, ?_⟩, ?_, H.out.len, H.out.lt, H.out.sz⟩, HK1.out.size, HGE.out, HK1.out.trans hk2⟩
  · rw [hW2, HWL.out]; exact Blk.new w1 _ _
  · rcases HOWN.out.2 with ⟨h, _⟩ | ⟨g', cap', cur, hv, hb, hg, hn, hm, hs, hc⟩
    · cases h
    · cases hv
      refine ⟨cur.toList, hk2.blk (by unfold Blk; simpa using hg) (fun f => f), fun i v hi => ?_⟩
      rw [← hc] at hi
      have hl := (List.getElem?_eq_some_iff.1 hi).1
      rw [List.getElem?_take_of_lt (by simp at hl; omega)] at hi
      exact hi
end
end Go.Proofs.YtjdnkhljgnjkcaaGreatDoor

/- What a slot's first word says: Kind, Parse, of whatever word. -/
namespace Go.Proofs.YtjdnkhljgnjkcaaGreatDoor
open Go.RowKit

/-- What an object's header says. -/
def hdP (x : Nat) : Option (Nat × Nat) := if objOk (x / 256 % 256) (x % 256) ∧ objW (x / 256 % 256) (x % 256) = x then some (x / 256 % 256, x % 256) else none
theorem hdP_obj {c f : Nat} (h : objOk c f) : hdP (objW c f) = some (c, f) := by
  obtain ⟨_, _, _, _, h2, h3⟩ := objW_facts h
  unfold hdP
  rw [h2, h3, if_pos ⟨h, rfl⟩]
theorem hdP_some {x c f : Nat} (h : hdP x = some (c, f)) : objOk c f ∧ x = objW c f := by
  unfold hdP at h
  split at h
  · rename_i h1
    simp only [Option.some.injEq, Prod.mk.injEq] at h
    obtain ⟨rfl, rfl⟩ := h
    exact ⟨h1.1, h1.2.symm⟩
  · cases h
/-- A word that is no object's header. -/
theorem obj_no {x : Nat} (h : hdP x = none) (ho : objOk (x / 256 % 256) (x % 256)) : objW (x / 256 % 256) (x % 256) ≠ x := fun e => by
  unfold hdP at h
  rw [if_pos ⟨ho, e⟩] at h
  cases h
/-- What Kind says where it is no object. -/
def kindN (x : Nat) : Nat := if x % 72057594037927936 ≤ 1048576 ∧ linkW (x % 72057594037927936) = x then 2 else 0
theorem int_ne {a b : Nat} (h : a ≠ b) : ((a : Int) == (b : Int)) = false := by
  simp; omega
theorem int_eq {a b : Nat} (h : a = b) : ((a : Int) == (b : Int)) = true := by
  simp; omega
set_option maxRecDepth 4000 in
set_option maxHeartbeats 2000000 in
theorem hdKind_none (x : Nat) (hx : x < 216172782113783808) (h : hdP x = none) (w : World) (hS : Sizes w) : Calls Tryz.prog 191 #[.int .u64 (x : Int)] w fun e w' => e = .returned (.int .i64 (kindN x : Int)) ∧ w = w' := by
  have HP := Lib.hid (hdParts_any x (by omega) w)
  have HO := Lib.hid (hdObject_any (x / 256 % 256) (x % 256) (by omega) (by omega) w hS)
  have HA := Lib.hid (hdAddress_any x (by omega) w)
  have HL := Lib.hid (hdLink_any (x % 72057594037927936) (by omega) w)
  have hno := obj_no h
  -- the link's test
  have HLT : Hid (kindN x = if x % 72057594037927936 ≤ 1048576 ∧ linkW (x % 72057594037927936) = x then 2 else 0) := rfl
  have hkk : x / 72057594037927936 = 1 ∨ x / 72057594037927936 = 2 ∨ x / 72057594037927936 = 0 := by omega
  have hlink : x / 72057594037927936 ≠ 2 → ∀ a, linkW a ≠ x ∨ 72057594037927936 ≤ a := fun hk a => by
    rcases Nat.lt_or_ge a 72057594037927936 with h1 | h1
    · left; intro e; unfold linkW at e; omega
    · right; exact h1
  have hz : x / 72057594037927936 = 0 → kindN x = 0 := fun hk => by
    rw [HLT.out, if_neg]
    rintro ⟨_, h2⟩
    unfold linkW at h2; omega
  have h1' : x / 72057594037927936 = 1 → kindN x = 0 := fun hk => by
    rw [HLT.out, if_neg]
    rintro ⟨_, h2⟩
    unfold linkW at h2; omega
  rcases hkk with hk | hk | hk
  · have hke := kind_wrap x 1 hk
    rw [h1' hk]
    have HLN : Hid (x % 72057594037927936 ≤ 1048576 → ((linkW (x % 72057594037927936) : Int) == (x : Int)) = false) := fun _ => int_ne (fun e => by unfold linkW at e; omega)
    by_cases ho : objOk (x / 256 % 256) (x % 256)
    · have hne := int_ne (hno ho)
      rw [if_pos ho, decide_eq_true ho] at HO
      by_cases hl : x % 72057594037927936 ≤ 1048576
      · have hln := HLN.out hl
        rw [if_pos hl, decide_eq_true hl] at HL
        generalize x / 256 % 256 = c at *
        generalize x % 256 = f at *
        generalize x % 72057594037927936 = a at *
        generalize objW c f = ow at *
        generalize linkW a = lw at *
        clear h hno ho hl hz h1' hlink hk HLT HLN hS
        go_enter Tryz.func191, Tryz.ntmps191
        go_wp2_with (first | (go_at_call 192; refine HP.out.mono ?_; rintro e w1 ⟨rfl, rfl⟩) | (go_at_call 107; refine HO.out.mono ?_; rintro e w1 ⟨rfl, rfl⟩) | (go_at_call 193; refine HA.out.mono ?_; rintro e w1 ⟨rfl, rfl⟩) | (go_at_call 188; refine HL.out.mono ?_; rintro e w1 ⟨rfl, rfl⟩))
        go_ret
        exact ⟨rfl, rfl⟩
      · rw [if_neg hl, decide_eq_false hl] at HL
        generalize x / 256 % 256 = c at *
        generalize x % 256 = f at *
        generalize x % 72057594037927936 = a at *
        generalize objW c f = ow at *
        clear h hno ho hl hz h1' hlink hk HLT HLN hS
        go_enter Tryz.func191, Tryz.ntmps191
        go_wp2_with (first | (go_at_call 192; refine HP.out.mono ?_; rintro e w1 ⟨rfl, rfl⟩) | (go_at_call 107; refine HO.out.mono ?_; rintro e w1 ⟨rfl, rfl⟩) | (go_at_call 193; refine HA.out.mono ?_; rintro e w1 ⟨rfl, rfl⟩) | (go_at_call 188; refine HL.out.mono ?_; rintro e w1 ⟨rfl, rfl⟩))
        go_ret
        exact ⟨rfl, rfl⟩
    · rw [if_neg ho, decide_eq_false ho] at HO
      by_cases hl : x % 72057594037927936 ≤ 1048576
      · have hln := HLN.out hl
        rw [if_pos hl, decide_eq_true hl] at HL
        generalize x / 256 % 256 = c at *
        generalize x % 256 = f at *
        generalize x % 72057594037927936 = a at *
        generalize linkW a = lw at *
        clear h hno ho hl hz h1' hlink hk HLT HLN hS
        go_enter Tryz.func191, Tryz.ntmps191
        go_wp2_with (first | (go_at_call 192; refine HP.out.mono ?_; rintro e w1 ⟨rfl, rfl⟩) | (go_at_call 107; refine HO.out.mono ?_; rintro e w1 ⟨rfl, rfl⟩) | (go_at_call 193; refine HA.out.mono ?_; rintro e w1 ⟨rfl, rfl⟩) | (go_at_call 188; refine HL.out.mono ?_; rintro e w1 ⟨rfl, rfl⟩))
        go_ret
        exact ⟨rfl, rfl⟩
      · rw [if_neg hl, decide_eq_false hl] at HL
        generalize x / 256 % 256 = c at *
        generalize x % 256 = f at *
        generalize x % 72057594037927936 = a at *
        clear h hno ho hl hz h1' hlink hk HLT HLN hS
        go_enter Tryz.func191, Tryz.ntmps191
        go_wp2_with (first | (go_at_call 192; refine HP.out.mono ?_; rintro e w1 ⟨rfl, rfl⟩) | (go_at_call 107; refine HO.out.mono ?_; rintro e w1 ⟨rfl, rfl⟩) | (go_at_call 193; refine HA.out.mono ?_; rintro e w1 ⟨rfl, rfl⟩) | (go_at_call 188; refine HL.out.mono ?_; rintro e w1 ⟨rfl, rfl⟩))
        go_ret
        exact ⟨rfl, rfl⟩
  · have hke := kind_wrap x 2 hk
    by_cases hl : x % 72057594037927936 ≤ 1048576
    · rw [if_pos hl, decide_eq_true hl] at HL
      have hq : linkW (x % 72057594037927936) = x := by unfold linkW; omega
      have HR : Hid (kindN x = 2) := by unfold Hid; rw [HLT.out, if_pos ⟨hl, hq⟩]
      have hqe := int_eq hq
      rw [HR.out]
      generalize x % 72057594037927936 = a at *
      generalize linkW a = lw at *
      clear h hno hl hz h1' hlink hk HLT hS HO HP hq HR
      go_enter Tryz.func191, Tryz.ntmps191
      go_wp2_with (first | (go_at_call 193; refine HA.out.mono ?_; rintro e w1 ⟨rfl, rfl⟩) | (go_at_call 188; refine HL.out.mono ?_; rintro e w1 ⟨rfl, rfl⟩))
      go_ret
      exact ⟨rfl, rfl⟩
    · rw [if_neg hl, decide_eq_false hl] at HL
      have HR : Hid (kindN x = 0) := by unfold Hid; rw [HLT.out, if_neg (fun e => hl e.1)]
      rw [HR.out]
      generalize x % 72057594037927936 = a at *
      clear h hno hl hz h1' hlink hk HLT hS HO HP HR
      go_enter Tryz.func191, Tryz.ntmps191
      go_wp2_with (first | (go_at_call 193; refine HA.out.mono ?_; rintro e w1 ⟨rfl, rfl⟩) | (go_at_call 188; refine HL.out.mono ?_; rintro e w1 ⟨rfl, rfl⟩))
      go_ret
      exact ⟨rfl, rfl⟩
  · have hke := kind_wrap x 0 hk
    rw [hz hk]
    clear h hno hz h1' hlink hk HLT hS HO HP HA HL
    go_enter Tryz.func191, Tryz.ntmps191
    go_wp2_with fail
    go_ret
    exact ⟨rfl, rfl⟩
set_option maxRecDepth 4000 in
set_option maxHeartbeats 1000000 in
theorem hdParse_none (x : Nat) (hx : x < 216172782113783808) (h : hdP x = none) (w : World) (hS : Sizes w) : Calls Tryz.prog 155 #[.int .u64 (x : Int)] w fun e w' => e = .returned (.tuple #[.int .i64 0, .int .i64 0, .bool false]) ∧ w = w' := by
  have HK := Lib.hid (hdKind_none x hx h w hS)
  have hne : ((kindN x : Int) == 1) = false := by
    have : kindN x = 2 ∨ kindN x = 0 := by unfold kindN; split <;> simp
    rcases this with e | e <;> rw [e] <;> rfl
  have hne2 : ((kindN x : Int) != 1) = true := by simp only [bne, hne]; rfl
  generalize kindN x = kk at *
  clear h
  go_enter Tryz.func155, Tryz.ntmps155
  go_wp2_with (go_at_call 191; refine HK.out.mono ?_; rintro e w1 ⟨rfl, rfl⟩)
  go_ret3
  exact ⟨rfl, rfl⟩
end Go.Proofs.YtjdnkhljgnjkcaaGreatDoor

/- A heap, plainly: slots that are objects, or free, or in somebody's hand. Without a program. -/
namespace Go.Proofs.YtjdnkhljgnjkcaaGreatDoor

theorem lset_same {W : List Nat} {i : Nat} (h : i < W.length) (x : Nat) : (W.set i x).getD i 0 = x := by
  rw [List.getD_eq_getElem?_getD, List.getElem?_set_self h]; rfl
theorem lset_ne {W : List Nat} {i j : Nat} (h : i ≠ j) (x : Nat) : (W.set i x).getD j 0 = W.getD j 0 := by
  rw [List.getD_eq_getElem?_getD, List.getElem?_set_ne h, ← List.getD_eq_getElem?_getD]
/-- What a heap is: its config, how many blocks and words of a block, the words, one more than each block's class, the free slots of each class, what is born, what has color 1, the cells. -/
structure HS where
  c : Conf
  b : Nat
  ww : Nat
  A : List Nat
  K : List Nat
  fr : List (List Nat)
  bn : Nat → Bool
  co : Nat → Bool
  cells : List Nat
def HS.n (H : HS) : Nat := H.b * H.ww
def HS.sz (H : HS) : Nat := H.b * H.ww + 1
def HS.row (H : HS) (k : Nat) : List Nat := H.fr.getD k []
def HS.inn (H : HS) (a : Nat) : Bool := H.fr.any fun l => l.contains a
def HS.F (H : HS) : List Nat := H.fr.map fun l => l.headD 0
/-- The owner of words: which block and class a slot's first word has. -/
def ownerF (b ww : Nat) (K : List Nat) (a : Nat) : Option (Nat × Nat) :=
  if 1 ≤ a ∧ a ≤ b * ww ∧ K.getD ((a - 1) / ww) 0 ≠ 0 ∧ (a - 1) % ww % 2 ^ K.getD ((a - 1) / ww) 0 = 0 ∧ (a - 1) % ww / 2 ^ K.getD ((a - 1) / ww) 0 < ww / 2 ^ K.getD ((a - 1) / ww) 0
  then some ((a - 1) / ww, K.getD ((a - 1) / ww) 0 - 1) else none
def HS.owner (H : HS) (a : Nat) : Option (Nat × Nat) := ownerF H.b H.ww H.K a
def wordF (A : List Nat) (a : Nat) : Nat := if 1 ≤ a then A.getD (a - 1) 0 else 0
def HS.word (H : HS) (a : Nat) : Nat := wordF H.A a
/-- An object's fields by its header. -/
def HS.hdr (H : HS) (a : Nat) : Option Nat := (hdP (H.word a)).map (·.2)
def HS.hand (H : HS) (a : Nat) : Bool := (H.owner a).isSome && !H.bn a && !H.inn a
def HS.isO (H : HS) (a : Nat) : Bool := H.bn a || (H.hand a && (H.hdr a).isSome)
def HS.nf (H : HS) (a : Nat) : Nat := (H.hdr a).getD 0
/-- What is wrong with an object's address. -/
def HS.objE (H : HS) (a : Nat) : Nat := if a = 0 then 6 else if H.isO a then 0 else 1
def upd (s : Nat → Bool) (a : Nat) (v : Bool) : Nat → Bool := fun x => if x = a then v else s x

/-- Words of free slots go each to the next one. -/
def Linked (wd : Nat → Nat) : List Nat → Prop
  | [] => True
  | a :: l => wd a = linkW (l.headD 0) ∧ Linked wd l
theorem Linked.congr {wd wd' : Nat → Nat} : ∀ {l : List Nat}, Linked wd l → (∀ a ∈ l, wd' a = wd a) → Linked wd' l
  | [], _, _ => trivial
  | a :: l, h, e => ⟨(e a (by simp)).trans h.1, Linked.congr h.2 (fun x hx => e x (by simp [hx]))⟩

theorem owner_some {b ww : Nat} {K : List Nat} {a B k : Nat} (h : ownerF b ww K a = some (B, k)) :
    1 ≤ a ∧ a ≤ b * ww ∧ B = (a - 1) / ww ∧ K.getD B 0 = k + 1 ∧ (a - 1) % ww % 2 ^ (k + 1) = 0 ∧ (a - 1) % ww / 2 ^ (k + 1) < ww / 2 ^ (k + 1) := by
  unfold ownerF at h
  split at h
  · rename_i hc
    simp only [Option.some.injEq, Prod.mk.injEq] at h
    obtain ⟨rfl, rfl⟩ := h
    have e : K.getD ((a - 1) / ww) 0 - 1 + 1 = K.getD ((a - 1) / ww) 0 := by omega
    rw [e]
    exact ⟨hc.1, hc.2.1, rfl, rfl, hc.2.2.2.1, hc.2.2.2.2⟩
  · cases h
theorem owner_mk {b ww : Nat} {K : List Nat} {a B k : Nat} (h1 : 1 ≤ a) (h2 : a ≤ b * ww) (hB : B = (a - 1) / ww) (hK : K.getD B 0 = k + 1) (h3 : (a - 1) % ww % 2 ^ (k + 1) = 0) (h4 : (a - 1) % ww / 2 ^ (k + 1) < ww / 2 ^ (k + 1)) : ownerF b ww K a = some (B, k) := by
  subst hB
  unfold ownerF
  rw [hK, if_pos ⟨h1, h2, by omega, h3, h4⟩]
  simp
theorem owner_set {b ww : Nat} {K : List Nat} {a B0 : Nat} (k : Nat) (h0 : K.getD B0 0 = 0) {B q : Nat} (h : ownerF b ww K a = some (B, q)) : ownerF b ww (K.set B0 (k + 1)) a = some (B, q) := by
  obtain ⟨h1, h2, h3, h4, h5, h6⟩ := owner_some h
  have hne : B0 ≠ B := fun e => by rw [e, h4] at h0; omega
  refine owner_mk h1 h2 h3 ?_ h5 h6
  rw [lset_ne hne]; exact h4
/-- Of which address an owner comes newly. -/
theorem owner_unset {b ww : Nat} {K : List Nat} {a B0 k B q : Nat} (h : ownerF b ww (K.set B0 (k + 1)) a = some (B, q)) (hB : B ≠ B0) : ownerF b ww K a = some (B, q) := by
  obtain ⟨h1, h2, h3, h4, h5, h6⟩ := owner_some h
  rw [lset_ne (Ne.symm hB)] at h4
  exact owner_mk h1 h2 h3 h4 h5 h6
/-- A slot's other words have no owner. -/
theorem owner_field {b ww : Nat} {K : List Nat} {a B k : Nat} (h : ownerF b ww K a = some (B, k)) (j : Nat) (h1 : 1 ≤ j) (h2 : j < 2 ^ (k + 1)) : ownerF b ww K (a + j) = none ∧ a + j ≤ b * ww ∧ K.getD ((a + j - 1) / ww) 0 ≠ 0 := by
  obtain ⟨g1, g2, g3, g4, g5, g6⟩ := owner_some h
  have hz : 0 < 2 ^ (k + 1) := Nat.two_pow_pos _
  generalize hz2 : 2 ^ (k + 1) = z at *
  have hw : 0 < ww := by
    rcases Nat.eq_zero_or_pos ww with e | e
    · subst e; simp at g6
    · exact e
  have hm := Nat.div_add_mod ((a - 1) % ww) z
  have hm2 := Nat.div_add_mod (a - 1) ww
  have hwz := Nat.div_mul_le_self ww z
  have hs : ((a - 1) % ww / z + 1) * z ≤ ww / z * z := Nat.mul_le_mul_right _ g6
  have hs2 : ((a - 1) % ww / z + 1) * z = (a - 1) % ww / z * z + z := by rw [Nat.add_mul, Nat.one_mul]
  have hs3 : z * ((a - 1) % ww / z) = (a - 1) % ww / z * z := Nat.mul_comm _ _
  have hlt : (a - 1) % ww + j < ww := by omega
  have e1 : (a + j - 1) / ww = (a - 1) / ww := by
    rw [show a + j - 1 = (a - 1) % ww + j + ww * ((a - 1) / ww) by omega, Nat.add_mul_div_left _ _ hw, Nat.div_eq_of_lt hlt, Nat.zero_add]
  have e2 : (a + j - 1) % ww = (a - 1) % ww + j := by
    rw [show a + j - 1 = (a - 1) % ww + j + ww * ((a - 1) / ww) by omega, Nat.add_mul_mod_self_left, Nat.mod_eq_of_lt hlt]
  have e3 : ((a - 1) % ww + j) % z = j := by
    have : (a - 1) % ww = z * ((a - 1) % ww / z) := by omega
    rw [this, Nat.mul_add_mod, Nat.mod_eq_of_lt h2]
  refine ⟨?_, ?_, ?_⟩
  · unfold ownerF
    rw [e1, e2, ← g3, g4, hz2, e3]
    rw [if_neg (by omega)]
  rotate_left
  · rw [e1, ← g3, g4]; omega
  · have hB : (a - 1) / ww < b := by
      rw [Nat.div_lt_iff_lt_mul hw]; omega
    have h9 : ((a - 1) / ww + 1) * ww ≤ b * ww := Nat.mul_le_mul_right _ hB
    have h8 : ((a - 1) / ww + 1) * ww = (a - 1) / ww * ww + ww := by rw [Nat.add_mul, Nat.one_mul]
    have h7 : ww * ((a - 1) / ww) = (a - 1) / ww * ww := Nat.mul_comm _ _
    omega
theorem word_set {A : List Nat} {a : Nat} (h1 : 1 ≤ a) (h2 : a ≤ A.length) (x y : Nat) : wordF (A.set (a - 1) x) y = if y = a then x else wordF A y := by
  unfold wordF
  by_cases hy : y = a
  · subst hy
    rw [if_pos h1, if_pos rfl, lset_same (by omega)]
  · rw [if_neg hy]
    by_cases h0 : 1 ≤ y
    · rw [if_pos h0, if_pos h0, lset_ne (by omega)]
    · rw [if_neg h0, if_neg h0]
theorem word_le {A : List Nat} {N : Nat} (h : ∀ x ∈ A, x < N) (h0 : 0 < N) (a : Nat) : wordF A a < N := by
  unfold wordF
  split
  · rcases Nat.lt_or_ge (a - 1) A.length with h1 | h1
    · rw [List.getD_eq_getElem?_getD, List.getElem?_eq_getElem h1]
      exact h _ (List.getElem_mem h1)
    · rw [List.getD_eq_getElem?_getD, List.getElem?_eq_none h1]; exact h0
  · exact h0

/-- The greatest word but one: behind links. -/
def wordTop : Nat := 216172782113783808
/-- A heap goes well: what is free is threaded, what is born has a header. -/
structure HInv (H : HS) : Prop where
  alen : H.A.length = H.b * H.ww
  nle : H.b * H.ww ≤ 1048576
  k4 : ∀ x ∈ H.K, x ≤ 4
  small : ∀ x ∈ H.A, x < wordTop
  flen : H.fr.length = 4
  chain : ∀ k, k < 4 → Linked H.word (H.row k)
  nodup : ∀ k, k < 4 → (H.row k).Nodup
  frown : ∀ k, k < 4 → ∀ a ∈ H.row k, H.bn a = false ∧ ∃ B, H.owner a = some (B, k)
  born : ∀ a, H.bn a = true → ∃ B k f, H.owner a = some (B, k) ∧ objOk k f ∧ H.word a = objW k f
  slot : ∀ a B k, H.owner a = some (B, k) → H.word a = 0 ∨ (∃ x, x ≤ 1048576 ∧ H.word a = linkW x) ∨ ∃ f, objOk k f ∧ H.word a = objW k f
  cval : ∀ x ∈ H.cells, x ≤ H.b * H.ww
  zero : ∀ a, 1 ≤ a → a ≤ H.b * H.ww → H.K.getD ((a - 1) / H.ww) 0 = 0 → H.word a = 0
section
variable {H : HS}
theorem HInv.cls (h : HInv H) {a B k : Nat} (ho : H.owner a = some (B, k)) : k < 4 := by
  obtain ⟨_, _, _, h4, _⟩ := owner_some ho
  have : H.K.getD B 0 ≤ 4 := by
    rcases Nat.lt_or_ge B H.K.length with h1 | h1
    · rw [List.getD_eq_getElem?_getD, List.getElem?_eq_getElem h1]
      exact h.k4 _ (List.getElem_mem h1)
    · rw [List.getD_eq_getElem?_getD, List.getElem?_eq_none h1]; exact Nat.zero_le _
  omega
theorem own_asg {a B k : Nat} (ho : H.owner a = some (B, k)) : H.K.getD ((a - 1) / H.ww) 0 ≠ 0 := by
  obtain ⟨_, _, h3, h4, _⟩ := owner_some ho
  rw [← h3, h4]; omega
theorem HS.row_eq (H : HS) {k : Nat} (hl : H.fr.length = 4) (hk : k < 4) : H.row k = H.fr[k]'(by omega) := by
  unfold HS.row
  rw [List.getD_eq_getElem?_getD, List.getElem?_eq_getElem (by omega)]; rfl
theorem HInv.inn (h : HInv H) {a : Nat} : H.inn a = true ↔ ∃ k, k < 4 ∧ a ∈ H.row k := by
  have hl := h.flen
  unfold HS.inn
  rw [List.any_eq_true]
  constructor
  · rintro ⟨l, hl1, hl2⟩
    obtain ⟨k, hk, rfl⟩ := List.mem_iff_getElem.1 hl1
    exact ⟨k, by omega, by rw [H.row_eq hl (by omega)]; simpa using hl2⟩
  · rintro ⟨k, hk, hm⟩
    rw [H.row_eq hl hk] at hm
    exact ⟨_, List.getElem_mem _, by simpa using hm⟩
theorem HInv.inn_no (h : HInv H) {a : Nat} (ha : H.inn a = false) {k : Nat} (hk : k < 4) : a ∉ H.row k := fun hm => by
  have := h.inn.2 ⟨k, hk, hm⟩
  rw [ha] at this; cases this
theorem HS.F_at (H : HS) (hl : H.fr.length = 4) {k : Nat} (hk : k < 4) : H.F.getD k 0 = (H.row k).headD 0 := by
  unfold HS.F
  rw [List.getD_eq_getElem?_getD, List.getElem?_map, List.getElem?_eq_getElem (by omega), H.row_eq hl hk]; rfl
theorem HInv.wlt (h : HInv H) (a : Nat) : H.word a < wordTop := word_le h.small (by decide) a
theorem row_set {H H' : HS} {k : Nat} {l : List Nat} (hf : H'.fr = H.fr.set k l) (hl : H.fr.length = 4) (hk : k < 4) (q : Nat) : H'.row q = if q = k then l else H.row q := by
  unfold HS.row
  rw [hf, List.getD_eq_getElem?_getD]
  by_cases e : q = k
  · subst e; rw [if_pos rfl, List.getElem?_set_self (by omega)]; rfl
  · rw [if_neg e, List.getElem?_set_ne (Ne.symm e), ← List.getD_eq_getElem?_getD]
/-! ### What is done -/
/-- A slot is put into its list. -/
def HS.put (H : HS) (a k : Nat) : HS := { H with A := H.A.set (a - 1) (linkW ((H.row k).headD 0)), fr := H.fr.set k (a :: H.row k) }
/-- A list's first slot is taken. -/
def HS.take (H : HS) (k : Nat) : HS := { H with fr := H.fr.set k (H.row k).tail }
/-- A class gets a block. -/
def HS.assign (H : HS) (B k : Nat) : HS := { H with K := H.K.set B (k + 1) }
/-- A slot's header is laid. -/
def HS.begin (H : HS) (a k f : Nat) : HS := { H with A := H.A.set (a - 1) (objW k f) }
/-- A slot in hand becomes an object. -/
def HS.bear (H : HS) (a : Nat) (c : Bool) : HS := { H with bn := upd H.bn a true, co := upd H.co a c }
/-- An object becomes a slot in hand. -/
def HS.kill (H : HS) (a : Nat) : HS := { H with bn := upd H.bn a false }
/-- A word is laid. -/
def HS.lay (H : HS) (x v : Nat) : HS := { H with A := H.A.set (x - 1) v }
def HS.paint (H : HS) (a : Nat) (c : Bool) : HS := { H with co := upd H.co a c }
def HS.setCell (H : HS) (i v : Nat) : HS := { H with cells := H.cells.set i v }

theorem link_small {x : Nat} (h : x ≤ 1048576) : linkW x < wordTop := (linkW_facts h).1
theorem HInv.head_le (h : HInv H) {k : Nat} (hk : k < 4) : (H.row k).headD 0 ≤ 1048576 := by
  cases hr : H.row k with
  | nil => exact Nat.zero_le _
  | cons a l =>
    obtain ⟨_, B, ho⟩ := h.frown k hk a (by rw [hr]; simp)
    have := (owner_some ho).2.1
    have := h.nle
    simp; omega
theorem HInv.put (h : HInv H) {a B k : Nat} (ho : H.owner a = some (B, k)) (hb : H.bn a = false) (hi : H.inn a = false) : HInv (H.put a k) := by
  have hk := h.cls ho
  obtain ⟨o1, o2, _⟩ := owner_some ho
  have hal : a ≤ H.A.length := by have := h.alen; omega
  have hw : ∀ y, (H.put a k).word y = if y = a then linkW ((H.row k).headD 0) else H.word y := fun y => word_set o1 hal _ y
  have hrow := row_set (H := H) (H' := H.put a k) rfl h.flen hk
  have hhd := h.head_le hk
  refine ⟨by simpa [HS.put] using h.alen, h.nle, h.k4, ?_, by simpa [HS.put] using h.flen, ?_, ?_, ?_, ?_, ?_, h.cval, fun y y1 y2 y3 => by rw [hw, if_neg (fun e : y = a => own_asg ho (by rw [← e]; exact y3))]; exact h.zero y y1 y2 y3⟩
  · intro x hx
    rcases List.mem_or_eq_of_mem_set hx with h1 | rfl
    · exact h.small x h1
    · exact link_small hhd
  · intro q hq
    rw [hrow q]
    have hc : ∀ l : List Nat, a ∉ l → Linked H.word l → Linked (H.put a k).word l := fun l hl hL => hL.congr fun x hx => by rw [hw, if_neg (fun e : x = a => hl (by rw [← e]; exact hx))]
    split
    · rename_i e; subst e
      exact ⟨by rw [hw, if_pos rfl], hc _ (h.inn_no hi hq) (h.chain q hq)⟩
    · exact hc _ (h.inn_no hi hq) (h.chain q hq)
  · intro q hq
    rw [hrow q]
    split
    · rename_i e; subst e
      exact List.nodup_cons.2 ⟨h.inn_no hi hq, h.nodup q hq⟩
    · exact h.nodup q hq
  · intro q hq x hx
    rw [hrow q] at hx
    split at hx
    · rename_i e; subst e
      rcases List.mem_cons.1 hx with rfl | hx
      · exact ⟨hb, B, ho⟩
      · exact h.frown q hq x hx
    · exact h.frown q hq x hx
  · intro x hx
    obtain ⟨B', k', f, h1, h2, h3⟩ := h.born x hx
    refine ⟨B', k', f, h1, h2, ?_⟩
    rw [hw, if_neg (fun e => ?_)]
    · exact h3
    · subst e
      rw [show (H.put x k).bn x = H.bn x from rfl, hb] at hx
      cases hx
  · intro x B' k' hx
    rw [hw]
    split
    · exact .inr (.inl ⟨_, hhd, rfl⟩)
    · exact h.slot x B' k' hx
theorem HInv.take (h : HInv H) {k : Nat} (hk : k < 4) : HInv (H.take k) := by
  have hrow := row_set (H := H) (H' := H.take k) rfl h.flen hk
  refine ⟨h.alen, h.nle, h.k4, h.small, by simpa [HS.take] using h.flen, ?_, ?_, ?_, h.born, h.slot, h.cval, h.zero⟩
  · intro q hq
    rw [hrow q]
    split
    · have := h.chain k hk
      revert this
      cases H.row k with
      | nil => exact fun _ => trivial
      | cons a l => exact fun h => h.2
    · exact h.chain q hq
  · intro q hq
    rw [hrow q]
    split
    · have := h.nodup k hk
      revert this
      cases H.row k with
      | nil => exact fun h => h
      | cons a l => exact fun h => (List.nodup_cons.1 h).2
    · exact h.nodup q hq
  · intro q hq x hx
    rw [hrow q] at hx
    split at hx
    · rename_i e; subst e
      exact h.frown q hq x (List.mem_of_mem_tail hx)
    · exact h.frown q hq x hx
/-- What is taken. -/
theorem HInv.taken (h : HInv H) {k a : Nat} {l : List Nat} (hk : k < 4) (hr : H.row k = a :: l) : H.word a = linkW (l.headD 0) ∧ (∃ B, H.owner a = some (B, k)) ∧ H.bn a = false ∧ H.inn a = true ∧ l.headD 0 ≤ 1048576 := by
  have hc := h.chain k hk
  have ho := h.frown k hk a (by rw [hr]; simp)
  have hi := h.inn.2 ⟨k, hk, show a ∈ H.row k by rw [hr]; simp⟩
  refine ⟨by rw [hr] at hc; exact hc.1, ho.2, ho.1, hi, ?_⟩
  have := (h.take hk).head_le hk
  rw [row_set (H := H) (H' := H.take k) rfl h.flen hk, if_pos rfl, hr] at this
  exact this
theorem HInv.inn_take (h : HInv H) {k a : Nat} {l : List Nat} (hk : k < 4) (hr : H.row k = a :: l) (x : Nat) : (H.take k).inn x = if x = a then false else H.inn x := by
  have hrow := row_set (H := H) (H' := H.take k) rfl h.flen hk
  have h' := h.take hk
  rw [Bool.eq_iff_iff, h'.inn]
  have hnd := h.nodup k hk
  rw [hr] at hnd hrow
  split
  · rename_i e; subst e
    simp only [Bool.false_eq_true, iff_false]
    rintro ⟨q, hq, hm⟩
    rw [hrow q] at hm
    split at hm
    · exact (List.nodup_cons.1 hnd).1 hm
    · rename_i hne
      have h1 := (h.frown q hq x hm).2
      have h2 := (h.frown k hk x (by rw [hr]; simp)).2
      obtain ⟨B, h1⟩ := h1
      obtain ⟨B', h2⟩ := h2
      rw [h1] at h2
      simp at h2
      exact hne h2.2
  · rename_i hne
    rw [h.inn]
    constructor
    · rintro ⟨q, hq, hm⟩
      rw [hrow q] at hm
      split at hm
      · rename_i e; subst e
        exact ⟨q, hq, by rw [hr]; exact List.mem_cons_of_mem _ hm⟩
      · exact ⟨q, hq, hm⟩
    · rintro ⟨q, hq, hm⟩
      refine ⟨q, hq, ?_⟩
      rw [hrow q]
      split
      · rename_i e; subst e
        rw [hr] at hm
        rcases List.mem_cons.1 hm with e | hm
        · exact absurd e hne
        · exact hm
      · exact hm
theorem HInv.inn_put (h : HInv H) {a B k : Nat} (ho : H.owner a = some (B, k)) (hb : H.bn a = false) (hi : H.inn a = false) (x : Nat) : (H.put a k).inn x = if x = a then true else H.inn x := by
  have hk := h.cls ho
  have hrow := row_set (H := H) (H' := H.put a k) rfl h.flen hk
  have h' := h.put ho hb hi
  rw [Bool.eq_iff_iff, h'.inn]
  split
  · rename_i e; subst e
    simp only [iff_true]
    exact ⟨k, hk, by rw [hrow k, if_pos rfl]; simp⟩
  · rename_i hne
    rw [h.inn]
    constructor
    · rintro ⟨q, hq, hm⟩
      rw [hrow q] at hm
      split at hm
      · rename_i e; subst e
        rcases List.mem_cons.1 hm with e | hm
        · exact absurd e hne
        · exact ⟨q, hq, hm⟩
      · exact ⟨q, hq, hm⟩
    · rintro ⟨q, hq, hm⟩
      refine ⟨q, hq, ?_⟩
      rw [hrow q]
      split
      · rename_i e; subst e; exact List.mem_cons_of_mem _ hm
      · exact hm
theorem HInv.assign (h : HInv H) {B k : Nat} (h0 : H.K.getD B 0 = 0) (hk : k < 4) : HInv (H.assign B k) := by
  have hz : ∀ a, 1 ≤ a → a ≤ H.b * H.ww → (a - 1) / H.ww = B → H.word a = 0 := fun a h1 h2 h3 => h.zero a h1 h2 (by rw [h3]; exact h0)
  have hown : ∀ {x B' q}, H.owner x = some (B', q) → (H.assign B k).owner x = some (B', q) := fun h => owner_set k h0 h
  refine ⟨h.alen, h.nle, ?_, h.small, h.flen, h.chain, h.nodup, ?_, ?_, ?_, h.cval, fun y y1 y2 y3 => h.zero y y1 y2 ?_⟩
  rotate_right
  · by_cases e : B = (y - 1) / H.ww
    · rw [← e]; exact h0
    · have y3' : (H.K.set B (k + 1)).getD ((y - 1) / H.ww) 0 = 0 := y3
      rwa [lset_ne e] at y3'
  · intro x hx
    rcases List.mem_or_eq_of_mem_set hx with h1 | rfl
    · exact h.k4 x h1
    · omega
  · intro q hq x hx
    obtain ⟨h1, B', h2⟩ := h.frown q hq x hx
    exact ⟨h1, B', hown h2⟩
  · intro x hx
    obtain ⟨B', k', f, h1, h2⟩ := h.born x hx
    exact ⟨B', k', f, hown h1, h2⟩
  · intro x B' q hx
    by_cases e : B' = B
    · obtain ⟨h1, h2, h3, _⟩ := owner_some hx
      exact .inl (hz x h1 h2 (h3.symm.trans e))
    · exact h.slot x B' q (owner_unset hx e)
theorem HInv.begin (h : HInv H) {a B k f : Nat} (ho : H.owner a = some (B, k)) (hb : H.bn a = false) (hi : H.inn a = false) (hf : objOk k f) : HInv (H.begin a k f) := by
  obtain ⟨o1, o2, _⟩ := owner_some ho
  have hal : a ≤ H.A.length := by have := h.alen; omega
  have hw : ∀ y, (H.begin a k f).word y = if y = a then objW k f else H.word y := fun y => word_set o1 hal _ y
  have hox := (objW_facts hf).2.2.1
  refine ⟨by simpa [HS.begin] using h.alen, h.nle, h.k4, ?_, h.flen, ?_, h.nodup, h.frown, ?_, ?_, h.cval, fun y y1 y2 y3 => by rw [hw, if_neg (fun e : y = a => own_asg ho (by rw [← e]; exact y3))]; exact h.zero y y1 y2 y3⟩
  · intro x hx
    rcases List.mem_or_eq_of_mem_set hx with h1 | rfl
    · exact h.small x h1
    · unfold wordTop; omega
  · intro q hq
    exact (h.chain q hq).congr fun x hx => by rw [hw, if_neg (fun e : x = a => h.inn_no hi hq (by rw [← e]; exact hx))]
  · intro x hx
    obtain ⟨B', k', f', h1, h2, h3⟩ := h.born x hx
    refine ⟨B', k', f', h1, h2, ?_⟩
    rw [hw, if_neg (fun e => ?_)]
    · exact h3
    · subst e
      rw [show (H.begin x k f).bn x = H.bn x from rfl, hb] at hx
      cases hx
  · intro x B' k' hx
    rw [hw]
    split
    · rename_i e; subst e
      rw [show (H.begin x k f).owner x = H.owner x from rfl, ho] at hx
      cases hx
      exact .inr (.inr ⟨f, hf, rfl⟩)
    · exact h.slot x B' k' hx
theorem HInv.hdr_own (h : HInv H) {a B k m : Nat} (ho : H.owner a = some (B, k)) (hm : H.hdr a = some m) : objOk k m ∧ H.word a = objW k m := by
  unfold HS.hdr at hm
  rcases h.slot a B k ho with h1 | ⟨x, hx, h1⟩ | ⟨f, hf, h1⟩
  · rw [h1] at hm; cases hm
  · rw [h1] at hm
    cases hp : hdP (linkW x) with
    | none => rw [hp] at hm; cases hm
    | some cf =>
      obtain ⟨c, f⟩ := cf
      have h2 := hdP_some hp
      have h3 := (objW_facts h2.1).2.2.1
      have h4 := linkW_facts hx
      have : 144115188075855872 ≤ linkW x := by unfold linkW; omega
      omega
  · rw [h1, hdP_obj hf] at hm
    cases hm
    exact ⟨hf, h1⟩
theorem HInv.bear (h : HInv H) {a B k m : Nat} (c : Bool) (ho : H.owner a = some (B, k)) (hi : H.inn a = false) (hm : H.hdr a = some m) : HInv (H.bear a c) := by
  refine ⟨h.alen, h.nle, h.k4, h.small, h.flen, h.chain, h.nodup, ?_, ?_, h.slot, h.cval, h.zero⟩
  · intro q hq x hx
    obtain ⟨h1, h2⟩ := h.frown q hq x hx
    refine ⟨?_, h2⟩
    show upd H.bn a true x = false
    unfold upd
    rw [if_neg (fun e : x = a => h.inn_no hi hq (by rw [← e]; exact hx))]
    exact h1
  · intro x hx
    by_cases e : x = a
    · subst e
      obtain ⟨h1, h2⟩ := h.hdr_own ho hm
      exact ⟨B, k, m, ho, h1, h2⟩
    · have hx' : upd H.bn a true x = true := hx
      unfold upd at hx'
      rw [if_neg e] at hx'
      exact h.born x hx'
theorem HInv.kill (h : HInv H) (a : Nat) : HInv (H.kill a) := by
  refine ⟨h.alen, h.nle, h.k4, h.small, h.flen, h.chain, h.nodup, ?_, ?_, h.slot, h.cval, h.zero⟩
  · intro q hq x hx
    obtain ⟨h1, h2⟩ := h.frown q hq x hx
    refine ⟨?_, h2⟩
    show upd H.bn a false x = false
    unfold upd
    split
    · rfl
    · exact h1
  · intro x hx
    have hx' : upd H.bn a false x = true := hx
    unfold upd at hx'
    split at hx'
    · cases hx'
    · exact h.born x hx'
theorem HInv.paint (h : HInv H) (a : Nat) (c : Bool) : HInv (H.paint a c) := ⟨h.alen, h.nle, h.k4, h.small, h.flen, h.chain, h.nodup, h.frown, h.born, h.slot, h.cval, h.zero⟩
theorem HInv.setCell (h : HInv H) (i v : Nat) (hv : v ≤ H.b * H.ww) : HInv (H.setCell i v) := by
  refine ⟨h.alen, h.nle, h.k4, h.small, h.flen, h.chain, h.nodup, h.frown, h.born, h.slot, ?_, h.zero⟩
  intro x hx
  rcases List.mem_or_eq_of_mem_set hx with h1 | rfl
  · exact h.cval x h1
  · exact hv
/-- An object's, or a begun slot's, owner and header. -/
theorem HInv.obj (h : HInv H) {a : Nat} (ha : H.isO a = true) : ∃ B k m, H.owner a = some (B, k) ∧ objOk k m ∧ H.word a = objW k m ∧ H.hdr a = some m ∧ H.nf a = m := by
  have key : ∀ B k m, H.owner a = some (B, k) → objOk k m → H.word a = objW k m → ∃ B k m, H.owner a = some (B, k) ∧ objOk k m ∧ H.word a = objW k m ∧ H.hdr a = some m ∧ H.nf a = m := fun B k m h1 h2 h3 => by
    have h4 : H.hdr a = some m := by unfold HS.hdr; rw [h3, hdP_obj h2]; rfl
    exact ⟨B, k, m, h1, h2, h3, h4, by unfold HS.nf; rw [h4]; rfl⟩
  unfold HS.isO at ha
  rcases Bool.or_eq_true_iff.1 ha with hb | hh
  · obtain ⟨B, k, f, h1, h2, h3⟩ := h.born a hb
    exact key B k f h1 h2 h3
  · obtain ⟨h1, h2⟩ := Bool.and_eq_true_iff.1 hh
    unfold HS.hand at h1
    simp only [Bool.and_eq_true] at h1
    obtain ⟨⟨B, k⟩, ho⟩ := Option.isSome_iff_exists.1 h1.1.1
    obtain ⟨m, hm⟩ := Option.isSome_iff_exists.1 h2
    obtain ⟨h3, h4⟩ := h.hdr_own ho hm
    exact key B k m ho h3 h4
/-- A field's word is there, and no slot's first one. -/
theorem HInv.field (h : HInv H) {a f : Nat} (ha : H.isO a = true) (hf : f < H.nf a) : H.owner (a + 1 + f) = none ∧ a + 1 + f ≤ H.b * H.ww ∧ 1 ≤ a ∧ H.K.getD ((a + 1 + f - 1) / H.ww) 0 ≠ 0 := by
  obtain ⟨B, k, m, ho, h2, _, _, h5⟩ := h.obj ha
  rw [h5] at hf
  have hk := h2.2
  have := owner_field ho (1 + f) (by omega) (by omega)
  rw [← Nat.add_assoc] at this
  exact ⟨this.1, this.2.1, (owner_some ho).1, this.2.2⟩
theorem HInv.lay (h : HInv H) {x v : Nat} (h1 : 1 ≤ x) (h2 : x ≤ H.b * H.ww) (hn : H.owner x = none) (hK : H.K.getD ((x - 1) / H.ww) 0 ≠ 0) (hv : v < wordTop) : HInv (H.lay x v) := by
  have hal : x ≤ H.A.length := by have := h.alen; omega
  have hw : ∀ y, (H.lay x v).word y = if y = x then v else H.word y := fun y => word_set h1 hal _ y
  have hne : ∀ {y B k}, H.owner y = some (B, k) → y ≠ x := fun ho e => by subst e; rw [hn] at ho; cases ho
  refine ⟨by simpa [HS.lay] using h.alen, h.nle, h.k4, ?_, h.flen, ?_, h.nodup, h.frown, ?_, ?_, h.cval, fun y y1 y2 y3 => by rw [hw, if_neg (fun e : y = x => hK (by rw [← e]; exact y3))]; exact h.zero y y1 y2 y3⟩
  · intro y hy
    rcases List.mem_or_eq_of_mem_set hy with g | rfl
    · exact h.small y g
    · exact hv
  · intro q hq
    refine (h.chain q hq).congr fun y hy => ?_
    obtain ⟨_, B, ho⟩ := h.frown q hq y hy
    rw [hw, if_neg (hne ho)]
  · intro y hy
    obtain ⟨B', k', f', g1, g2, g3⟩ := h.born y hy
    exact ⟨B', k', f', g1, g2, by rw [hw, if_neg (hne g1)]; exact g3⟩
  · intro y B k ho
    rw [hw, if_neg (hne ho)]
    exact h.slot y B k ho
end
end Go.Proofs.YtjdnkhljgnjkcaaGreatDoor

/- A set of numbers in memory, as what it tells of each number. -/
namespace Go.Proofs.YtjdnkhljgnjkcaaGreatDoor
open Go.RowKit

theorem has_put {size : Nat} {W : List Nat} (hl : W.length = (size + 63) / 64) {n : Nat} (hn : n < size) (inn : Bool) (m : Nat) : hasP size (putL size W (n : Int) inn) (m : Int) = if m = n then inn else hasP size W (m : Int) := by
  have h0 : decide (0 ≤ (n : Int) ∧ (n : Int) < (size : Int)) = true := decide_eq_true (by omega)
  have hb : hasP size W (n : Int) = bitL W n := by unfold hasP; rw [h0, Bool.true_and, Int.toNat_natCast]
  unfold putL putP
  rw [h0, Bool.true_and, hb]
  by_cases he : bitL W n = inn
  · rw [if_neg (by rw [he]; simp)]
    split
    · rename_i e; subst e; rw [hb, he]
    · rfl
  · rw [if_pos (by simpa using he)]
    unfold hasP
    rw [Int.toNat_natCast, Int.toNat_natCast]
    split
    · rename_i e; subst e
      rw [h0, Bool.true_and, flip_self (by omega)]
      revert he
      cases bitL W m <;> cases inn <;> simp
    · rename_i e
      rw [flip_other e]
/-- A set, by what it tells. -/
def SetF (w : World) (B X size : Nat) (s : Nat → Bool) : Prop := ∃ W, SetAt w B X size W ∧ ∀ n : Nat, hasP size W (n : Int) = s n
section
variable {w w' : World} {B X size : Nat} {s : Nat → Bool}
theorem SetF.keep {S : Nat → Prop} (h : SetF w B X size s) (k : Keep S w w') (hB : ¬ S B) (hX : ¬ S X) : SetF w' B X size s := by
  obtain ⟨W, h1, h2⟩ := h
  exact ⟨W, h1.keep k hB hX, h2⟩
theorem SetF.still (h : SetF w B X size s) (k : Keep none_ w w') : SetF w' B X size s := h.keep k (fun f => f) (fun f => f)
theorem SetF.has (h : SetF w B X size s) (n : Nat) : Calls Tryz.prog 79 #[.pointer (some ⟨B, 0, none⟩), .int .i64 (n : Int)] w fun e w' => e = .returned (.bool (s n)) ∧ w = w' := by
  obtain ⟨W, h1, h2⟩ := h
  rw [← h2 n]
  exact bHas_any h1 n
theorem SetF.low (h : SetF w B X size s) {n : Nat} (hn : s n = true) : n < size := by
  obtain ⟨W, h1, h2⟩ := h
  rw [← h2 n] at hn
  unfold hasP at hn
  simp only [Bool.and_eq_true, decide_eq_true_eq] at hn
  omega
theorem SetF.put (h : SetF w B X size s) (n : Nat) (hn : n < size) (inn : Bool) : Calls Tryz.prog 111 #[.pointer (some ⟨B, 0, none⟩), .int .i64 (n : Int), .bool inn] w fun e w' => e = .returned (.bool (s n != inn)) ∧ SetF w' B X size (upd s n inn) ∧ Keep (only X) w w' := by
  obtain ⟨W, h1, h2⟩ := h
  have e : putP size W (n : Int) inn = (s n != inn) := by
    unfold putP
    rw [decide_eq_true (by omega), Bool.true_and, h2]
  rw [← e]
  refine (bPut_any h1 n inn).mono ?_
  rintro e w' ⟨rfl, h3, h4⟩
  exact ⟨rfl, ⟨_, h3, fun m => by rw [has_put h1.len hn, h2]; rfl⟩, h4⟩
/-- Taking out what isn't in. -/
theorem SetF.out_no (h : SetF w B X size s) (n : Nat) (hn : s n = false) : Calls Tryz.prog 111 #[.pointer (some ⟨B, 0, none⟩), .int .i64 (n : Int), .bool false] w fun e w' => e = .returned (.bool false) ∧ SetF w' B X size s ∧ Keep (only X) w w' := by
  obtain ⟨W, h1, h2⟩ := h
  have e : putP size W (n : Int) false = false := by
    unfold putP
    rw [h2, hn]; simp
  have e2 : putL size W (n : Int) false = W := by unfold putL; rw [if_neg (by rw [e]; decide)]
  refine (bPut_any h1 n false).mono ?_
  rintro e' w' ⟨rfl, h3, h4⟩
  rw [e2] at h3
  rw [e]
  exact ⟨rfl, ⟨_, h3, h2⟩, h4⟩
end
end Go.Proofs.YtjdnkhljgnjkcaaGreatDoor

/- What a heap's functions tell, and make of it, plainly. -/
namespace Go.Proofs.YtjdnkhljgnjkcaaGreatDoor

/-! ### What the heap's functions tell -/
def HS.takeP (H : HS) (k : Nat) : Nat × Nat × HS := match H.row k with
  | [] => (0, 12, H)
  | a :: _ => (a, 0, H.take k)
def ofK (f : Int) : Nat := if f < 0 then 0 else if f ≤ 1 then 0 else if f ≤ 3 then 1 else if f ≤ 7 then 2 else if f ≤ 15 then 3 else 0
def HS.slots (H : HS) (B : Nat) : List Nat := if H.K.getD B 0 = 0 then [] else slotsL (H.ww / 2 ^ H.K.getD B 0) (2 ^ H.K.getD B 0) (B * H.ww)
def HS.assignP (H : HS) (k : Nat) : List Nat × Nat × HS := match H.K.findIdx? (fun x => x == 0) with
  | none => ([], 10, H)
  | some B => ((H.assign B k).slots B, 0, H.assign B k)
def HS.putP (H : HS) (a : Nat) : HS := match H.owner a with
  | none => H
  | some (_, k) => if H.bn a || H.inn a then H else H.put a k
def HS.beginP (H : HS) (a : Nat) (f : Int) : HS := match H.owner a with
  | none => H
  | some (_, k) => if H.hand a && decide (0 ≤ f) && decide (objOk k f.toNat) then H.begin a k f.toNat else H
def HS.bearP (H : HS) (a c : Nat) : HS := if H.hand a && decide (c < 2) && (H.hdr a).isSome then H.bear a (c == 1) else H
def HS.freeP (H : HS) (a : Nat) : HS := if H.bn a then (H.kill a).putP a else H
def HS.fieldsP (H : HS) (a : Nat) : Nat × Nat := if H.objE a = 0 then (H.nf a, 0) else (0, H.objE a)
def HS.loadE (H : HS) (a : Nat) (f : Int) : Nat := if H.objE a = 0 then (if f < 0 ∨ (H.nf a : Int) ≤ f then 7 else 0) else H.objE a
def HS.loadP (H : HS) (a : Nat) (f : Int) : Nat := if H.loadE a f = 0 then H.word (a + 1 + f.toNat) else 0
def HS.storeE (H : HS) (a : Nat) (f : Int) (v : Nat) : Nat := if H.loadE a f = 0 then (if v ≤ H.n then 0 else 4) else H.loadE a f
def HS.storeP (H : HS) (a : Nat) (f : Int) (v : Nat) : HS := if H.storeE a f v = 0 then H.lay (a + 1 + f.toNat) v else H
def HS.colorP (H : HS) (a : Nat) : Nat := if H.co a then 1 else 0
def HS.paints (H : HS) (a c : Nat) : Bool := H.bn a && decide (c < 2) && (H.co a != (c == 1))
def HS.paintP (H : HS) (a c : Nat) : HS := if H.paints a c then H.paint a (c == 1) else H
def HS.cellE (H : HS) (i : Int) : Nat := if i < 0 ∨ (H.cells.length : Int) ≤ i then 9 else 0
def HS.cellP (H : HS) (i : Int) : Nat := if H.cellE i = 0 then H.cells.getD i.toNat 0 else 0
def HS.setE (H : HS) (i : Int) (v : Nat) : Nat := if H.cellE i = 0 then (if v ≤ H.n then 0 else 4) else 9
def HS.setP (H : HS) (i : Int) (v : Nat) : HS := if H.setE i v = 0 then H.setCell i.toNat v else H

end Go.Proofs.YtjdnkhljgnjkcaaGreatDoor
