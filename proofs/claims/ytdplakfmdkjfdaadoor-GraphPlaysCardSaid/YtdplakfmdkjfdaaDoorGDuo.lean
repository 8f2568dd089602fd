/- Two graphs, the program's and the reference's, that go together. -/
import Derived.Test.YtdplakfmdkjfdaaDoorGRefDo
import Derived.Test.YtdplakfmdkjfdaaDoorGRefReach
import Derived.Test.YtdplakfmdkjfdaaDoorGAct
namespace Go.Proofs.YtdplakfmdkjfdaaDoor
open Go.RowKit Go.Sort

section
variable {c : Conf} {m : Nat} {R : List (List Int)} {S : List Int} {L : List PlaceR}
theorem rel_obj (h : RelG m R S L) (hg : Good c m R) (mi b : Int) (h0 : atL L 1 mi b ≠ 0) : 1 ≤ atL L 1 mi b ∧ atL L 1 mi b ≤ (S.length : Int) := by
  rw [h.at_] at h0 ⊢
  unfold vR at h0 ⊢
  split at h0
  · exact absurd rfl h0
  · rename_i i hr
    split at h0
    · exact absurd rfl h0
    · rename_i hb
      rw [if_neg hb]
      obtain ⟨zs, hz, hj⟩ := rdn_nz rfl h0
      obtain ⟨q, h1, h2⟩ := good_val hg hz (List.mem_iff_getElem?.2 ⟨_, hj⟩)
      rw [h1] at h0 ⊢
      rw [h.cnt]
      omega
theorem rel_reg (h : RelG m R S L) (a b : Int) : atL L 1 a b = regP m R a b := by rw [h.at_, vR_reg]
theorem rel_cell (h : RelG m R S L) (b : Int) : atL L 2 0 b = cellP m R b := by rw [h.at_, vR_cell]
theorem rel_fld (h : RelG m R S L) (a : Int) (b : Nat) : atL L 3 a b = (fldP m R a).getD b 0 := by rw [h.at_, vR_fld]
theorem rel_size (h : RelG m R S L) (hg : Good c m R) {p : Nat} (hp : p < S.length) : S.getD p 0 = ((fldP m R ((p : Int) + 1)).length : Int) := by
  have hml := hg.lt
  have hc := h.cnt
  have hlt : m + 1 + p < R.length := by unfold cntP at hc; omega
  have h1 := h.size_at (List.getElem?_eq_getElem hlt)
  rw [List.getD_eq_getElem?_getD, h1]
  unfold fldP
  rw [if_neg (by omega)]
  have e : m + ((p : Int) + 1).toNat = m + 1 + p := by omega
  rw [e, getD_some (List.getElem?_eq_getElem hlt)]; rfl
theorem rel_start {r n : Nat} : RelG m (rows0 m r n) [] [] := by
  refine ⟨?_, fun k a b => ?_, fun p hp => by cases hp⟩
  · have e : (rows0 m r n).drop (m + 1) = [] := List.drop_eq_nil_of_le (by simp [rows0])
    rw [e]; rfl
  · unfold vR
    split
    · rfl
    · split
      · rfl
      · rename_i i hr hb
        symm
        apply Classical.byContradiction
        intro h0
        obtain ⟨zs, hz, hj⟩ := rdn_nz rfl h0
        have hm : ∀ x ∈ zs, x = 0 := by
          have hz2 := List.mem_iff_getElem?.2 ⟨_, hz⟩
          unfold rows0 at hz2
          rcases List.mem_append.1 hz2 with h | h
          · rw [List.eq_of_mem_replicate h]; exact fun x hx => List.eq_of_mem_replicate hx
          · rw [List.mem_singleton.1 h]; exact fun x hx => List.eq_of_mem_replicate hx
        exact h0 (hm _ (List.mem_iff_getElem?.2 ⟨_, hj⟩))
theorem fld_none : fldP m R 0 = [] := by unfold fldP; rw [if_pos (by omega)]
theorem fld_over {i : Int} (hi : (cntP m R : Int) < i) : fldP m R i = [] := by unfold fldP; rw [if_pos (.inr hi)]
end

/-- What the law's loop keeps: both graphs, in blocks of their own, go together. -/
structure Duo (V : World) (B B2 : Nat) (c : Conf) (m k : Nat) (W : World) : Prop where
  out : ∃ (R : List (List Int)) (S : List Int) (L : List PlaceR) (vs vl : Value) (Fg Fr : Nat → Prop), GSt Fg B c m R W ∧ RRep Fr B2 c S L vs vl W ∧ (∀ i, Fg i → ¬ Fr i) ∧ (∀ i, Fg i → V.heap.size ≤ i ∧ i < W.heap.size) ∧
    (∀ i, Fr i → V.heap.size ≤ i ∧ i < W.heap.size) ∧ RelG m R S L ∧ R.length ≤ m + 1 + k ∧ L.length ≤ k
  keep : Keep none_ V W
theorem Duo.start {V W : World} {B B2 : Nat} {c : Conf} {m r n : Nat} (hg : GSt (fun i => V.heap.size ≤ i) B c m (rows0 m r n) W) (hk : Keep none_ V W) {W2 : World}
    (hW : W2 = W.alloc (.cells #[.int .i64 c.b, .int .i64 c.w, .int .i64 c.m, .int .i64 c.r, .int .i64 c.c, .int .i64 c.l, .int .i64 c.s, .slice none 0 0, .slice none 0 0] 54)) (hB : W.heap.size = B2) : Duo V B B2 c m 0 W2 := by
  subst hB hW
  have hk2 : Keep none_ W (W.alloc (.cells #[.int .i64 c.b, .int .i64 c.w, .int .i64 c.m, .int .i64 c.r, .int .i64 c.c, .int .i64 c.l, .int .i64 c.s, .slice none 0 0, .slice none 0 0] 54)) := (Keep.refl _ _).alloc _
  have hs := hk.size
  refine ⟨⟨rows0 m r n, [], [], .slice none 0 0, .slice none 0 0, fun i => V.heap.size ≤ i ∧ i < W.heap.size, fun i => i = W.heap.size, hg.there.still hk2, ?_, fun i h e => by omega, fun i h => ⟨h.1, by rw [World.size_alloc]; omega⟩, fun i h => ⟨by omega, by rw [World.size_alloc]; omega⟩, rel_start, ?_, Nat.le_refl _⟩, hk.trans hk2⟩
  · exact ⟨Blk.new W _ _, ⟨rfl, .inl ⟨rfl, rfl⟩⟩, ⟨rfl, .inl ⟨rfl, rfl⟩⟩, rfl, fun k hk => by simp [Value.ownBlock] at hk, fun k hk => by simp [Value.ownBlock] at hk⟩
  · simp [rows0]
theorem Duo.do_ {V W : World} {B B2 : Nat} {c : Conf} {m k : Nat} (h : Duo V B B2 c m k W) (hk : m + 1 + k ≤ 1000) (hcm : c.m = m) (hT : Tabs V) (mi : Int) (o : OpR) :
    Calls Tryd.prog 18 #[.pointer (some ⟨B, 0, none⟩), .int .i64 mi, .agg o.cells.toArray] W.drew fun e w' => ∃ a f : Int, e = .returned (.tuple #[.int .i64 a, .int .i64 f]) ∧ Keep none_ V w' ∧
      Calls Tryd.prog 26 #[.pointer (some ⟨B2, 0, none⟩), .int .i64 mi, .agg o.cells.toArray] w'.drew fun e2 w2 => e2 = .returned (.tuple #[.int .i64 a, .int .i64 f]) ∧ Duo V B B2 c m (k + 1) w2 := by
  obtain ⟨⟨R, S, L, vs, vl, Fg, Fr, hG, hR, hd, hg, hr, hrel, hRl, hLl⟩, hkeep⟩ := h
  have h3 : GSt (fun i => Fg i ∨ W.heap.size ≤ i) B c m R W.drew := (hG.still ((Keep.refl _ _).drew)).mono (fun i hi => .inl hi)
  refine (gdo_any h3 (fun i hi => .inr hi) (by omega) mi o (hT.keep hkeep.drew)).mono ?_
  rintro e w' ⟨rfl, h4, h5⟩
  have hs5 := h5.size
  have hs5' : W.heap.size ≤ w'.heap.size := hs5
  have hRk := (hG.good.do_ mi o)
  have hSl := hrel.cnt
  have hSl' : S.length ≤ k := by unfold cntP at hSl; omega
  have hkw : Keep none_ V w' := hkeep.drew.trans' h5 (fun i hi hh => by rcases hh with hh | hh; (have := (hg i hh).1; omega); (have := hkeep.size; omega))
  refine ⟨_, _, rfl, hkw, ?_⟩
  have hR5 : RRep Fr B2 c S L vs vl w' := (hR.still ((Keep.refl _ _).drew)).keep h5 (fun i hi hh => by rcases hh with hh | hh; (exact hd i hh hi); (have := (hr i hi).2; omega))
  have hR6 : RRep (fun i => Fr i ∨ w'.heap.size ≤ i) B2 c S L vs vl w'.drew := (hR5.still ((Keep.refl _ _).drew)).mono (fun i hi => .inl hi)
  have hrr := rdo_rel hrel hG.good hcm mi o
  refine (rDo_any hR6 (fun i hi => .inr hi) (by omega) (by omega) mi o (fun b hb => rel_obj hrel hG.good mi b hb)).mono ?_
  rintro e2 w2 ⟨rfl, ⟨vs', vl', h6⟩, h7⟩
  have hlen := rdo_len c S L mi o
  rw [hrr.2]
  have hs7 : w'.heap.size ≤ w2.heap.size := h7.size
  have hG7 := (h4.there.still ((Keep.refl _ _).drew)).keep h7 (fun i hi hh => by
    rcases hi with ⟨hi | hi, hi2⟩
    · rcases hh with hh | hh
      · exact hd i hi hh
      · omega
    · rcases hh with hh | hh
      · have := (hr i hh).2; omega
      · omega)
  have hvs := hkeep.size
  refine ⟨rfl, ⟨_, _, _, vs', vl', _, _, hG7, h6.there, ?_, ?_, ?_, hrr.1, by omega, by omega⟩, ?_⟩
  · rintro i ⟨hi | hi, hi2⟩ ⟨hh | hh, hh2⟩
    · exact hd i hi hh
    · omega
    · have := (hr i hh).2; omega
    · omega
  · rintro i ⟨hi | hi, hi2⟩
    · exact ⟨(hg i hi).1, by omega⟩
    · exact ⟨by omega, by omega⟩
  · rintro i ⟨hi | hi, hi2⟩
    · exact ⟨(hr i hi).1, hi2⟩
    · exact ⟨by omega, hi2⟩
  · exact hkw.drew.trans' h7 (fun i hi hh => by rcases hh with hh | hh; (have := (hr i hh).1; omega); omega)
end Go.Proofs.YtdplakfmdkjfdaaDoor
