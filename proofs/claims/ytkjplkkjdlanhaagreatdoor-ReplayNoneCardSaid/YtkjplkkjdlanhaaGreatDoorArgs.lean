/- What a law's walk is told of its arguments: integers, structs and arrays of plain cells, slices of these that came in. Of no program. -/
import Derived.Test.YtkjplkkjdlanhaaGreatDoorMem
import Derived.OpenShut
import Derived.WalkKit
import Derived.Deep.Slices
namespace Go.Proofs.YtkjplkkjdlanhaaGreatDoor
open Go.RowKit Go.ChangeShapes Go.WideShapes Go.Deep

/-! ### Slices of integers -/

/-- A slice of n cells: what they hold. -/
structure IntCells (k : IntKind) (w : World) (a : Option Addr) (n : Nat) (zs : List Int) : Prop where
  len : zs.length = n
  at_ : 0 < n → ∃ b off, a = some ⟨b, off, none⟩ ∧ ∀ j, j < n → w.cell? ⟨b, off + j, none⟩ = some (.int k (zs.getD j 0))

/-- A slice of n integers of kind k: what its elements' cells hold. -/
structure Ints (k : IntKind) (w : World) (a : Option Addr) (n : Nat) (zs : List Int) : Prop where
  len : zs.length = n
  at_ : 0 < n → ∃ b off, a = some ⟨b, off, none⟩ ∧ ∀ j, j < n → w.cell? ⟨b, off + j, none⟩ = some (.int k (zs.getD j 0))
  wf : ∀ z ∈ zs, (Lit.int k z).wf = true

theorem Ints.nil (k : IntKind) (w : World) : Ints k w none 0 [] := ⟨rfl, fun h => absurd h (Nat.lt_irrefl 0), fun _ h => by cases h⟩
theorem Ints.cells {k : IntKind} {w : World} {a : Option Addr} {n : Nat} {zs : List Int} (h : Ints k w a n zs) : IntCells k w a n zs := ⟨h.len, h.at_⟩
theorem Ints.ofRow {k : IntKind} {w : World} {x : Addr} {len cap : Nat} {zs : List Int} (hl : len ≤ cap) (hz : zs.length = cap)
    (hc : ∀ i, i < zs.length → w.cell? (x.add i) = some (.int k (zs.getD i 0))) (hw : ∀ n ∈ zs, (Lit.int k n).wf = true) : Ints k w (some x) len (zs.take len) := by
  refine ⟨by simp; omega, fun h0 => ?_, fun z h => hw z (List.mem_of_mem_take h)⟩
  obtain ⟨b, off, rfl, h⟩ := ints_at hc (by omega)
  refine ⟨b, off, rfl, fun j hj => ?_⟩
  rw [h j (by omega)]
  simp [List.getD_eq_getElem?_getD, hj]
theorem IntCells.below {k : IntKind} {w w' : World} {a : Option Addr} {n : Nat} {zs : List Int} (h : IntCells k w a n zs) (hb : Keep none_ w w') : IntCells k w' a n zs := by
  refine ⟨h.len, fun h0 => ?_⟩
  obtain ⟨b, off, e, hc⟩ := h.at_ h0
  exact ⟨b, off, e, fun j hj => hb.still (hc j hj)⟩
/-- The cells, in a later world. -/
theorem Ints.below {k : IntKind} {w w' : World} {a : Option Addr} {n : Nat} {zs : List Int} (h : Ints k w a n zs) (hb : Keep none_ w w') : Ints k w' a n zs :=
  ⟨h.len, (h.cells.below hb).at_, h.wf⟩
theorem Ints.bound {k : IntKind} {w : World} {a : Option Addr} {n : Nat} {zs : List Int} (h : Ints k w a n zs) (j : Nat) (hj : j < n) : (Lit.int k (zs.getD j 0)).wf = true := by
  have hl := h.len
  have : zs.getD j 0 ∈ zs := by
    rw [List.getD_eq_getElem?_getD, List.getElem?_eq_getElem (by omega)]
    exact List.getElem_mem _
  exact h.wf _ this

/-! ### Plain cells: a type that is laid flat -/

inductive Leaf where
  | int (k : IntKind)
  | bool
  | string

def flatFields (fl : TypeId → Option (List Leaf)) (c : TypeId → Nat) : List Field → Nat → Option (List Leaf)
  | [], _ => some []
  | f :: r, off => match fl f.type with
    | none => none
    | some ks => if f.offset = off ∧ c f.type = ks.length then (match flatFields fl c r (off + ks.length) with | none => none | some rest => some (ks ++ rest)) else none

def flat (P : Program) : Nat → TypeId → Option (List Leaf)
  | 0, _ => none
  | n + 1, t => match P.underlying t with
    | some (.int k) => some [.int k]
    | some .bool => some [.bool]
    | some .string => some [.string]
    | some (.struct fs) => match flatFields (flat P n) P.cellsOf fs.toList 0 with
      | none => none
      | some ks => if P.cellsOf t = ks.length then some ks else none
    | some (.array m e) => match flat P n e with
      | none => none
      | some ks => if P.cellsOf e = ks.length ∧ P.cellsOf t = m * ks.length then some (List.replicate m ks).flatten else none
    | _ => none

def LeafOk : Leaf → Value → Prop
  | .int k, v => ∃ n, v = .int k n ∧ (Lit.int k n).wf = true
  | .bool, v => ∃ b, v = .bool b
  | .string, v => ∃ s : ByteArray, v = .string s ∧ s.size ≤ maxLen

/-- Cells are of these kinds, one by one. -/
structure FlatOk (ks : List Leaf) (cs : List Value) : Prop where
  len : cs.length = ks.length
  at_ : ∀ (i : Nat) (k : Leaf), ks[i]? = some k → ∃ v, cs[i]? = some v ∧ LeafOk k v

theorem FlatOk.nil : FlatOk [] [] := ⟨rfl, fun i k h => by simp at h⟩
theorem FlatOk.one {k : Leaf} {v : Value} (h : LeafOk k v) : FlatOk [k] [v] := ⟨rfl, fun i k' h' => by
  cases i with
  | zero => simp at h'; subst h'; exact ⟨v, rfl, h⟩
  | succ i => simp at h'⟩
theorem FlatOk.append {ks ks' : List Leaf} {cs cs' : List Value} (h : FlatOk ks cs) (h' : FlatOk ks' cs') : FlatOk (ks ++ ks') (cs ++ cs') := by
  have hl := h.len
  refine ⟨by simp [h.len, h'.len], fun i k hk => ?_⟩
  rcases Nat.lt_or_ge i ks.length with hi | hi
  · rw [List.getElem?_append_left hi] at hk
    rw [List.getElem?_append_left (by omega)]
    exact h.at_ i k hk
  · rw [List.getElem?_append_right hi] at hk
    rw [List.getElem?_append_right (by omega), hl]
    exact h'.at_ _ k hk

section
variable {H : Type} {enc : TypeId × Value → H} {P : Program} {w : World} {base : Nat} {spare : Nat → Bool} {held : Bool}

theorem flatFields_ok (m : Nat) (n : Nat) (cs : List Value)
    (ih : ∀ (t : TypeId) (cs : List Value) (x : DataW H × List MemPlace) (ks : List Leaf), DataW.trod enc P w base spare held n t cs = some x → flat P m t = some ks → FlatOk ks cs) :
    ∀ (fs : List Field) (off : Nat) (ks : List Leaf), flatFields (flat P m) P.cellsOf fs off = some ks →
      (∀ f ∈ fs, ∃ x, DataW.trod enc P w base spare held n f.type ((cs.drop f.offset).take (P.cellsOf f.type)) = some x) → FlatOk ks ((cs.drop off).take ks.length) := by
  intro fs
  induction fs with
  | nil =>
    intro off ks h _
    simp [flatFields] at h
    subst h
    simpa using FlatOk.nil
  | cons f r ihr =>
    intro off ks h hx
    unfold flatFields at h
    cases h1 : flat P m f.type with
    | none => simp [h1] at h
    | some k1 =>
      simp only [h1] at h
      split at h
      · rename_i hc
        obtain ⟨ho, hl⟩ := hc
        cases h2 : flatFields (flat P m) P.cellsOf r (off + k1.length) with
        | none => simp [h2] at h
        | some k2 =>
          simp only [h2, Option.some.injEq] at h
          subst h
          obtain ⟨x, ht⟩ := hx f (by simp)
          rw [ho, hl] at ht
          have a1 := ih _ _ _ _ ht h1
          have a2 := ihr _ _ h2 (fun g hg => hx g (by simp [hg]))
          have := a1.append a2
          rw [← List.drop_drop, ← List.take_add] at this
          simpa using this
      · cases h

theorem flat_ok : ∀ (m n : Nat) (t : TypeId) (cs : List Value) (x : DataW H × List MemPlace) (ks : List Leaf), DataW.trod enc P w base spare held n t cs = some x → flat P m t = some ks → FlatOk ks cs := by
  intro m
  induction m with
  | zero => intro n t cs x ks _ h; simp [flat] at h
  | succ m ihm =>
    intro n t cs x ks hx h
    unfold flat at h
    cases hu : P.underlying t with
    | none => simp [hu] at h
    | some d =>
      rw [hu] at h
      cases d with
      | int k =>
        simp at h; subst h
        obtain ⟨q, rfl, _, hq⟩ := DataW.trod_int hu hx
        exact FlatOk.one ⟨q, rfl, hq⟩
      | bool =>
        simp at h; subst h
        obtain ⟨q, rfl, _⟩ := DataW.trod_bool hu hx
        exact FlatOk.one ⟨q, rfl⟩
      | string =>
        simp at h; subst h
        obtain ⟨q, rfl, _, hq⟩ := DataW.trod_string hu hx
        exact FlatOk.one ⟨q, rfl, hq⟩
      | struct fs =>
        simp only at h
        cases hff : flatFields (flat P m) P.cellsOf fs.toList 0 with
        | none => simp [hff] at h
        | some ks' =>
          simp only [hff] at h
          split at h
          · rename_i hcl
            simp only [Option.some.injEq] at h
            subst h
            obtain ⟨xs, n', rfl, _, hl, hxl, hf⟩ := DataW.trod_struct hu hx
            have := flatFields_ok m n' cs (fun t cs x ks a b => ihm n' t cs x ks a b) fs.toList 0 ks' hff (fun f hm => by
              obtain ⟨i, hi⟩ := List.mem_iff_getElem?.1 hm
              have hi' : fs[i]? = some f := by simpa using hi
              have hlt : i < xs.length := by rw [hxl]; exact (Array.getElem?_eq_some_iff.1 hi').1
              exact ⟨xs[i], by rw [hf i f hi', List.getElem?_eq_getElem hlt]⟩)
            have e : (cs.drop 0).take ks'.length = cs := by rw [List.drop_zero, List.take_of_length_le (by omega)]
            rw [e] at this
            exact this
          · cases h
      | array q e =>
        simp only at h
        cases hff : flat P m e with
        | none => simp [hff] at h
        | some ks' =>
          simp only [hff] at h
          split at h
          · rename_i hcl
            obtain ⟨hce, hct⟩ := hcl
            simp only [Option.some.injEq] at h
            subst h
            obtain ⟨xs, n', rfl, _, hl, hxl, hf⟩ := DataW.trod_array hu hx
            have key : ∀ j, j ≤ q → FlatOk (List.replicate j ks').flatten (cs.take (j * ks'.length)) := by
              intro j
              induction j with
              | zero => intro _; simpa using FlatOk.nil
              | succ j ihj =>
                intro hj
                have a1 := ihj (by omega)
                have a2 := ihm n' e _ xs[j] ks' (by rw [hf j (by omega), List.getElem?_eq_getElem (by omega)]) hff
                rw [hce] at a2
                rw [List.replicate_succ', List.flatten_append, Nat.succ_mul, List.take_add]
                simpa using a1.append a2
            have := key q (Nat.le_refl _)
            rw [List.take_of_length_le (by omega)] at this
            exact this
          · cases h
      | _ => simp at h

/-- A struct or an array by value. -/
theorem flat_agg {r : Reach} {b0 m : Nat} {t : TypeId} {fs : Array Field} {v : Value} {d : DataW H} {p : List MemPlace} {ks : List Leaf} (hs : P.underlying t = some (.struct fs)) (hk : flat P m t = some ks)
    (hv : Value.okWide P w r b0 t v) (h : DataW.Trod enc P w base spare held t v d p) : ∃ cs, v = .agg cs.toArray ∧ FlatOk ks cs := by
  obtain ⟨cs, rfl, _⟩ := okWide_struct hs hv
  obtain ⟨fuel, hf⟩ := h
  exact ⟨cs.toList, by simp, flat_ok m fuel t _ _ ks hf hk⟩

/-- A slice of n elements that are laid flat: what their cells hold, an element a list. -/
structure Flats (ks : List Leaf) (w : World) (a : Option Addr) (n : Nat) (rs : List (List Value)) : Prop where
  len : rs.length = n
  ok : ∀ r ∈ rs, FlatOk ks r
  at_ : 0 < n → ∃ b off, a = some ⟨b, off, none⟩ ∧ ∀ i r, rs[i]? = some r → ∀ j v, r[j]? = some v → w.cell? ⟨b, off + i * ks.length + j, none⟩ = some v

theorem Flats.nil (ks : List Leaf) (w : World) : Flats ks w none 0 [] := ⟨rfl, fun _ h => (nomatch h), fun h => absurd h (Nat.lt_irrefl 0)⟩
theorem Flats.below {ks : List Leaf} {w w' : World} {a : Option Addr} {n : Nat} {rs : List (List Value)} (h : Flats ks w a n rs) (hb : Keep none_ w w') : Flats ks w' a n rs := by
  refine ⟨h.len, h.ok, fun h0 => ?_⟩
  obtain ⟨b, off, e, hc⟩ := h.at_ h0
  exact ⟨b, off, e, fun i r hi j v hj => hb.still (hc i r hi j v hj)⟩

theorem flats_of {t e : TypeId} {fuel m : Nat} {a : Option Addr} {len cap : Nat} {x : DataW H × List MemPlace} {ks : List Leaf} (ht : P.underlying t = some (.slice e)) (hk : flat P m e = some ks) (hc : P.cellsOf e = ks.length) (h0 : 0 < ks.length)
    (h : DataW.trod enc P w base spare held fuel t [.slice a len cap] = some x) : ∃ rs, Flats ks w a len rs ∧ len ≤ maxLen := by
  rcases open_slice ht h with ⟨e, _⟩ | ⟨x, l, c, q, n, D, Pl, e, hb, hl, hm, hq, _, hel⟩
  · simp at e
    obtain ⟨rfl, rfl, rfl⟩ := e
    exact ⟨[], Flats.nil _ _, Nat.zero_le _⟩
  · simp at e
    obtain ⟨rfl, rfl, rfl⟩ := e
    have hql : len ≤ q := by rw [hq]; split <;> omega
    have hel' : ∀ i, i < len → ∃ cs : List Value, w.cells? base (x.add (i * P.cellsOf e)) (P.cellsOf e) = some cs ∧ FlatOk ks cs := fun i hi => by
      obtain ⟨cs, h1, h2⟩ := hel i (by omega)
      exact ⟨cs, h1, flat_ok m n e cs _ ks h2 hk⟩
    obtain ⟨R, hR⟩ := choose_lt hel'
    refine ⟨(List.range len).map R, ⟨by simp, fun r hr => ?_, fun hpos => ?_⟩, Nat.le_trans hl hm⟩
    · simp at hr
      obtain ⟨i, hi, rfl⟩ := hr
      exact (hR i hi).2
    · obtain ⟨b, off, sp⟩ := x
      obtain ⟨h1, h2⟩ := hR 0 hpos
      obtain ⟨_, hl1, hcell⟩ := World.cells?_some h1
      have hsp : sp = none := by
        have := hcell 0 (by omega)
        rw [List.getElem?_eq_getElem (by omega)] at this
        simpa [Addr.add] using World.cell?_spot this
      subst hsp
      refine ⟨b, off, rfl, fun i r hi j v hj => ?_⟩
      have hil : i < len := by
        have := (List.getElem?_eq_some_iff.1 hi).1
        simpa using this
      simp [hil] at hi
      subst hi
      obtain ⟨g1, g2⟩ := hR i hil
      obtain ⟨_, hl2, hcell2⟩ := World.cells?_some g1
      have hjl := (List.getElem?_eq_some_iff.1 hj).1
      have := hcell2 j (by omega)
      rw [hj, add_add, add_plain, hc, ← Nat.add_assoc] at this
      exact this
end
end Go.Proofs.YtkjplkkjdlanhaaGreatDoor
