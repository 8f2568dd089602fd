/- The deed alloc: a new object. -/
import Derived.Test.YtkjplkkjdlanhaaGreatDoorDeed2
import Derived.BigRegion
namespace Go.Proofs.YtkjplkkjdlanhaaGreatDoor
open Go.RowKit Go.Sort


section
variable {F : Nat → Prop} {B : Nat} {c : Conf} {m : Nat} {vs : List Value} {vr vc vo : Value} {R : List (List Int)} {w : World}

/-- What an append of one more row to a row of rows of the call's own gives, wherever the one lies. -/
theorem app_rows {w : World} {v : Value} {n : Nat} {xs : List Value} (hown : w.ownsRow 0 46 1 v n xs) {N : Nat} {u : Value} (hN : w.cell? ⟨N, 0, none⟩ = some u) (hu : u.oneCell' = true) (hn : n ≤ 100000000000) :
    ∃ g cap w', (app9 #[63, 63] 63 #[v, .slice (some ⟨N, 0, none⟩) 1 1]).run Tryz.prog w = .ok (.slice (some ⟨g, 0, none⟩) (n + 1) cap) w' ∧ w'.ownsRow 0 46 1 (.slice (some ⟨g, 0, none⟩) (n + 1) cap) (n + 1) (xs ++ [u]) ∧
      w.grownBy w' v.ownBlock ∧ (v.ownBlock = some g ∨ w.heap.size ≤ g) :=
  app_where (P := Tryz.prog) w 63 63 46 (by kernel_rfl) Tryz.infoInts rfl hown hN hu (by decide) hn

/-- A graph that has one object more. -/
theorem GRep.add (h : GRep F B c m vs vr vc vo R w) (hF : ∀ k, w.heap.size ≤ k → F k) {w1 w2 : World} (hk1 : Keep none_ w w1) {v0 : Value} {zs : List Int} (ho : w1.ownsRow 0 3 1 v0 zs.length (zs.map (Value.int .i64)))
    (hnew : ∀ k, v0.ownBlock = some k → w.heap.size ≤ k) {g cap : Nat} (how : w2.ownsRow 0 46 1 (.slice (some ⟨g, 0, none⟩) (R.length - (m + 1) + 1) cap) (R.length - (m + 1) + 1) (vs.drop (m + 1) ++ [v0])) (hgr : w1.grownBy w2 vo.ownBlock)
    (hwh : vo.ownBlock = some g ∨ w1.heap.size ≤ g) :
    GRep F B c m (vs ++ [v0]) vr vc (.slice (some ⟨g, 0, none⟩) (R.length - (m + 1) + 1) cap) (R ++ [zs]) (w2.setCell ⟨B, 9, none⟩ (.slice (some ⟨g, 0, none⟩) (R.length - (m + 1) + 1) cap)) ∧
      Keep F w (w2.setCell ⟨B, 9, none⟩ (.slice (some ⟨g, 0, none⟩) (R.length - (m + 1) + 1) cap)) := by
  have h1 := h.still hk1
  have hsz := hk1.size
  have hvl := h.len
  have hml := h.lt
  have hob : ∀ k, vo.ownBlock = some k → k < w.heap.size := fun k hk => (World.ownsRow.lt h.objs k hk).2
  -- every other row is kept by the append
  have hrow2 : ∀ (i : Nat) (v : Value) (ys : List Int), vs[i]? = some v → R[i]? = some ys → w2.ownsRow 0 3 1 v ys.length (ys.map (Value.int .i64)) := fun i v ys hv hy =>
    own_grown (h1.row i v ys hv hy) hgr (fun k hk e => own_ne2 (h1.row i v ys hv hy) h1.objs (by decide) hk e)
  have ho2 : w2.ownsRow 0 3 1 v0 zs.length (zs.map (Value.int .i64)) := own_grown ho hgr (fun k hk e => own_ne2 ho h1.objs (by decide) hk e)
  have hregs2 : w2.ownsRow 0 46 1 vr m (vs.take m) := own_grown h1.regs hgr (fun k hk e => h.apart2 k hk e)
  have hblk2 : Blk w2 B [.int .i64 c.b, .int .i64 c.w, .int .i64 c.m, .int .i64 c.r, .int .i64 c.c, .int .i64 c.l, .int .i64 c.s, vr, vc, vo] 65 := h1.blk.grown hgr (own_ne h1.blk h1.objs (by decide))
  obtain ⟨curg, hcg⟩ := own_block how
  have hgB : g ≠ B := by
    intro e; subst e
    unfold Blk at hblk2
    rw [hcg] at hblk2
    simp at hblk2
  have hvB : ∀ (e : TypeId) (v : Value) (n : Nat) (xs : List Value), w2.ownsRow 0 e 1 v n xs → e ≠ 65 → ∀ k, v.ownBlock = some k → k ≠ B := fun e v n xs ho hne k hk hkB => own_ne hblk2 ho hne (by rw [hk, hkB])
  constructor
  · refine ⟨by simp [hvl], by simp; omega, by rw [List.getElem?_append_left (by omega)]; exact h.mid, hblk2.set 9 _, ?_, ?_, ?_, ?_, ?_, h.fB, h.fr, ?_, ?_⟩
    · rw [List.take_append_of_le_length (by omega)]
      exact own_other hregs2 (fun k hk => hvB _ _ _ _ hregs2 (by decide) k hk) _
    · have e : (R ++ [zs]).length - (m + 1) = R.length - (m + 1) + 1 := by simp; omega
      rw [e, List.drop_append_of_le_length (by omega)]
      exact own_other how (fun k hk => hvB _ _ _ _ how (by decide) k hk) _
    · intro i v ys hv hy
      by_cases hi : i < R.length
      · rw [List.getElem?_append_left (by omega)] at hv
        rw [List.getElem?_append_left hi] at hy
        have := hrow2 i v ys hv hy
        exact own_other this (fun k hk => hvB _ _ _ _ this (by decide) k hk) _
      · have hi2 : i = R.length := by
          have := (List.getElem?_eq_some_iff.1 hy).1
          simp at this
          omega
        subst hi2
        rw [List.getElem?_append_right (by omega), hvl] at hv
        rw [List.getElem?_append_right (by omega)] at hy
        simp at hv hy
        subst hv hy
        exact own_other ho2 (fun k hk => hvB _ _ _ _ ho2 (by decide) k hk) _
    · intro i j v u k hv hu hvk huk
      have hold : ∀ (i : Nat) (v : Value) (k : Nat), vs[i]? = some v → v.ownBlock = some k → k < w.heap.size := fun i v k hv hk => by
        obtain ⟨ys, _, ho⟩ := h.rowOf hv
        exact (World.ownsRow.lt ho k hk).2
      have hcase : ∀ (i : Nat) (v : Value), (vs ++ [v0])[i]? = some v → (i < vs.length ∧ vs[i]? = some v) ∨ (i = vs.length ∧ v = v0) := fun i v hv => by
        by_cases hi : i < vs.length
        · rw [List.getElem?_append_left hi] at hv; exact .inl ⟨hi, hv⟩
        · have := (List.getElem?_eq_some_iff.1 hv).1
          simp at this
          have hi2 : i = vs.length := by omega
          subst hi2
          rw [List.getElem?_append_right (by omega)] at hv
          simp at hv
          exact .inr ⟨rfl, hv.symm⟩
      rcases hcase i v hv with ⟨_, hv'⟩ | ⟨hi, rfl⟩
      · rcases hcase j u hu with ⟨_, hu'⟩ | ⟨hj, rfl⟩
        · exact h.apart i j v u k hv' hu' hvk huk
        · have := hold i v k hv' hvk
          have := hnew k huk; omega
      · rcases hcase j u hu with ⟨_, hu'⟩ | ⟨hj, rfl⟩
        · have := hold j u k hu' huk
          have := hnew k hvk; omega
        · omega
    · intro k hk he
      simp [Value.ownBlock] at he
      subst he
      rcases hwh with hw | hw
      · exact h.apart2 g hk hw
      · have := (World.ownsRow.lt h.regs g hk).2; omega
    · intro k he
      simp [Value.ownBlock] at he
      subst he
      rcases hwh with hw | hw
      · exact h.fo g hw
      · exact hF g (by omega)
    · intro i v k hv hk
      by_cases hi : i < vs.length
      · rw [List.getElem?_append_left hi] at hv
        exact h.fv i v k hv hk
      · have := (List.getElem?_eq_some_iff.1 hv).1
        simp at this
        have hi2 : i = vs.length := by omega
        subst hi2
        rw [List.getElem?_append_right (by omega)] at hv
        simp at hv
        subst hv
        exact hF k (hnew k hk)
  · have k2 : Keep F w w2 := ((hk1.mono (fun _ _ f => f.elim)).grown hgr (fun k hk _ => h.fo k hk))
    exact k2.setCell (p := ⟨B, 9, none⟩) (fun _ => h.fB) _

/-- A graph without objects that has one row of registers more. -/
theorem GRep.addReg {rs : List Value} {Rr : List (List Int)} {cs : List Int} {i : Nat} (h : GRep F B c i (rs ++ [vc]) vr vc (.slice none 0 0) (Rr ++ [cs]) w) (hl : rs.length = i) (hF : ∀ k, w.heap.size ≤ k → F k) {w1 w2 : World} (hk1 : Keep none_ w w1) {v0 : Value} {zs : List Int}
    (ho : w1.ownsRow 0 3 1 v0 zs.length (zs.map (Value.int .i64))) (hnew : ∀ k, v0.ownBlock = some k → w.heap.size ≤ k) {g cap : Nat} (how : w2.ownsRow 0 46 1 (.slice (some ⟨g, 0, none⟩) (i + 1) cap) (i + 1) (rs ++ [v0])) (hgr : w1.grownBy w2 vr.ownBlock)
    (hwh : vr.ownBlock = some g ∨ w1.heap.size ≤ g) :
    GRep F B c (i + 1) ((rs ++ [v0]) ++ [vc]) (.slice (some ⟨g, 0, none⟩) (i + 1) cap) vc (.slice none 0 0) ((Rr ++ [zs]) ++ [cs]) (w2.setCell ⟨B, 7, none⟩ (.slice (some ⟨g, 0, none⟩) (i + 1) cap)) ∧
      Keep F w (w2.setCell ⟨B, 7, none⟩ (.slice (some ⟨g, 0, none⟩) (i + 1) cap)) := by
  have h1 := h.still hk1
  have hsz := hk1.size
  have hRl : Rr.length = i := by have := h.len; simp at this; omega
  have hold : ∀ (j : Nat) (v : Value) (k : Nat), (rs ++ [vc])[j]? = some v → v.ownBlock = some k → k < w.heap.size := fun j v k hv hk => by
    obtain ⟨ys, _, ho⟩ := h.rowOf hv
    exact (World.ownsRow.lt ho k hk).2
  have hrow2 : ∀ (j : Nat) (v : Value) (ys : List Int), (rs ++ [vc])[j]? = some v → (Rr ++ [cs])[j]? = some ys → w2.ownsRow 0 3 1 v ys.length (ys.map (Value.int .i64)) := fun j v ys hv hy =>
    own_grown (h1.row j v ys hv hy) hgr (fun k hk e => own_ne2 (h1.row j v ys hv hy) h1.regs (by decide) hk e)
  have ho2 : w2.ownsRow 0 3 1 v0 zs.length (zs.map (Value.int .i64)) := own_grown ho hgr (fun k hk e => own_ne2 ho h1.regs (by decide) hk e)
  have hblk2 : Blk w2 B [.int .i64 c.b, .int .i64 c.w, .int .i64 c.m, .int .i64 c.r, .int .i64 c.c, .int .i64 c.l, .int .i64 c.s, vr, vc, .slice none 0 0] 65 := h1.blk.grown hgr (own_ne h1.blk h1.regs (by decide))
  have hvB : ∀ (e : TypeId) (v : Value) (n : Nat) (xs : List Value), w2.ownsRow 0 e 1 v n xs → e ≠ 65 → ∀ k, v.ownBlock = some k → k ≠ B := fun e v n xs ho hne k hk hkB => own_ne hblk2 ho hne (by rw [hk, hkB])
  -- where a row of the new graph comes from
  have hcase : ∀ (j : Nat) (v : Value), ((rs ++ [v0]) ++ [vc])[j]? = some v → (j < i ∧ (rs ++ [vc])[j]? = some v) ∨ (j = i ∧ v = v0) ∨ (j = i + 1 ∧ v = vc) := fun j v hv => by
    rcases Nat.lt_trichotomy j i with hj | hj | hj
    · rw [List.getElem?_append_left (by simp; omega), List.getElem?_append_left (by omega)] at hv
      exact .inl ⟨hj, by rw [List.getElem?_append_left (by omega)]; exact hv⟩
    · subst hj
      rw [List.getElem?_append_left (by simp; omega), List.getElem?_append_right (by omega)] at hv
      simp [hl] at hv
      exact .inr (.inl ⟨rfl, hv.symm⟩)
    · have := (List.getElem?_eq_some_iff.1 hv).1
      simp at this
      have e : j = i + 1 := by omega
      subst e
      rw [List.getElem?_append_right (by simp; omega)] at hv
      simp [hl] at hv
      exact .inr (.inr ⟨rfl, hv.symm⟩)
  have hmid : (rs ++ [vc])[i]? = some vc := h.mid
  constructor
  · refine ⟨by simp; omega, by simp; omega, by rw [List.getElem?_append_right (by simp; omega)]; simp [hl], hblk2.set 7 _, ?_, ?_, ?_, ?_, ?_, h.fB, ?_, ?_, ?_⟩
    · rw [List.take_append_of_le_length (by simp; omega), List.take_of_length_le (by simp; omega)]
      exact own_other how (fun k hk => hvB _ _ _ _ how (by decide) k hk) _
    · have e : ((Rr ++ [zs]) ++ [cs]).length - (i + 1 + 1) = 0 := by simp; omega
      have e2 : ((rs ++ [v0]) ++ [vc]).drop (i + 1 + 1) = [] := by simp; omega
      rw [e, e2]
      exact World.ownsRow_nil _ _ _ _
    · intro j v ys hv hy
      rcases hcase j v hv with ⟨hj, hv'⟩ | ⟨rfl, rfl⟩ | ⟨rfl, rfl⟩
      · have hy' : (Rr ++ [cs])[j]? = some ys := by
          rw [List.getElem?_append_left (by simp; omega), List.getElem?_append_left (by omega)] at hy
          rw [List.getElem?_append_left (by omega)]; exact hy
        have := hrow2 j v ys hv' hy'
        exact own_other this (fun k hk => hvB _ _ _ _ this (by decide) k hk) _
      · rw [List.getElem?_append_left (by simp; omega), List.getElem?_append_right (by omega)] at hy
        simp [hRl] at hy
        subst hy
        exact own_other ho2 (fun k hk => hvB _ _ _ _ ho2 (by decide) k hk) _
      · rw [List.getElem?_append_right (by simp; omega)] at hy
        simp [hRl] at hy
        subst hy
        have := hrow2 i v cs hmid (by rw [List.getElem?_append_right (by omega)]; simp [hRl])
        exact own_other this (fun k hk => hvB _ _ _ _ this (by decide) k hk) _
    · intro j j' v u k hv hu hvk huk
      rcases hcase j v hv with ⟨hj, hv'⟩ | ⟨rfl, rfl⟩ | ⟨rfl, rfl⟩
      · rcases hcase j' u hu with ⟨hj', hu'⟩ | ⟨rfl, rfl⟩ | ⟨rfl, rfl⟩
        · exact h.apart j j' v u k hv' hu' hvk huk
        · have h1 := hold j v k hv' hvk; have h2 := hnew k huk; omega
        · have := h.apart j i v u k hv' hmid hvk huk; omega
      · rcases hcase j' u hu with ⟨hj', hu'⟩ | ⟨rfl, rfl⟩ | ⟨rfl, rfl⟩
        · have h1 := hold j' u k hu' huk; have h2 := hnew k hvk; omega
        · rfl
        · have h1 := hold j u k hmid huk; have h2 := hnew k hvk; omega
      · rcases hcase j' u hu with ⟨hj', hu'⟩ | ⟨rfl, rfl⟩ | ⟨rfl, rfl⟩
        · have := h.apart j' i u v k hu' hmid huk hvk; omega
        · have h1 := hold j' v k hmid hvk; have h2 := hnew k huk; omega
        · rfl
    · intro k _ he
      simp [Value.ownBlock] at he
    · intro k he
      simp [Value.ownBlock] at he
      subst he
      rcases hwh with hw | hw
      · exact h.fr g hw
      · exact hF g (by omega)
    · intro k he
      simp [Value.ownBlock] at he
    · intro j v k hv hk
      rcases hcase j v hv with ⟨hj, hv'⟩ | ⟨rfl, rfl⟩ | ⟨rfl, rfl⟩
      · exact h.fv j v k hv' hk
      · exact hF k (hnew k hk)
      · exact h.fv i v k hmid hk
  · have k2 : Keep F w w2 := ((hk1.mono (fun _ _ f => f.elim)).grown hgr (fun k hk _ => h.fr k hk))
    exact k2.setCell (p := ⟨B, 7, none⟩) (fun _ => h.fB) _
end
end Go.Proofs.YtkjplkkjdlanhaaGreatDoor
