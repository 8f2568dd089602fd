/- The reference's graph, without a program: a list of places; it goes with the rows. -/
import Derived.Test.YtdplakfmdkjfdaaDoorGReach2
namespace Go.Proofs.YtdplakfmdkjfdaaDoor
open Go.RowKit Go.Sort

structure PlaceR where
  k : Int
  m : Int
  n : Int
  h : Int
def PlaceR.cells (p : PlaceR) : List Value := [.int .i64 p.k, .int .i64 p.m, .int .i64 p.n, .int .i64 p.h]
def PlaceR.is (p : PlaceR) (k m n : Int) : Bool := p.k == k && p.m == m && p.n == n
theorem PlaceR.is_iff {p : PlaceR} {k m n : Int} : p.is k m n = true ↔ p.k = k ∧ p.m = m ∧ p.n = n := by
  simp [PlaceR.is, and_assoc]
def atL (L : List PlaceR) (k m n : Int) : Int := match L.find? (fun p => p.is k m n) with
  | some p => p.h
  | none => 0
def layL (L : List PlaceR) (k m n h : Int) : List PlaceR := L.filter (fun p => !p.is k m n) ++ (if h = 0 then [] else [⟨k, m, n, h⟩])

theorem atL_lay_self (L : List PlaceR) (k m n h : Int) : atL (layL L k m n h) k m n = h := by
  unfold atL layL
  rw [List.find?_append]
  have e : (L.filter (fun p => !p.is k m n)).find? (fun p => p.is k m n) = none := by
    rw [List.find?_eq_none]
    intro p hp
    have := (List.mem_filter.1 hp).2
    simpa using this
  rw [e]
  by_cases hh : h = 0
  · simp [hh]
  · simp [hh, PlaceR.is]
theorem find_filter_other (L : List PlaceR) {k m n k' m' n' : Int} (hne : ¬ (k' = k ∧ m' = m ∧ n' = n)) : (L.filter (fun p => !p.is k m n)).find? (fun p => p.is k' m' n') = L.find? (fun p => p.is k' m' n') := by
  induction L with
  | nil => rfl
  | cons p L ih =>
    by_cases hp : p.is k' m' n' = true
    · have h2 : p.is k m n = false := by
        rw [Bool.eq_false_iff]
        intro h
        have h1 := PlaceR.is_iff.1 h
        have h3 := PlaceR.is_iff.1 hp
        exact hne ⟨by omega, by omega, by omega⟩
      rw [List.filter_cons_of_pos (by simp [h2])]
      simp [hp]
    · have hp2 : p.is k' m' n' = false := by simpa using hp
      by_cases hq : p.is k m n = true
      · rw [List.filter_cons_of_neg (by simp [hq])]
        simp only [List.find?_cons, hp2]
        exact ih
      · rw [List.filter_cons_of_pos (by simp [hq])]
        simp only [List.find?_cons, hp2]
        exact ih
theorem atL_lay_other (L : List PlaceR) {k m n k' m' n' : Int} (h : Int) (hne : ¬ (k' = k ∧ m' = m ∧ n' = n)) : atL (layL L k m n h) k' m' n' = atL L k' m' n' := by
  unfold atL layL
  rw [List.find?_append, find_filter_other L hne]
  have e : (if h = 0 then ([] : List PlaceR) else [⟨k, m, n, h⟩]).find? (fun p => p.is k' m' n') = none := by
    rw [List.find?_eq_none]
    intro p hp
    split at hp
    · cases hp
    · simp at hp
      subst hp
      intro h2
      have h3 := PlaceR.is_iff.1 h2
      simp only at h3
      exact hne ⟨by omega, by omega, by omega⟩
  rw [e, Option.or_none]
theorem layL_len (L : List PlaceR) (k m n h : Int) : (layL L k m n h).length ≤ L.length + 1 := by
  unfold layL
  rw [List.length_append]
  have h1 := List.length_filter_le (fun p : PlaceR => !p.is k m n) L
  split
  · simp; omega
  · simp; omega
theorem atL_some {L : List PlaceR} {k m n x : Int} (h : atL L k m n = x) (h0 : x ≠ 0) : ∃ p ∈ L, p.k = k ∧ p.m = m ∧ p.n = n ∧ p.h = x := by
  unfold atL at h
  split at h
  · rename_i p hp
    have h1 := PlaceR.is_iff.1 (List.find?_some (p := fun p : PlaceR => p.is k m n) hp)
    exact ⟨p, List.mem_of_find?_eq_some hp, h1.1, h1.2.1, h1.2.2, h⟩
  · exact absurd h.symm h0

/-- The row of a place's kind. -/
def rowOf (m n : Nat) (k a : Int) : Option Nat :=
  if k = 1 ∧ 0 ≤ a ∧ a < m then some a.toNat else if k = 2 ∧ a = 0 then some m else if k = 3 ∧ 1 ≤ a ∧ m + a < n then some (m + a.toNat) else none
def vR (m : Nat) (R : List (List Int)) (k a b : Int) : Int := match rowOf m R.length k a with
  | none => 0
  | some i => if b < 0 then 0 else rdn R i b.toNat
theorem rowOf_cases {m n : Nat} {k a : Int} {i : Nat} (h : rowOf m n k a = some i) : (k = 1 ∧ a = i ∧ i < m) ∨ (k = 2 ∧ a = 0 ∧ i = m) ∨ (k = 3 ∧ 1 ≤ a ∧ (i : Int) = m + a ∧ i < n) := by
  unfold rowOf at h
  split at h
  · injection h with h; exact .inl ⟨by omega, by omega, by omega⟩
  · split at h
    · injection h with h; exact .inr (.inl ⟨by omega, by omega, by omega⟩)
    · split at h
      · injection h with h; exact .inr (.inr ⟨by omega, by omega, by omega, by omega⟩)
      · cases h
theorem rowOf_inj {m n : Nat} {k a k' a' : Int} {i : Nat} (h : rowOf m n k a = some i) (h' : rowOf m n k' a' = some i) : k = k' ∧ a = a' := by
  rcases rowOf_cases h with h1 | h1 | h1 <;> rcases rowOf_cases h' with h2 | h2 | h2 <;> exact ⟨by omega, by omega⟩
theorem rdn_out {R : List (List Int)} {i j : Nat} (h : (R.getD i []).length ≤ j) : rdn R i j = 0 := by
  unfold rdn
  rw [List.getD_eq_getElem?_getD, List.getElem?_eq_none h]; rfl
theorem vR_reg (m : Nat) (R : List (List Int)) (a b : Int) : vR m R 1 a b = regP m R a b := by
  unfold vR rowOf regP
  by_cases h : 0 ≤ a ∧ a < (m : Int)
  · rw [if_pos ⟨rfl, h⟩]
    simp only
    by_cases hb : b < 0
    · rw [if_pos hb, if_pos (by omega)]
    · rw [if_neg hb]
      split
      · exact rdn_out (by omega)
      · rfl
  · rw [if_neg (fun h' => h h'.2), if_neg (by omega), if_neg (by omega)]
    simp only
    rw [if_pos (by omega)]
theorem vR_cell (m : Nat) (R : List (List Int)) (b : Int) : vR m R 2 0 b = cellP m R b := by
  unfold vR rowOf cellP
  rw [if_neg (by omega), if_pos ⟨rfl, rfl⟩]
  simp only
  by_cases hb : b < 0
  · rw [if_pos hb, if_pos (by omega)]
  · rw [if_neg hb]
    split
    · exact rdn_out (by omega)
    · rfl
theorem vR_fld (m : Nat) (R : List (List Int)) (a : Int) (b : Nat) : vR m R 3 a b = (fldP m R a).getD b 0 := by
  unfold vR rowOf fldP cntP
  rw [if_neg (by omega), if_neg (by omega)]
  by_cases h : 1 ≤ a ∧ (m : Int) + a < R.length
  · rw [if_pos ⟨rfl, h⟩, if_neg (by omega)]
    simp only
    rw [if_neg (by omega)]
    rfl
  · rw [if_neg (fun h' => h h'.2), if_pos (by omega)]
    rfl
theorem vR_set {m : Nat} {R : List (List Int)} {k a : Int} {i j : Nat} {zs : List Int} (hr : rowOf m R.length k a = some i) (hz : R[i]? = some zs) (hj : j < zs.length) (x : Int) (k' a' b' : Int) :
    vR m (R.set i (zs.set j x)) k' a' b' = if k' = k ∧ a' = a ∧ b' = j then x else vR m R k' a' b' := by
  have hil := (List.getElem?_eq_some_iff.1 hz).1
  unfold vR
  rw [List.length_set]
  cases h : rowOf m R.length k' a' with
  | none =>
    rw [if_neg]
    rintro ⟨rfl, rfl, _⟩
    rw [hr] at h; cases h
  | some i' =>
    simp only
    by_cases e : i' = i
    · subst e
      obtain ⟨rfl, rfl⟩ := rowOf_inj h hr
      have h1 : (R.set i' (zs.set j x))[i']? = some (zs.set j x) := List.getElem?_set_self hil
      by_cases hb : b' < 0
      · rw [if_pos hb, if_neg (by omega), if_pos hb]
      · rw [if_neg hb, if_neg hb, rdn_some h1, rdn_some hz]
        by_cases e2 : b' = j
        · rw [if_pos ⟨rfl, rfl, e2⟩, e2, Int.toNat_natCast]
          exact getD_set_self hj x
        · rw [if_neg (fun h => e2 h.2.2), List.getD_eq_getElem?_getD, List.getElem?_set_ne (by omega), List.getD_eq_getElem?_getD]
    · have h1 : (R.set i (zs.set j x)).getD i' [] = R.getD i' [] := by
        rw [List.getD_eq_getElem?_getD, List.getElem?_set_ne (fun h => e h.symm), List.getD_eq_getElem?_getD]
      have hne : ¬ (k' = k ∧ a' = a ∧ b' = j) := by
        rintro ⟨rfl, rfl, _⟩
        rw [hr] at h
        injection h with h
        exact e h.symm
      rw [if_neg hne]
      unfold rdn
      rw [h1]
theorem vR_add {m : Nat} {R : List (List Int)} (hm : m < R.length) (b : Nat) (k a j : Int) : vR m (R ++ [List.replicate b 0]) k a j = vR m R k a j := by
  unfold vR
  have key : ∀ i, i < R.length → rdn (R ++ [List.replicate b 0]) i j.toNat = rdn R i j.toNat := fun i hi => by
    have e : (R ++ [List.replicate b (0 : Int)]).getD i [] = R.getD i [] := by
      rw [List.getD_eq_getElem?_getD, List.getElem?_append_left hi, ← List.getD_eq_getElem?_getD]
    unfold rdn
    rw [e]
  have knew : rdn (R ++ [List.replicate b 0]) R.length j.toNat = 0 := by
    have e : (R ++ [List.replicate b (0 : Int)]).getD R.length [] = List.replicate b 0 := by
      rw [List.getD_eq_getElem?_getD, List.getElem?_append_right (Nat.le_refl _)]
      simp
    unfold rdn
    rw [e, List.getD_eq_getElem?_getD, List.getElem?_replicate]
    split <;> rfl
  cases h : rowOf m R.length k a with
  | some i =>
    have h2 : rowOf m (R ++ [List.replicate b (0 : Int)]).length k a = some i := by
      unfold rowOf at h ⊢
      simp only [List.length_append, List.length_singleton]
      split at h
      · rename_i h1; rw [if_pos h1]; exact h
      · rename_i h1
        rw [if_neg h1]
        split at h
        · rename_i h1; rw [if_pos h1]; exact h
        · rename_i h1
          rw [if_neg h1]
          split at h
          · rename_i h1; rw [if_pos ⟨h1.1, h1.2.1, by omega⟩]; exact h
          · cases h
    rw [h2]
    simp only
    rw [key i (by rcases rowOf_cases h with h1 | h1 | h1 <;> omega)]
  | none =>
    simp only
    split
    · rfl
    · rename_i i h2
      split
      · rfl
      · have hi : i = R.length := by
          have h3 := rowOf_cases h2
          simp only [List.length_append, List.length_singleton] at h3
          rcases h3 with h3 | h3 | h3
          · unfold rowOf at h; rw [if_pos (by omega)] at h; cases h
          · unfold rowOf at h; rw [if_neg (by omega), if_pos (by omega)] at h; cases h
          · apply Classical.byContradiction
            intro hne
            unfold rowOf at h; rw [if_neg (by omega), if_neg (by omega), if_pos (by omega)] at h; cases h
        rw [hi]
        exact knew

/-- The list of places goes with the rows. -/
structure RelG (m : Nat) (R : List (List Int)) (S : List Int) (L : List PlaceR) : Prop where
  siz : S = (R.drop (m + 1)).map (fun fs => (fs.length : Int))
  at_ : ∀ k a b, atL L k a b = vR m R k a b
  live : ∀ p ∈ L, p.h ≠ 0 ∧ atL L p.k p.m p.n = p.h

section
variable {c : Conf} {m : Nat} {R : List (List Int)} {S : List Int} {L : List PlaceR}
theorem RelG.cnt (h : RelG m R S L) : S.length = cntP m R := by rw [h.siz]; simp [cntP]
theorem RelG.size_at (h : RelG m R S L) {p : Nat} {fs : List Int} (hfs : R[m + 1 + p]? = some fs) : S[p]? = some (fs.length : Int) := by
  rw [h.siz, List.getElem?_map, List.getElem?_drop, hfs]; rfl
theorem lay_live (h : ∀ p ∈ L, p.h ≠ 0 ∧ atL L p.k p.m p.n = p.h) (k a b x : Int) : ∀ p ∈ layL L k a b x, p.h ≠ 0 ∧ atL (layL L k a b x) p.k p.m p.n = p.h := by
  intro p hp
  have hp' := hp
  unfold layL at hp
  rcases List.mem_append.1 hp with hp | hp
  · obtain ⟨h1, h2⟩ := List.mem_filter.1 hp
    have h3 : ¬ (p.k = k ∧ p.m = a ∧ p.n = b) := fun e => by
      have := PlaceR.is_iff.2 e
      rw [this] at h2; cases h2
    rw [atL_lay_other L x h3]
    exact h p h1
  · split at hp
    · cases hp
    · rename_i hx
      simp at hp
      subst hp
      exact ⟨hx, atL_lay_self L k a b x⟩
theorem RelG.lay (h : RelG m R S L) {k a : Int} {i j : Nat} {zs : List Int} (hr : rowOf m R.length k a = some i) (hz : R[i]? = some zs) (hj : j < zs.length) (x : Int) : RelG m (R.set i (zs.set j x)) S (layL L k a j x) := by
  refine ⟨?_, fun k' a' b' => ?_, lay_live h.live k a j x⟩
  · rw [h.siz]
    apply List.ext_getElem?
    intro q
    rw [List.getElem?_map, List.getElem?_map, List.getElem?_drop, List.getElem?_drop]
    by_cases e : i = m + 1 + q
    · subst e
      rw [List.getElem?_set_self (List.getElem?_eq_some_iff.1 hz).1, hz]
      simp
    · rw [List.getElem?_set_ne e]
  · rw [vR_set hr hz hj]
    split
    · rename_i e
      obtain ⟨rfl, rfl, rfl⟩ := e
      exact atL_lay_self L _ _ _ x
    · rename_i e
      rw [atL_lay_other L x e]
      exact h.at_ k' a' b'
theorem RelG.add (h : RelG m R S L) (hm : m < R.length) (b : Nat) : RelG m (R ++ [List.replicate b 0]) (S ++ [(b : Int)]) L := by
  refine ⟨?_, fun k a j => ?_, h.live⟩
  · rw [h.siz, List.drop_append_of_le_length (by omega)]
    simp
  · rw [vR_add hm]
    exact h.at_ k a j
end

/-- An operation, by places. -/
def rdo (c : Conf) (S : List Int) (L : List PlaceR) (mi : Int) (o : OpR) : List Int × List PlaceR × Int × Int :=
  if mi < 0 ∨ c.m ≤ mi then (S, L, 0, 4) else if chk c o ≠ 0 then (S, L, 0, chk c o)
  else if o.k = 1 then (S ++ [o.b], layL L 1 mi o.a ((S.length : Int) + 1), (S.length : Int) + 1, 0)
  else if o.k = 2 then
    if atL L 1 mi o.b = 0 then (S, L, 0, 6)
    else if o.c < 0 ∨ S.getD (atL L 1 mi o.b - 1).toNat 0 ≤ o.c then (S, L, 0, 7)
    else (S, layL L 1 mi o.a (atL L 3 (atL L 1 mi o.b) o.c), atL L 3 (atL L 1 mi o.b) o.c, 0)
  else if o.k = 3 then
    if atL L 1 mi o.a = 0 then (S, L, 0, 6)
    else if o.b < 0 ∨ S.getD (atL L 1 mi o.a - 1).toNat 0 ≤ o.b then (S, L, 0, 7)
    else (S, layL L 3 (atL L 1 mi o.a) o.b (atL L 1 mi o.c), 0, 0)
  else if o.k = 4 then (S, layL L 1 mi o.a (atL L 2 0 o.b), atL L 2 0 o.b, 0)
  else if o.k = 5 then (S, layL L 2 0 o.a (atL L 1 mi o.b), 0, 0)
  else if o.k = 6 then (S, layL L 1 mi o.a 0, 0, 0)
  else if o.k = 7 then (S, layL L 1 mi o.a (atL L 1 mi o.b), atL L 1 mi o.b, 0)
  else (S, L, 0, 0)
theorem rdo_len (c : Conf) (S : List Int) (L : List PlaceR) (mi : Int) (o : OpR) : (rdo c S L mi o).1.length ≤ S.length + 1 ∧ (rdo c S L mi o).2.1.length ≤ L.length + 1 := by
  have key : ∀ k m n h, (layL L k m n h).length ≤ L.length + 1 := layL_len L
  unfold rdo
  repeat' split
  all_goals first | exact ⟨by simp, key _ _ _ _⟩ | exact ⟨by simp, by simp⟩ | exact ⟨Nat.le_succ _, key _ _ _ _⟩

section
variable {c : Conf} {m : Nat} {R : List (List Int)} {S : List Int} {L : List PlaceR}
theorem rdo_rel (h : RelG m R S L) (hg : Good c m R) (hcm : c.m = m) (mi : Int) (o : OpR) :
    RelG m (gDoP c m R mi o).1 (rdo c S L mi o).1 (rdo c S L mi o).2.1 ∧ (rdo c S L mi o).2.2 = (gDoP c m R mi o).2 := by
  have hml := hg.lt
  unfold gDoP rdo
  rw [hcm]
  by_cases hr : mi < 0 ∨ (m : Int) ≤ mi
  · rw [if_pos hr, if_pos hr]; exact ⟨h, rfl⟩
  rw [if_neg hr, if_neg hr]
  by_cases hc : chk c o = 0
  case neg => rw [if_pos hc, if_pos hc]; exact ⟨h, rfl⟩
  rw [if_neg (not_not_intro hc), if_neg (not_not_intro hc)]
  obtain ⟨k, rfl⟩ : ∃ k : Nat, mi = k := ⟨mi.toNat, by omega⟩
  have hk : k < m := by omega
  have hkR : k < R.length := by omega
  obtain ⟨zs, hz⟩ : ∃ zs, R[k]? = some zs := ⟨_, List.getElem?_eq_getElem hkR⟩
  obtain ⟨cs, hcs⟩ : ∃ cs, R[m]? = some cs := ⟨_, List.getElem?_eq_getElem hml⟩
  have hzl := hg.reg k hk zs hz
  have hcl := hg.cell cs hcs
  have hro : ∀ n : Nat, m < n → rowOf m n 1 (k : Int) = some k := fun n _ => by unfold rowOf; rw [if_pos (by omega)]; simp
  have hrc : rowOf m R.length 2 0 = some m := by unfold rowOf; rw [if_neg (by omega), if_pos ⟨rfl, rfl⟩]
  have hA1 : ∀ b : Nat, atL L 1 (k : Int) (b : Int) = rdn R k b := fun b => by
    rw [h.at_]; unfold vR; rw [hro _ hml]; simp only; rw [if_neg (by omega), Int.toNat_natCast]
  have hA2 : ∀ b : Nat, atL L 2 0 (b : Int) = rdn R m b := fun b => by
    rw [h.at_]; unfold vR; rw [hrc]; simp only; rw [if_neg (by omega), Int.toNat_natCast]
  have hobj : ∀ b, b < zs.length → rdn R k b ≠ 0 → ∃ (q : Nat) (fs : List Int), rdn R k b = (q : Int) + 1 ∧ R[m + 1 + q]? = some fs ∧ m + (rdn R k b).toNat = m + 1 + q ∧ S.getD (rdn R k b - 1).toNat 0 = (fs.length : Int) ∧
      rowOf m R.length 3 (rdn R k b) = some (m + 1 + q) ∧ R.getD (m + (rdn R k b).toNat) [] = fs := by
    intro b hb h0
    obtain ⟨q, h1, h2⟩ := hg.val k zs b hz hb
    rw [rdn_some hz] at h0 ⊢
    rw [h1] at h0 ⊢
    have h3 : q ≠ 0 := fun e => h0 (by rw [e]; rfl)
    have hlt : m + 1 + (q - 1) < R.length := by omega
    have h4 : R[m + 1 + (q - 1)]? = some R[m + 1 + (q - 1)] := List.getElem?_eq_getElem hlt
    refine ⟨q - 1, R[m + 1 + (q - 1)], by omega, h4, by simp; omega, ?_, ?_, ?_⟩
    · have h5 := h.size_at h4
      have e : ((q : Int) - 1).toNat = q - 1 := by omega
      rw [e, List.getD_eq_getElem?_getD, h5]; rfl
    · unfold rowOf; rw [if_neg (by omega), if_neg (by omega), if_pos ⟨rfl, by omega, by omega⟩]
      congr 1
      omega
    · rw [getD_some (zs := R[m + 1 + (q - 1)])]
      rw [← h4]
      congr 1
      simp; omega
  obtain ⟨ok, oa, ob, oc⟩ := o
  unfold gdo
  simp only
  rcases chk_cases hc with ⟨hk1, ha, hb⟩ | ⟨hk1, ha, hb⟩ | ⟨hk1, ha, hb⟩ | ⟨hk1, ha, hb⟩ | ⟨hk1, ha, hb⟩ | ⟨hk1, ha⟩ | ⟨hk1, ha, hb⟩ | hk1 <;> simp only at hk1 <;> subst hk1
  · simp only at ha hb
    obtain ⟨a, rfl⟩ : ∃ a : Nat, oa = a := ⟨oa.toNat, by omega⟩
    obtain ⟨b, rfl⟩ : ∃ b : Nat, ob = b := ⟨ob.toNat, by omega⟩
    simp only [Int.reduceEq, reduceIte, Int.toNat_natCast]
    have hz' : (R ++ [List.replicate b (0 : Int)])[k]? = some zs := by rw [List.getElem?_append_left hkR]; exact hz
    have e : ((R.length - m : Nat) : Int) = (S.length : Int) + 1 := by rw [h.cnt]; unfold cntP; omega
    rw [e, wrn_some hz']
    exact ⟨(h.add hml b).lay (hro _ (by simp; omega)) hz' (by omega) _, rfl⟩
  · simp only at ha hb
    obtain ⟨a, rfl⟩ : ∃ a : Nat, oa = a := ⟨oa.toNat, by omega⟩
    obtain ⟨b, rfl⟩ : ∃ b : Nat, ob = b := ⟨ob.toNat, by omega⟩
    simp only [Int.reduceEq, reduceIte, Int.toNat_natCast]
    rw [hA1]
    by_cases h0 : rdn R k b = 0
    · rw [if_pos h0, if_pos h0]; exact ⟨h, rfl⟩
    · obtain ⟨q, fs, g1, g2, g3, g4, g5, g6⟩ := hobj b (by omega) h0
      rw [if_neg h0, if_neg h0, g4, g6]
      by_cases hf : oc < 0 ∨ (fs.length : Int) ≤ oc
      · rw [if_pos hf, if_pos hf]; exact ⟨h, rfl⟩
      · obtain ⟨f, rfl⟩ : ∃ f : Nat, oc = f := ⟨oc.toNat, by omega⟩
        have e3 : atL L 3 (rdn R k b) (f : Int) = rdn R (m + (rdn R k b).toNat) f := by
          rw [h.at_]; unfold vR; rw [g5]; simp only; rw [if_neg (by omega), Int.toNat_natCast, g3]
        rw [if_neg hf, if_neg hf, e3, Int.toNat_natCast, wrn_some hz]
        exact ⟨h.lay (hro _ hml) hz (by omega) _, rfl⟩
  · simp only at ha hb
    obtain ⟨a, rfl⟩ : ∃ a : Nat, oa = a := ⟨oa.toNat, by omega⟩
    obtain ⟨b, rfl⟩ : ∃ b : Nat, oc = b := ⟨oc.toNat, by omega⟩
    simp only [Int.reduceEq, reduceIte, Int.toNat_natCast]
    rw [hA1, hA1]
    by_cases h0 : rdn R k a = 0
    · rw [if_pos h0, if_pos h0]; exact ⟨h, rfl⟩
    · obtain ⟨q, fs, g1, g2, g3, g4, g5, g6⟩ := hobj a (by omega) h0
      rw [if_neg h0, if_neg h0, g4, g6]
      by_cases hf : ob < 0 ∨ (fs.length : Int) ≤ ob
      · rw [if_pos hf, if_pos hf]; exact ⟨h, rfl⟩
      · obtain ⟨f, rfl⟩ : ∃ f : Nat, ob = f := ⟨ob.toNat, by omega⟩
        have hw : wrn R (m + (rdn R k a).toNat) (f : Int).toNat (rdn R k b) = R.set (m + 1 + q) (fs.set f (rdn R k b)) := by
          unfold wrn
          rw [g6, g3, Int.toNat_natCast]
        rw [if_neg hf, if_neg hf, hw]
        exact ⟨h.lay g5 g2 (by omega) _, rfl⟩
  · simp only at ha hb
    obtain ⟨a, rfl⟩ : ∃ a : Nat, oa = a := ⟨oa.toNat, by omega⟩
    obtain ⟨b, rfl⟩ : ∃ b : Nat, ob = b := ⟨ob.toNat, by omega⟩
    simp only [Int.reduceEq, reduceIte, Int.toNat_natCast]
    rw [hA2, wrn_some hz]
    exact ⟨h.lay (hro _ hml) hz (by omega) _, rfl⟩
  · simp only at ha hb
    obtain ⟨a, rfl⟩ : ∃ a : Nat, oa = a := ⟨oa.toNat, by omega⟩
    obtain ⟨b, rfl⟩ : ∃ b : Nat, ob = b := ⟨ob.toNat, by omega⟩
    simp only [Int.reduceEq, reduceIte, Int.toNat_natCast]
    rw [hA1, wrn_some hcs]
    exact ⟨h.lay hrc hcs (by omega) _, trivial⟩
  · simp only at ha
    obtain ⟨a, rfl⟩ : ∃ a : Nat, oa = a := ⟨oa.toNat, by omega⟩
    simp only [Int.reduceEq, reduceIte, Int.toNat_natCast]
    rw [wrn_some hz]
    exact ⟨h.lay (hro _ hml) hz (by omega) _, trivial⟩
  · simp only at ha hb
    obtain ⟨a, rfl⟩ : ∃ a : Nat, oa = a := ⟨oa.toNat, by omega⟩
    obtain ⟨b, rfl⟩ : ∃ b : Nat, ob = b := ⟨ob.toNat, by omega⟩
    simp only [Int.reduceEq, reduceIte, Int.toNat_natCast]
    rw [hA1, wrn_some hz]
    exact ⟨h.lay (hro _ hml) hz (by omega) _, rfl⟩
  · simp only [Int.reduceEq, reduceIte]
    exact ⟨h, trivial⟩
end

/-- The numbers from 1 on. -/
def ids (k : Nat) : List Int := (List.range k).map (fun i : Nat => ((i : Int) + 1))
theorem ids_succ (k : Nat) : ids (k + 1) = ids k ++ [(k : Int) + 1] := by simp [ids, List.range_succ]
theorem ids_len (k : Nat) : (ids k).length = k := by simp [ids]
theorem mem_ids {k : Nat} {x : Int} : x ∈ ids k ↔ 1 ≤ x ∧ x ≤ k := by
  unfold ids
  rw [List.mem_map]
  constructor
  · rintro ⟨i, hi, rfl⟩
    have := List.mem_range.1 hi
    omega
  · rintro ⟨h1, h2⟩
    exact ⟨(x - 1).toNat, List.mem_range.2 (by omega), by omega⟩
theorem ids_strict (k : Nat) : (ids k).Pairwise (· < ·) := by
  unfold ids
  rw [List.pairwise_map]
  exact List.pairwise_lt_range.imp (fun h => by omega)

def rootOf (L : List PlaceR) (x : Int) : Bool := L.any (fun p => decide (p.k < 3) && p.h == x)
theorem rootOf_iff {L : List PlaceR} {x : Int} : rootOf L x = true ↔ ∃ p ∈ L, p.k < 3 ∧ p.h = x := by
  simp [rootOf]
def rootsR (L : List PlaceR) (n : Nat) : List Int := (ids n).filter (rootOf L)

section
variable {c : Conf} {m : Nat} {R : List (List Int)} {S : List Int} {L : List PlaceR}
theorem rdn_nz {i j : Nat} {x : Int} (h : rdn R i j = x) (h0 : x ≠ 0) : ∃ zs, R[i]? = some zs ∧ zs[j]? = some x := by
  unfold rdn at h
  by_cases hi : i < R.length
  · refine ⟨R[i], List.getElem?_eq_getElem hi, ?_⟩
    rw [getD_some (List.getElem?_eq_getElem hi)] at h
    by_cases hj : j < R[i].length
    · rw [List.getD_eq_getElem?_getD, List.getElem?_eq_getElem hj] at h
      rw [List.getElem?_eq_getElem hj]
      exact congrArg some h
    · rw [List.getD_eq_getElem?_getD, List.getElem?_eq_none (by omega)] at h
      exact absurd h.symm h0
  · have e : R.getD i [] = [] := by rw [List.getD_eq_getElem?_getD, List.getElem?_eq_none (by omega)]; rfl
    rw [e] at h
    exact absurd (by rw [← h]; rfl) h0
theorem root_iff (h : RelG m R S L) (hg : Good c m R) {x : Int} : (∃ p ∈ L, p.k < 3 ∧ p.h = x) ↔ x ∈ rootsAll m R m ∧ x ≠ 0 := by
  have hml := hg.lt
  constructor
  · rintro ⟨p, hp, hk, rfl⟩
    obtain ⟨h0, h1⟩ := h.live p hp
    refine ⟨?_, h0⟩
    rw [h.at_] at h1
    unfold vR at h1
    rw [mem_roots m (by omega)]
    split at h1
    · exact absurd h1.symm h0
    · rename_i i hr
      split at h1
      · exact absurd h1.symm h0
      · obtain ⟨zs, hz, hj⟩ := rdn_nz h1 h0
        have hx : p.h ∈ zs := List.mem_iff_getElem?.2 ⟨_, hj⟩
        rcases rowOf_cases hr with h2 | h2 | h2
        · exact .inr ⟨i, zs, h2.2.2, hz, hx⟩
        · obtain rfl := h2.2.2
          rw [getD_some hz]
          exact .inl hx
        · omega
  · rintro ⟨hx, h0⟩
    rw [mem_roots m (by omega)] at hx
    rcases hx with hx | ⟨i, zs, hi, hz, hx⟩
    · obtain ⟨j, hj⟩ := List.mem_iff_getElem?.1 hx
      have e : atL L 2 0 (j : Int) = x := by
        rw [h.at_]
        unfold vR rowOf
        rw [if_neg (by omega), if_pos ⟨rfl, rfl⟩]
        simp only
        rw [if_neg (by omega), Int.toNat_natCast]
        unfold rdn
        rw [List.getD_eq_getElem?_getD, hj]; rfl
      obtain ⟨p, hp, h1, -, -, h2⟩ := atL_some e h0
      exact ⟨p, hp, by omega, h2⟩
    · obtain ⟨j, hj⟩ := List.mem_iff_getElem?.1 hx
      have e : atL L 1 (i : Int) (j : Int) = x := by
        rw [h.at_]
        unfold vR rowOf
        rw [if_pos ⟨rfl, by omega, by omega⟩]
        simp only
        rw [if_neg (by omega), Int.toNat_natCast, Int.toNat_natCast, rdn_some hz, List.getD_eq_getElem?_getD, hj]; rfl
      obtain ⟨p, hp, h1, -, -, h2⟩ := atL_some e h0
      exact ⟨p, hp, by omega, h2⟩
theorem fld_iff (h : RelG m R S L) {a x : Int} : (∃ p ∈ L, p.k = 3 ∧ p.m = a ∧ p.h = x) ↔ x ∈ fldP m R a ∧ x ≠ 0 := by
  constructor
  · rintro ⟨p, hp, hk, rfl, rfl⟩
    obtain ⟨h0, h1⟩ := h.live p hp
    refine ⟨?_, h0⟩
    have hn : ¬ p.n < 0 := fun hn => by
      rw [h.at_] at h1
      unfold vR at h1
      split at h1
      · exact h0 h1.symm
      · rw [if_pos hn] at h1; exact h0 h1.symm
    obtain ⟨b, hb⟩ : ∃ b : Nat, p.n = b := ⟨p.n.toNat, by omega⟩
    rw [h.at_, hk, hb, vR_fld] at h1
    by_cases hl : b < (fldP m R p.m).length
    · rw [List.getD_eq_getElem?_getD, List.getElem?_eq_getElem hl] at h1
      rw [← h1]
      exact List.getElem_mem hl
    · rw [List.getD_eq_getElem?_getD, List.getElem?_eq_none (by omega)] at h1
      exact absurd h1.symm h0
  · rintro ⟨hx, h0⟩
    obtain ⟨j, hj⟩ := List.mem_iff_getElem?.1 hx
    have e : atL L 3 a (j : Int) = x := by
      rw [h.at_, vR_fld, List.getD_eq_getElem?_getD, hj]; rfl
    obtain ⟨p, hp, h1, h2, -, h3⟩ := atL_some e h0
    exact ⟨p, hp, h1, h2, h3⟩
theorem root_bound (h : RelG m R S L) (hg : Good c m R) {x : Int} (hx : x ∈ rootsAll m R m) (h0 : x ≠ 0) : 1 ≤ x ∧ x ≤ (S.length : Int) := by
  obtain ⟨q, rfl, hq⟩ := good_roots hg m (Nat.le_refl _) x hx
  rw [h.cnt]
  omega
theorem rootsR_eq (h : RelG m R S L) (hg : Good c m R) : rootsR L S.length = rootsL m R := by
  refine strict_ext _ _ ((ids_strict _).filter _) (sortL_strict _) (fun x => ?_)
  rw [rootsR, List.mem_filter, mem_ids, rootOf_iff, root_iff h hg, rootsL, mem_sortL]
  constructor
  · rintro ⟨_, h1, h2⟩; exact ⟨h1, h2⟩
  · rintro ⟨h1, h2⟩; exact ⟨root_bound h hg h1 h2, h1, h2⟩
theorem reach_bound (h : RelG m R S L) (hg : Good c m R) {x : Int} (hx : RC m R x) : 1 ≤ x ∧ x ≤ (S.length : Int) := by
  cases hx with
  | root h1 h0 => exact root_bound h hg h1 h0
  | step _ h1 h0 =>
    obtain ⟨q, rfl, hq⟩ := good_fld hg h1
    rw [h.cnt]
    omega

/-- How many aren't in yet. -/
def free (n : Nat) (I : List Int) : Nat := ((ids n).filter (fun x => !inL I x)).length
theorem free_le (n : Nat) (I : List Int) : free n I ≤ n := by
  have := List.length_filter_le (fun x => !inL I x) (ids n)
  rw [ids_len] at this
  exact this
theorem free_app {n : Nat} {I : List Int} {x : Int} (h1 : 1 ≤ x ∧ x ≤ n) (hx : x ∉ I) : free n (I ++ [x]) + 1 ≤ free n I := by
  have e : (ids n).filter (fun y => !inL (I ++ [x]) y) = ((ids n).filter (fun y => !inL I y)).filter (fun y => !(y == x)) := by
    rw [List.filter_filter]
    apply List.filter_congr
    intro y _
    have e2 : (x == y) = (y == x) := by
      by_cases hxy : x = y
      · subst hxy; rfl
      · rw [beq_eq_false_iff_ne.2 hxy, beq_eq_false_iff_ne.2 (fun h => hxy h.symm)]
    simp only [inL, List.any_append, List.any_cons, List.any_nil, Bool.or_false, e2]
    cases I.any (· == y) <;> cases y == x <;> rfl
  unfold free
  rw [e]
  have hm : x ∈ (ids n).filter (fun y => !inL I y) := List.mem_filter.2 ⟨mem_ids.2 h1, by
    have : inL I x = false := by rw [Bool.eq_false_iff]; exact fun h => hx (inL_true.1 h)
    rw [this]; rfl⟩
  have := (List.length_filter_lt_length_iff_exists (p := fun y : Int => !(y == x)) (l := (ids n).filter (fun y => !inL I y))).2 ⟨x, hm, by simp⟩
  omega

/-- What is in so far. -/
structure RX (m : Nat) (R : List (List Int)) (n : Nat) (I : List Int) : Prop where
  rc : ∀ x ∈ I, RC m R x
  rt : ∀ x, x ∈ rootsAll m R m → x ≠ 0 → x ∈ I
  len : I.length + free n I ≤ n + n
theorem RX.start (h : RelG m R S L) (hg : Good c m R) : RX m R S.length (rootsR L S.length) := by
  refine ⟨fun x hx => ?_, fun x hx h0 => ?_, ?_⟩
  · rw [rootsR_eq h hg, rootsL, mem_sortL] at hx
    exact .root hx.1 hx.2
  · rw [rootsR_eq h hg, rootsL, mem_sortL]
    exact ⟨hx, h0⟩
  · have h1 := free_le S.length (rootsR L S.length)
    have h2 := List.length_filter_le (rootOf L) (ids S.length)
    rw [ids_len] at h2
    unfold rootsR at h1 ⊢
    omega
theorem RX.add (h : RelG m R S L) (hg : Good c m R) {I : List Int} (hi : RX m R S.length I) {p : PlaceR} (hp : p ∈ L) (hk : p.k = 3) (hin : p.m ∈ I) (hno : p.h ∉ I) : RX m R S.length (I ++ [p.h]) ∧ free S.length (I ++ [p.h]) + 1 ≤ free S.length I := by
  obtain ⟨h1, h0⟩ := (fld_iff h).1 ⟨p, hp, hk, rfl, rfl⟩
  have hr : RC m R p.h := .step (hi.rc _ hin) h1 h0
  have hf := free_app (reach_bound h hg hr) hno
  refine ⟨⟨fun x hx => ?_, fun x hx h0 => List.mem_append.2 (.inl (hi.rt x hx h0)), ?_⟩, hf⟩
  · rcases List.mem_append.1 hx with hx | hx
    · exact hi.rc x hx
    · obtain rfl := List.mem_singleton.1 hx
      exact hr
  · have := hi.len
    simp only [List.length_append, List.length_singleton]
    omega
/-- Nothing is added any more: then all that is reached is in. -/
theorem RX.done (h : RelG m R S L) (hg : Good c m R) {I : List Int} (hi : RX m R S.length I) (hc : ∀ p ∈ L, p.k = 3 → p.m ∈ I → p.h ∈ I) (hn : S.length ≤ 1000) : IsReach m R ((ids S.length).filter (inL I)) := by
  have hmem : ∀ x, RC m R x → x ∈ I := fun x hx => by
    induction hx with
    | root h1 h0 => exact hi.rt _ h1 h0
    | step _ h1 h0 ih =>
      obtain ⟨p, hp, hk, rfl, rfl⟩ := (fld_iff h).2 ⟨h1, h0⟩
      exact hc p hp hk ih
  refine ⟨(ids_strict _).filter _, fun x => ?_, ?_⟩
  · rw [List.mem_filter, mem_ids, inL_true]
    exact ⟨fun hx => hi.rc x hx.2, fun hx => ⟨reach_bound h hg hx, hmem x hx⟩⟩
  · have := List.length_filter_le (inL I) (ids S.length)
    rw [ids_len] at this
    omega
end
end Go.Proofs.YtdplakfmdkjfdaaDoor
