/- Plain facts of a deed: other mutators' registers; what a deed tells is what its register then holds; a store is found again; the objects' count. -/
import Derived.Test.YtdplakfmdkjfdaaDoorGPlain2
namespace Go.Proofs.YtdplakfmdkjfdaaDoor
open Go.RowKit

theorem regP_of {m k a : Nat} {R : List (List Int)} {zs : List Int} (hk : k < m) (hz : R[k]? = some zs) (ha : a < zs.length) : regP m R (k : Int) (a : Int) = zs.getD a 0 := by
  unfold regP
  rw [Int.toNat_natCast, Int.toNat_natCast, getD_some hz, rdn_some hz]
  exact if_neg (by omega)
theorem regP_row {m k : Nat} {R R' : List (List Int)} (h : R'[k]? = R[k]?) (r : Int) : regP m R' (k : Int) r = regP m R (k : Int) r := by
  unfold regP rdn
  simp only [Int.toNat_natCast, List.getD_eq_getElem?_getD, h]
theorem getD_set_self {zs : List Int} {a : Nat} (h : a < zs.length) (q : Int) : (zs.set a q).getD a 0 = q := by
  rw [List.getD_eq_getElem?_getD, List.getElem?_set_self h]; rfl

section
variable {c : Conf} {m : Nat} {R : List (List Int)}

/-- No other mutator's registers change. -/
theorem deed_other (hg : Good c m R) (mi : Int) (o : OpR) (k : Nat) (hk : k < m) (hne : (k : Int) ≠ mi) (r : Int) : regP m (gDoP c m R mi o).1 (k : Int) r = regP m R (k : Int) r := by
  have hml := hg.lt
  refine regP_row ?_ r
  cases doCase hg mi o with
  | err e he h => rw [h]
  | alloc k' a b zs hm hk' hz ho ha hal hb h =>
    rw [h]; simp only
    rw [List.getElem?_set_ne (by omega), List.getElem?_append_left (by omega)]
  | put k' a q zs hm hk' hz ho ha hal hq h => rw [h]; simp only; rw [List.getElem?_set_ne (by omega)]
  | store k' a r f p q zs fs hm hk' hz ho ha hal hr hrl hf hfl hp hfs hq hq2 h => rw [h]; simp only; rw [List.getElem?_set_ne (by omega)]
  | cell k' a q cs hm hk' hz ho hq h => rw [h]; simp only; rw [List.getElem?_set_ne (by omega)]
  | drop k' a zs hm hk' hz ho h => rw [h]; simp only; rw [List.getElem?_set_ne (by omega)]
  | safe ho h => rw [h]

/-- The objects' count. -/
theorem deed_count (hg : Good c m R) (mi : Int) (o : OpR) :
    ((gDoP c m R mi o).2.2 = 0 ∧ o.k = 1 ∧ cntP m (gDoP c m R mi o).1 = cntP m R + 1 ∧ (gDoP c m R mi o).2.1 = (cntP m R : Int) + 1) ∨ (¬ ((gDoP c m R mi o).2.2 = 0 ∧ o.k = 1) ∧ cntP m (gDoP c m R mi o).1 = cntP m R) := by
  have hml := hg.lt
  unfold cntP
  cases doCase hg mi o with
  | err e he h => rw [h]; exact .inr ⟨fun h => he h.1, rfl⟩
  | alloc k' a b zs hm hk' hz ho ha hal hb h => rw [h]; exact .inl ⟨rfl, ho, by simp; omega, by simp only; omega⟩
  | put k' a q zs hm hk' hz ho ha hal hq h => rw [h]; exact .inr ⟨fun h => by have := h.2; omega, by simp⟩
  | store k' a r f p q zs fs hm hk' hz ho ha hal hr hrl hf hfl hp hfs hq hq2 h => rw [h]; exact .inr ⟨fun h => by have := h.2; omega, by simp⟩
  | cell k' a q cs hm hk' hz ho hq h => rw [h]; exact .inr ⟨fun h => by have := h.2; omega, by simp⟩
  | drop k' a zs hm hk' hz ho h => rw [h]; exact .inr ⟨fun h => by have := h.2; omega, by simp⟩
  | safe ho h => rw [h]; exact .inr ⟨fun h => by have := h.2; omega, rfl⟩

/-- What is stored is found. -/
theorem deed_store (hg : Good c m R) (mi : Int) (o : OpR) (he : (gDoP c m R mi o).2.2 = 0) (hk : o.k = 3) : ∃ f : Nat, o.b = f ∧ f < (fldP m (gDoP c m R mi o).1 (regP m (gDoP c m R mi o).1 mi o.a)).length ∧
    (fldP m (gDoP c m R mi o).1 (regP m (gDoP c m R mi o).1 mi o.a)).getD f 0 = regP m (gDoP c m R mi o).1 mi o.c := by
  have hml := hg.lt
  cases doCase hg mi o with
  | err e he' h => rw [h] at he; exact absurd he he'
  | alloc k' a b zs hm hk' hz ho ha hal hb h => omega
  | put k' a q zs hm hk' hz ho ha hal hq h => omega
  | store k' a r f p q zs fs hm hk' hz ho ha hal hr hrl hf hfl hp hfs hq hq2 h =>
    rw [h]
    simp only
    have hpl := (List.getElem?_eq_some_iff.1 hfs).1
    have hz' : (R.set (m + 1 + p) (fs.set f (q : Int)))[k']? = some zs := by rw [List.getElem?_set_ne (by omega)]; exact hz
    rw [hm, ha, hr, regP_of hk' hz' hal, regP_of hk' hz' hrl, hp, hq]
    have e : fldP m (R.set (m + 1 + p) (fs.set f (q : Int))) ((p : Int) + 1) = fs.set f (q : Int) := by
      unfold fldP cntP
      rw [if_neg (by simp; omega)]
      have e2 : m + ((p : Int) + 1).toNat = m + 1 + p := by omega
      rw [e2]
      exact getD_some (List.getElem?_set_self hpl)
    rw [e]
    exact ⟨f, hf, by simpa using hfl, getD_set_self hfl _⟩
  | cell k' a q cs hm hk' hz ho hq h => omega
  | drop k' a zs hm hk' hz ho h => omega
  | safe ho h => omega

/-- What is told is what the register holds. -/
theorem deed_tell (hg : Good c m R) (mi : Int) (o : OpR) (he : (gDoP c m R mi o).2.2 = 0) (hk : o.k = 2 ∨ o.k = 4 ∨ o.k = 7) : (gDoP c m R mi o).2.1 = regP m (gDoP c m R mi o).1 mi o.a := by
  have hml := hg.lt
  cases doCase hg mi o with
  | err e he' h => rw [h] at he; exact absurd he he'
  | alloc k' a b zs hm hk' hz ho ha hal hb h => omega
  | put k' a q zs hm hk' hz ho ha hal hq h =>
    rw [h]
    simp only
    have hz' : (R.set k' (zs.set a (q : Int)))[k']? = some (zs.set a (q : Int)) := List.getElem?_set_self (by omega)
    rw [hm, ha, regP_of hk' hz' (by simpa using hal), getD_set_self hal]
  | store k' a r f p q zs fs hm hk' hz ho ha hal hr hrl hf hfl hp hfs hq hq2 h => omega
  | cell k' a q cs hm hk' hz ho hq h => omega
  | drop k' a zs hm hk' hz ho h => omega
  | safe ho h => omega
end
end Go.Proofs.YtdplakfmdkjfdaaDoor
