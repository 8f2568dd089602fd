/- The graph's deeds, without a program: what stays, and what an operation tells. -/
import Derived.Test.YtkjplkkjdlanhaaGreatDoorGPlain
import Derived.Test.YtkjplkkjdlanhaaGreatDoorGRead
import Derived.Test.YtkjplkkjdlanhaaGreatDoorGNew
namespace Go.Proofs.YtkjplkkjdlanhaaGreatDoor
open Go.RowKit

theorem Good.rows0 {c : Conf} {m r n : Nat} (hr : c.r = r) (hn : c.c = n) (hr2 : r ≤ 100) (hn2 : n ≤ 100) : Good c m (rows0 m r n) := by
  have key : ∀ (i : Nat) (ys : List Int), (Go.Proofs.YtkjplkkjdlanhaaGreatDoor.rows0 m r n)[i]? = some ys → (i < m ∧ ys = List.replicate r 0) ∨ (i = m ∧ ys = List.replicate n 0) := by
    intro i ys hy
    unfold Go.Proofs.YtkjplkkjdlanhaaGreatDoor.rows0 at hy
    by_cases hi : i < m
    · rw [List.getElem?_append_left (by simpa using hi)] at hy
      simp [hi] at hy
      exact .inl ⟨hi, hy.symm⟩
    · have := (List.getElem?_eq_some_iff.1 hy).1
      simp at this
      have e : i = m := by omega
      subst e
      rw [List.getElem?_append_right (by simp)] at hy
      simp at hy
      exact .inr ⟨rfl, hy.symm⟩
  refine ⟨by simp [Go.Proofs.YtkjplkkjdlanhaaGreatDoor.rows0], fun i hi ys hy => ?_, fun ys hy => ?_, fun i ys j hy hj => ?_, fun i ys hy => ?_⟩
  · rcases key i ys hy with ⟨_, rfl⟩ | ⟨h, _⟩
    · simp [hr]
    · omega
  · rcases key m ys hy with ⟨h, _⟩ | ⟨_, rfl⟩
    · omega
    · simp [hn]
  · refine ⟨0, ?_, Nat.zero_le _⟩
    rcases key i ys hy with ⟨_, rfl⟩ | ⟨_, rfl⟩ <;> (simp at hj; simp [hj])
  · rcases key i ys hy with ⟨_, rfl⟩ | ⟨_, rfl⟩ <;> simpa

/-- What Do makes of the rows, case by case. -/
inductive DoCase (c : Conf) (m : Nat) (R : List (List Int)) (mi : Int) (o : OpR) : Prop where
  | err (e : Int) (he : e ≠ 0) (h : gDoP c m R mi o = (R, 0, e))
  | alloc (k a b : Nat) (zs : List Int) (hm : mi = k) (hk : k < m) (hz : R[k]? = some zs) (ho : o.k = 1) (ha : o.a = a) (hal : a < zs.length) (hb : b < 16)
      (h : gDoP c m R mi o = ((R ++ [List.replicate b 0]).set k (zs.set a ((R.length - m : Nat) : Int)), ((R.length - m : Nat) : Int), 0))
  | put (k a q : Nat) (zs : List Int) (hm : mi = k) (hk : k < m) (hz : R[k]? = some zs) (ho : o.k = 2 ∨ o.k = 4 ∨ o.k = 7) (ha : o.a = a) (hal : a < zs.length) (hq : q ≤ R.length - (m + 1))
      (h : gDoP c m R mi o = (R.set k (zs.set a (q : Int)), (q : Int), 0))
  | store (k a r f p q : Nat) (zs fs : List Int) (hm : mi = k) (hk : k < m) (hz : R[k]? = some zs) (ho : o.k = 3) (ha : o.a = a) (hal : a < zs.length) (hr : o.c = r) (hrl : r < zs.length) (hf : o.b = f) (hfl : f < fs.length)
      (hp : zs.getD a 0 = (p : Int) + 1) (hfs : R[m + 1 + p]? = some fs) (hq : zs.getD r 0 = (q : Int)) (hq2 : q ≤ R.length - (m + 1)) (h : gDoP c m R mi o = (R.set (m + 1 + p) (fs.set f (q : Int)), 0, 0))
  | cell (k a q : Nat) (cs : List Int) (hm : mi = k) (hk : k < m) (hz : R[m]? = some cs) (ho : o.k = 5) (hq : q ≤ R.length - (m + 1)) (h : gDoP c m R mi o = (R.set m (cs.set a (q : Int)), 0, 0))
  | drop (k a : Nat) (zs : List Int) (hm : mi = k) (hk : k < m) (hz : R[k]? = some zs) (ho : o.k = 6) (h : gDoP c m R mi o = (R.set k (zs.set a ((0 : Nat) : Int)), 0, 0))
  | safe (ho : o.k = 8) (h : gDoP c m R mi o = (R, 0, 0))

theorem doCase {c : Conf} {m : Nat} {R : List (List Int)} (hg : Good c m R) (mi : Int) (o : OpR) : DoCase c m R mi o := by
  by_cases hr : mi < 0 ∨ (m : Int) ≤ mi
  · exact .err 4 (by decide) (by unfold gDoP; rw [if_pos hr])
  by_cases hc : chk c o = 0
  case neg => exact .err (chk c o) hc (by unfold gDoP; rw [if_neg hr, if_pos hc])
  obtain ⟨k, rfl⟩ : ∃ k : Nat, mi = k := ⟨mi.toNat, by omega⟩
  have hk : k < m := by omega
  have e : gDoP c m R k o = gdo m R k o := by unfold gDoP; rw [if_neg hr, if_neg (by simpa using hc)]; simp
  have hml := hg.lt
  have hkR : k < R.length := by omega
  obtain ⟨zs, hz⟩ : ∃ zs, R[k]? = some zs := ⟨_, List.getElem?_eq_getElem hkR⟩
  obtain ⟨cs, hcs⟩ : ∃ cs, R[m]? = some cs := ⟨_, List.getElem?_eq_getElem hml⟩
  have hzl := hg.reg k hk zs hz
  have hcl := hg.cell cs hcs
  have hrd := rdn_some hz
  have hrc := rdn_some hcs
  have hwr := wrn_some hz
  have hwc := wrn_some hcs
  have hobj : ∀ b, b < zs.length → zs.getD b 0 ≠ 0 → ∃ (q : Nat) (fs : List Int), zs.getD b 0 = (q : Int) + 1 ∧ R[m + 1 + q]? = some fs ∧ m + (zs.getD b 0).toNat = m + 1 + q := by
    intro b hb h0
    obtain ⟨q, h1, h2⟩ := hg.val k zs b hz hb
    rw [h1] at h0 ⊢
    have h3 : q ≠ 0 := fun e => h0 (by rw [e]; rfl)
    have hlt : m + 1 + (q - 1) < R.length := by omega
    exact ⟨q - 1, R[m + 1 + (q - 1)], by omega, List.getElem?_eq_getElem hlt, by simp; omega⟩
  obtain ⟨ok, oa, ob, oc⟩ := o
  rcases chk_cases hc with ⟨hk1, ha, hb⟩ | ⟨hk1, ha, hb⟩ | ⟨hk1, ha, hb⟩ | ⟨hk1, ha, hb⟩ | ⟨hk1, ha, hb⟩ | ⟨hk1, ha⟩ | ⟨hk1, ha, hb⟩ | hk1 <;> simp only at hk1 <;> subst hk1
  · simp only at ha hb
    obtain ⟨a, rfl⟩ : ∃ a : Nat, oa = a := ⟨oa.toNat, by omega⟩
    obtain ⟨b, rfl⟩ : ∃ b : Nat, ob = b := ⟨ob.toNat, by omega⟩
    have hz' : (R ++ [List.replicate b (0 : Int)])[k]? = some zs := by rw [List.getElem?_append_left hkR]; exact hz
    refine .alloc k a b zs rfl hk hz rfl rfl (by omega) (by omega) ?_
    rw [e]
    simp only [gdo, Int.toNat_natCast, if_true]
    rw [wrn_some hz']
  · simp only at ha hb
    obtain ⟨a, rfl⟩ : ∃ a : Nat, oa = a := ⟨oa.toNat, by omega⟩
    obtain ⟨b, rfl⟩ : ∃ b : Nat, ob = b := ⟨ob.toNat, by omega⟩
    by_cases h0 : zs.getD b 0 = 0
    · refine .err 6 (by decide) ?_
      rw [e]
      simp only [gdo, hrd, Int.toNat_natCast, if_pos h0]
      rfl
    · obtain ⟨q, fs, hq, hf, hmq⟩ := hobj b (by omega) h0
      by_cases hout : oc < 0 ∨ (fs.length : Int) ≤ oc
      · refine .err 7 (by decide) ?_
        rw [e]
        simp only [gdo, hrd, Int.toNat_natCast, hmq, getD_some hf, if_neg h0, if_pos hout]
        rfl
      · obtain ⟨f, rfl⟩ : ∃ f : Nat, oc = f := ⟨oc.toNat, by omega⟩
        obtain ⟨x, hx, hx2⟩ := hg.val _ fs f hf (by omega)
        refine .put k a x zs rfl hk hz (.inl rfl) rfl (by omega) hx2 ?_
        rw [e, ← hx]
        simp only [gdo, hrd, Int.toNat_natCast, hmq, getD_some hf, if_neg h0, if_neg hout, rdn_some hf, hwr]
        rfl
  · simp only at ha hb
    obtain ⟨a, rfl⟩ : ∃ a : Nat, oa = a := ⟨oa.toNat, by omega⟩
    obtain ⟨r, rfl⟩ : ∃ r : Nat, oc = r := ⟨oc.toNat, by omega⟩
    by_cases h0 : zs.getD a 0 = 0
    · refine .err 6 (by decide) ?_
      rw [e]
      simp only [gdo, hrd, Int.toNat_natCast, if_pos h0]
      rfl
    · obtain ⟨p, fs, hq, hf, hmq⟩ := hobj a (by omega) h0
      by_cases hout : ob < 0 ∨ (fs.length : Int) ≤ ob
      · refine .err 7 (by decide) ?_
        rw [e]
        simp only [gdo, hrd, Int.toNat_natCast, hmq, getD_some hf, if_neg h0, if_pos hout]
        rfl
      · obtain ⟨f, rfl⟩ : ∃ f : Nat, ob = f := ⟨ob.toNat, by omega⟩
        obtain ⟨x, hx, hx2⟩ := hg.val k zs r hz (by omega)
        refine .store k a r f p x zs fs rfl hk hz rfl rfl (by omega) rfl (by omega) rfl (by omega) hq hf hx hx2 ?_
        rw [e, ← hx]
        simp only [gdo, hrd, Int.toNat_natCast, hmq, getD_some hf, if_neg h0, if_neg hout, wrn_some hf]
        rfl
  · simp only at ha hb
    obtain ⟨a, rfl⟩ : ∃ a : Nat, oa = a := ⟨oa.toNat, by omega⟩
    obtain ⟨b, rfl⟩ : ∃ b : Nat, ob = b := ⟨ob.toNat, by omega⟩
    obtain ⟨x, hx, hx2⟩ := hg.val m cs b hcs (by omega)
    refine .put k a x zs rfl hk hz (.inr (.inl rfl)) rfl (by omega) hx2 ?_
    rw [e, ← hx]
    simp only [gdo, Int.toNat_natCast, hrc, hwr]
    rfl
  · simp only at ha hb
    obtain ⟨a, rfl⟩ : ∃ a : Nat, oa = a := ⟨oa.toNat, by omega⟩
    obtain ⟨b, rfl⟩ : ∃ b : Nat, ob = b := ⟨ob.toNat, by omega⟩
    obtain ⟨x, hx, hx2⟩ := hg.val k zs b hz (by omega)
    refine .cell k a x cs rfl hk hcs rfl hx2 ?_
    rw [e, ← hx]
    simp only [gdo, Int.toNat_natCast, hrd, hwc]
    rfl
  · simp only at ha
    obtain ⟨a, rfl⟩ : ∃ a : Nat, oa = a := ⟨oa.toNat, by omega⟩
    refine .drop k a zs rfl hk hz rfl ?_
    rw [e]
    simp only [gdo, Int.toNat_natCast, hwr]
    rfl
  · simp only at ha hb
    obtain ⟨a, rfl⟩ : ∃ a : Nat, oa = a := ⟨oa.toNat, by omega⟩
    obtain ⟨b, rfl⟩ : ∃ b : Nat, ob = b := ⟨ob.toNat, by omega⟩
    obtain ⟨x, hx, hx2⟩ := hg.val k zs b hz (by omega)
    refine .put k a x zs rfl hk hz (.inr (.inr rfl)) rfl (by omega) hx2 ?_
    rw [e, ← hx]
    simp only [gdo, Int.toNat_natCast, hrd, hwr]
    rfl
  · exact .safe rfl (by rw [e]; rfl)

theorem Good.do_ {c : Conf} {m : Nat} {R : List (List Int)} (hg : Good c m R) (mi : Int) (o : OpR) : Good c m (gDoP c m R mi o).1 ∧ (gDoP c m R mi o).1.length ≤ R.length + 1 := by
  have hml := hg.lt
  cases doCase hg mi o with
  | err e he h => rw [h]; exact ⟨hg, Nat.le_succ _⟩
  | alloc k a b zs hm hk hz ho ha hal hb h =>
    rw [h]
    have h1 := hg.add b (by omega)
    have hz' : (R ++ [List.replicate b (0 : Int)])[k]? = some zs := by rw [List.getElem?_append_left (by omega)]; exact hz
    have e1 : (R ++ [List.replicate b (0 : Int)]).length = R.length + 1 := by simp
    refine ⟨h1.set hz' a (R.length - m) (by omega), by simp⟩
  | put k a q zs hm hk hz ho ha hal hq h => rw [h]; exact ⟨hg.set hz a q hq, by simp⟩
  | store k a r f p q zs fs hm hk hz ho ha hal hr hrl hf hfl hp hfs hq hq2 h => rw [h]; exact ⟨hg.set hfs f q hq2, by simp⟩
  | cell k a q cs hm hk hz ho hq h => rw [h]; exact ⟨hg.set hz a q hq, by simp⟩
  | drop k a zs hm hk hz ho h => rw [h]; exact ⟨hg.set hz a 0 (Nat.zero_le _), by simp⟩
  | safe ho h => rw [h]; exact ⟨hg, Nat.le_succ _⟩
/-- An error changes nothing, and tells 0. -/
theorem do_error {c : Conf} {m : Nat} {R : List (List Int)} (hg : Good c m R) (mi : Int) (o : OpR) (he : (gDoP c m R mi o).2.2 ≠ 0) : (gDoP c m R mi o).1 = R ∧ (gDoP c m R mi o).2.1 = 0 := by
  cases doCase hg mi o with
  | err e he h => rw [h]; exact ⟨rfl, rfl⟩
  | alloc k a b zs hm hk hz ho ha hal hb h => rw [h] at he; exact absurd rfl he
  | put k a q zs hm hk hz ho ha hal hq h => rw [h] at he; exact absurd rfl he
  | store k a r f p q zs fs hm hk hz ho ha hal hr hrl hf hfl hp hfs hq hq2 h => rw [h] at he; exact absurd rfl he
  | cell k a q cs hm hk hz ho hq h => rw [h] at he; exact absurd rfl he
  | drop k a zs hm hk hz ho h => rw [h] at he; exact absurd rfl he
  | safe ho h => rw [h] at he; exact absurd rfl he
end Go.Proofs.YtkjplkkjdlanhaaGreatDoor
