/- The graph's deeds, without a program: what an operation makes of the rows, and what it tells. -/
import Derived.Test.YtkjplkkjdlanhaaGreatDoorOp3
namespace Go.Proofs.YtkjplkkjdlanhaaGreatDoor
open Go.RowKit

def rdn (R : List (List Int)) (i j : Nat) : Int := (R.getD i []).getD j 0
def wrn (R : List (List Int)) (i j : Nat) (x : Int) : List (List Int) := R.set i ((R.getD i []).set j x)

/-- The deed of a kind, of mutator k: the rows behind it, what it tells, its error. -/
def gdo (m : Nat) (R : List (List Int)) (k : Nat) (o : OpR) : List (List Int) × Int × Int :=
  if o.k = 1 then (wrn (R ++ [List.replicate o.b.toNat 0]) k o.a.toNat ((R.length - m : Nat) : Int), ((R.length - m : Nat) : Int), 0)
  else if o.k = 2 then
    if rdn R k o.b.toNat = 0 then (R, 0, 6)
    else if o.c < 0 ∨ ((R.getD (m + (rdn R k o.b.toNat).toNat) []).length : Int) ≤ o.c then (R, 0, 7)
    else (wrn R k o.a.toNat (rdn R (m + (rdn R k o.b.toNat).toNat) o.c.toNat), rdn R (m + (rdn R k o.b.toNat).toNat) o.c.toNat, 0)
  else if o.k = 3 then
    if rdn R k o.a.toNat = 0 then (R, 0, 6)
    else if o.b < 0 ∨ ((R.getD (m + (rdn R k o.a.toNat).toNat) []).length : Int) ≤ o.b then (R, 0, 7)
    else (wrn R (m + (rdn R k o.a.toNat).toNat) o.b.toNat (rdn R k o.c.toNat), 0, 0)
  else if o.k = 4 then (wrn R k o.a.toNat (rdn R m o.b.toNat), rdn R m o.b.toNat, 0)
  else if o.k = 5 then (wrn R m o.a.toNat (rdn R k o.b.toNat), 0, 0)
  else if o.k = 6 then (wrn R k o.a.toNat 0, 0, 0)
  else if o.k = 7 then (wrn R k o.a.toNat (rdn R k o.b.toNat), rdn R k o.b.toNat, 0)
  else (R, 0, 0)
def gDoP (c : Conf) (m : Nat) (R : List (List Int)) (mi : Int) (o : OpR) : List (List Int) × Int × Int :=
  if mi < 0 ∨ (m : Int) ≤ mi then (R, 0, 4) else if chk c o ≠ 0 then (R, 0, chk c o) else gdo m R mi.toNat o

/-- What holds of the rows always. -/
structure Good (c : Conf) (m : Nat) (R : List (List Int)) : Prop where
  lt : m < R.length
  reg : ∀ i : Nat, i < m → ∀ zs : List Int, R[i]? = some zs → (zs.length : Int) = c.r
  cell : ∀ zs : List Int, R[m]? = some zs → (zs.length : Int) = c.c
  val : ∀ (i : Nat) (zs : List Int) (j : Nat), R[i]? = some zs → j < zs.length → ∃ q : Nat, zs.getD j 0 = q ∧ q ≤ R.length - (m + 1)
  sz : ∀ (i : Nat) (zs : List Int), R[i]? = some zs → zs.length ≤ 100

theorem Good.set {c : Conf} {m : Nat} {R : List (List Int)} (h : Good c m R) {i : Nat} {zs : List Int} (hz : R[i]? = some zs) (j q : Nat) (hq : q ≤ R.length - (m + 1)) : Good c m (R.set i (zs.set j (q : Int))) := by
  have hil := (List.getElem?_eq_some_iff.1 hz).1
  have key : ∀ (i' : Nat) (ys : List Int), (R.set i (zs.set j (q : Int)))[i']? = some ys → (∃ zs', R[i']? = some zs' ∧ ys.length = zs'.length) := by
    intro i' ys hy
    by_cases e : i = i'
    · subst e
      rw [List.getElem?_set_self hil] at hy
      cases hy
      exact ⟨zs, hz, by simp⟩
    · rw [List.getElem?_set_ne e] at hy
      exact ⟨ys, hy, rfl⟩
  refine ⟨by simpa using h.lt, fun i' hi ys hy => ?_, fun ys hy => ?_, fun i' ys j' hy hj => ?_, fun i' ys hy => (by obtain ⟨zs', h1, h2⟩ := key i' ys hy; rw [h2]; exact h.sz i' zs' h1)⟩
  · obtain ⟨zs', h1, h2⟩ := key i' ys hy
    rw [h2]; exact h.reg i' hi zs' h1
  · obtain ⟨zs', h1, h2⟩ := key m ys hy
    rw [h2]; exact h.cell zs' h1
  · rw [List.length_set]
    by_cases e : i = i'
    · subst e
      rw [List.getElem?_set_self hil] at hy
      cases hy
      simp only [List.length_set] at hj
      by_cases e2 : j = j'
      · subst e2
        exact ⟨q, by simp [hj], hq⟩
      · obtain ⟨q', h1, h2⟩ := h.val i zs j' hz hj
        refine ⟨q', ?_, h2⟩
        rw [← h1]
        simp [List.getD_eq_getElem?_getD, List.getElem?_set_ne e2]
    · rw [List.getElem?_set_ne e] at hy
      exact h.val i' ys j' hy hj
theorem Good.add {c : Conf} {m : Nat} {R : List (List Int)} (h : Good c m R) (b : Nat) (hb : b ≤ 100) : Good c m (R ++ [List.replicate b 0]) := by
  have hl := h.lt
  have key : ∀ (i : Nat) (ys : List Int), (R ++ [List.replicate b (0 : Int)])[i]? = some ys → (i < R.length ∧ R[i]? = some ys) ∨ ys = List.replicate b 0 ∧ i = R.length := by
    intro i ys hy
    by_cases hi : i < R.length
    · rw [List.getElem?_append_left hi] at hy; exact .inl ⟨hi, hy⟩
    · have := (List.getElem?_eq_some_iff.1 hy).1
      simp at this
      have e : i = R.length := by omega
      subst e
      rw [List.getElem?_append_right (Nat.le_refl _)] at hy
      simp at hy
      exact .inr ⟨hy.symm, rfl⟩
  refine ⟨by simp; omega, fun i hi ys hy => ?_, fun ys hy => ?_, fun i ys j hy hj => ?_, fun i ys hy => (by rcases key i ys hy with ⟨_, h1⟩ | ⟨rfl, _⟩; exact h.sz i ys h1; simpa using hb)⟩
  · rcases key i ys hy with ⟨_, h1⟩ | ⟨_, h1⟩
    · exact h.reg i hi ys h1
    · omega
  · rcases key m ys hy with ⟨_, h1⟩ | ⟨_, h1⟩
    · exact h.cell ys h1
    · omega
  · rcases key i ys hy with ⟨_, h1⟩ | ⟨rfl, h1⟩
    · obtain ⟨q, h2, h3⟩ := h.val i ys j h1 hj
      exact ⟨q, h2, by simp; omega⟩
    · refine ⟨0, ?_, Nat.zero_le _⟩
      simp at hj
      simp [hj]

/-! ### What a right operation keeps to -/
theorem wrong_zero {cur n below e : Int} (he : e ≠ 0) (h : wrongStep cur n below e = 0) : cur = 0 ∧ 0 ≤ n ∧ n < below := by
  unfold wrongStep at h
  split at h
  · exact absurd h he
  · rename_i h1
    subst h
    simp at h1
    omega
theorem chk_kind {c : Conf} {o : OpR} (h : chk c o = 0) : isKind o.k = true ∧ chkN c o (useL o.k).length = 0 := by
  unfold chk at h
  split at h
  · rename_i h1
    simp at h1
    exact ⟨h1.2, h⟩
  · simp at h
theorem chk_cases {c : Conf} {o : OpR} (h : chk c o = 0) :
    (o.k = 1 ∧ (0 ≤ o.a ∧ o.a < c.r) ∧ (0 ≤ o.b ∧ o.b < 16)) ∨ (o.k = 2 ∧ (0 ≤ o.a ∧ o.a < c.r) ∧ (0 ≤ o.b ∧ o.b < c.r)) ∨ (o.k = 3 ∧ (0 ≤ o.a ∧ o.a < c.r) ∧ (0 ≤ o.c ∧ o.c < c.r)) ∨
    (o.k = 4 ∧ (0 ≤ o.a ∧ o.a < c.r) ∧ (0 ≤ o.b ∧ o.b < c.c)) ∨ (o.k = 5 ∧ (0 ≤ o.a ∧ o.a < c.c) ∧ (0 ≤ o.b ∧ o.b < c.r)) ∨ (o.k = 6 ∧ (0 ≤ o.a ∧ o.a < c.r)) ∨ (o.k = 7 ∧ (0 ≤ o.a ∧ o.a < c.r) ∧ (0 ≤ o.b ∧ o.b < c.r)) ∨ o.k = 8 := by
  obtain ⟨h1, h2⟩ := chk_kind h
  obtain ⟨k, a, b, d⟩ := o
  simp only at *
  simp [isKind] at h1
  have e : k = 1 ∨ k = 2 ∨ k = 3 ∨ k = 4 ∨ k = 5 ∨ k = 6 ∨ k = 7 ∨ k = 8 := by omega
  rcases e with rfl | rfl | rfl | rfl | rfl | rfl | rfl | rfl
  · have e : useL 1 = [114, 115] := rfl
    simp only [e, List.length_cons, List.length_nil, chkN, letterStep, numOf] at h2
    simp at h2
    obtain ⟨h3, h4⟩ := wrong_zero (by decide) h2
    have h5 := (wrong_zero (by decide) h3).2
    exact .inl ⟨rfl, h5, h4⟩
  · have e : useL 2 = [114, 114, 102] := rfl
    simp only [e, List.length_cons, List.length_nil, chkN, letterStep, numOf] at h2
    simp at h2
    obtain ⟨h3, h4⟩ := wrong_zero (by decide) h2
    have h5 := (wrong_zero (by decide) h3).2
    exact .inr (.inl ⟨rfl, h5, h4⟩)
  · have e : useL 3 = [114, 102, 114] := rfl
    simp only [e, List.length_cons, List.length_nil, chkN, letterStep, numOf] at h2
    simp at h2
    obtain ⟨h3, h4⟩ := wrong_zero (by decide) h2
    have h5 := (wrong_zero (by decide) h3).2
    exact .inr (.inr (.inl ⟨rfl, h5, h4⟩))
  · have e : useL 4 = [114, 99] := rfl
    simp only [e, List.length_cons, List.length_nil, chkN, letterStep, numOf] at h2
    simp at h2
    obtain ⟨h3, h4⟩ := wrong_zero (by decide) h2
    have h5 := (wrong_zero (by decide) h3).2
    exact .inr (.inr (.inr (.inl ⟨rfl, h5, h4⟩)))
  · have e : useL 5 = [99, 114] := rfl
    simp only [e, List.length_cons, List.length_nil, chkN, letterStep, numOf] at h2
    simp at h2
    obtain ⟨h3, h4⟩ := wrong_zero (by decide) h2
    have h5 := (wrong_zero (by decide) h3).2
    exact .inr (.inr (.inr (.inr (.inl ⟨rfl, h5, h4⟩))))
  · have e : useL 6 = [114] := rfl
    simp only [e, List.length_cons, List.length_nil, chkN, letterStep, numOf] at h2
    simp at h2
    have h5 := (wrong_zero (by decide) h2).2
    exact .inr (.inr (.inr (.inr (.inr (.inl ⟨rfl, h5⟩)))))
  · have e : useL 7 = [114, 114] := rfl
    simp only [e, List.length_cons, List.length_nil, chkN, letterStep, numOf] at h2
    simp at h2
    obtain ⟨h3, h4⟩ := wrong_zero (by decide) h2
    have h5 := (wrong_zero (by decide) h3).2
    exact .inr (.inr (.inr (.inr (.inr (.inr (.inl ⟨rfl, h5, h4⟩))))))
  · exact .inr (.inr (.inr (.inr (.inr (.inr (.inr rfl))))))

theorem getD_some {R : List (List Int)} {i : Nat} {zs : List Int} (h : R[i]? = some zs) : R.getD i [] = zs := by rw [List.getD_eq_getElem?_getD, h]; rfl
theorem rdn_some {R : List (List Int)} {i : Nat} {zs : List Int} (h : R[i]? = some zs) (j : Nat) : rdn R i j = zs.getD j 0 := by unfold rdn; rw [getD_some h]
theorem wrn_some {R : List (List Int)} {i : Nat} {zs : List Int} (h : R[i]? = some zs) (j : Nat) (x : Int) : wrn R i j x = R.set i (zs.set j x) := by unfold wrn; rw [getD_some h]
end Go.Proofs.YtkjplkkjdlanhaaGreatDoor
