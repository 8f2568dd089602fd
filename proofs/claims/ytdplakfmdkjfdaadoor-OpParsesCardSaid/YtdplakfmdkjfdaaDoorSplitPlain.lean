/- A text cut at blanks, in plain lists; numbers in tens. Of no program's walk. -/
import Derived.Test.YtdplakfmdkjfdaaDoorOpUses
import Derived.Test.YtdplakfmdkjfdaaDoorOpRef
namespace Go.Proofs.YtdplakfmdkjfdaaDoor
open Go.RowKit Go.Sort

/-- The words of a text. -/
def sp : List UInt8 → List (List UInt8)
  | [] => [[]]
  | c :: r => if c = 32 then [] :: sp r else (c :: (sp r).headD []) :: (sp r).tail
theorem sp_ne (s : List UInt8) : sp s ≠ [] := by
  cases s with
  | nil => simp [sp]
  | cons c r => unfold sp; split <;> simp
theorem ix_cons (c : UInt8) (r : List UInt8) : Lib.index (c :: r) [32] = if c = 32 then 0 else if Lib.index r [32] = -1 then -1 else Lib.index r [32] + 1 := by
  conv => lhs; unfold Lib.index
  by_cases h : c = 32
  · subst h
    simp [List.isPrefixOf]
  · have h' : ((32 : UInt8) == c) = false := beq_eq_false_iff_ne.2 (fun e => h e.symm)
    simp [List.isPrefixOf, h, h']
theorem splitK_sp : ∀ s : List UInt8, Lib.splitK [32] 0 (Lib.count s [32]) s = sp s
  | [] => by
    have h : Lib.index [] [32] = -1 := rfl
    rw [Lib.count_miss h]; rfl
  | c :: r => by
    have ih := splitK_sp r
    have hx := ix_cons c r
    by_cases h : c = 32
    · rw [if_pos h] at hx
      have hc := Lib.count_hit (i := 0) (by simp) hx
      rw [hc, Nat.add_comm]
      unfold Lib.splitK
      rw [hx]
      simp only [List.length_singleton, Nat.zero_add, List.drop_succ_cons, List.drop_zero]
      simp [sp, h]
      exact ih
    · rw [if_neg h] at hx
      by_cases hm : Lib.index r [32] = -1
      · rw [if_pos hm] at hx
        rw [Lib.count_miss hx]
        rw [Lib.count_miss hm] at ih
        simp only [Lib.splitK] at ih ⊢
        simp [sp, h, ← ih]
      · rw [if_neg hm] at hx
        have hge := Lib.index_ge r [32]
        obtain ⟨i, hi⟩ : ∃ i : Nat, Lib.index r [32] = i := ⟨(Lib.index r [32]).toNat, by omega⟩
        rw [hi] at hx
        have hx' : Lib.index (c :: r) [32] = ((i + 1 : Nat) : Int) := by rw [hx]; omega
        have hc := Lib.count_hit (by simp) hx'
        have hc2 := Lib.count_hit (by simp) hi
        rw [hc2, Nat.add_comm] at ih
        rw [hc, Nat.add_comm]
        unfold Lib.splitK at ih ⊢
        rw [hx']
        rw [hi] at ih
        have t1 : (((i : Nat) : Int) == -1) = false := beq_eq_false_iff_ne.2 (by omega)
        have t2 : (((i + 1 : Nat) : Int) == -1) = false := beq_eq_false_iff_ne.2 (by omega)
        rw [t1] at ih
        rw [t2]
        simp only [Bool.false_eq_true, if_false, List.length_singleton, Nat.add_zero, Int.toNat_natCast, List.drop_succ_cons, List.take_succ_cons] at ih ⊢
        unfold sp
        rw [if_neg h, ← ih]
        rfl
theorem splitW_sp (s : ByteArray) : (splitW s).map (fun b => b.data.toList) = sp s.data.toList := by
  unfold splitW
  rw [Lib.splitB_data]
  exact splitK_sp _

theorem sp_none : ∀ a : List UInt8, (∀ c ∈ a, c ≠ 32) → sp a = [a]
  | [], _ => rfl
  | c :: r, h => by
    unfold sp
    rw [if_neg (h c (by simp)), sp_none r (fun x hx => h x (by simp [hx]))]
    rfl
theorem sp_app : ∀ (a b : List UInt8), (∀ c ∈ a, c ≠ 32) → sp (a ++ 32 :: b) = a :: sp b
  | [], b, _ => by simp [sp]
  | c :: r, b, h => by
    rw [List.cons_append, sp, if_neg (h c (by simp)), sp_app r b (fun x hx => h x (by simp [hx]))]
    rfl
/-- The words joined again. -/
def jn : List (List UInt8) → List UInt8
  | [] => []
  | [a] => a
  | a :: b :: l => a ++ 32 :: jn (b :: l)
theorem jn_cons (c : UInt8) (a : List UInt8) (l : List (List UInt8)) : jn ((c :: a) :: l) = c :: jn (a :: l) := by
  cases l <;> rfl
theorem jn_sp : ∀ s : List UInt8, jn (sp s) = s
  | [] => rfl
  | c :: r => by
    have ih := jn_sp r
    unfold sp
    split
    · rename_i h
      subst h
      cases hs : sp r with
      | nil => exact absurd hs (sp_ne r)
      | cons a l =>
        rw [hs] at ih
        rw [jn, ih]
        rfl
    · cases hs : sp r with
      | nil => exact absurd hs (sp_ne r)
      | cons a l =>
        rw [hs] at ih
        simp only [List.headD_cons, List.tail_cons]
        rw [jn_cons, ih]
theorem sp_nob : ∀ s : List UInt8, ∀ a ∈ sp s, ∀ c ∈ a, c ≠ 32
  | [], a, ha, c, hc => by simp [sp] at ha; subst ha; simp at hc
  | x :: r, a, ha, c, hc => by
    have ih := sp_nob r
    unfold sp at ha
    split at ha
    · rcases List.mem_cons.1 ha with rfl | ha
      · simp at hc
      · exact ih a ha c hc
    · rename_i hx
      cases hs : sp r with
      | nil => exact absurd hs (sp_ne r)
      | cons b l =>
        rw [hs] at ha ih
        simp only [List.headD_cons, List.tail_cons] at ha
        rcases List.mem_cons.1 ha with rfl | ha
        · rcases List.mem_cons.1 hc with rfl | hc
          · exact hx
          · exact ih b (by simp) c hc
        · exact ih a (by simp [ha]) c hc
theorem sp_jn : ∀ l : List (List UInt8), l ≠ [] → (∀ a ∈ l, ∀ c ∈ a, c ≠ 32) → sp (jn l) = l
  | [], h, _ => absurd rfl h
  | [a], _, h => sp_none a (h a (by simp))
  | a :: b :: l, _, h => by
    rw [jn, sp_app a _ (h a (by simp)), sp_jn (b :: l) (by simp) (fun x hx => h x (by simp [hx]))]
end Go.Proofs.YtdplakfmdkjfdaaDoor
