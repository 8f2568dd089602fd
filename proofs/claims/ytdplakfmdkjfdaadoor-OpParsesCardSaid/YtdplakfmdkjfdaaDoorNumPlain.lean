/- Numbers in tens, in plain lists; a line that is parsed again. -/
import Derived.Test.YtdplakfmdkjfdaaDoorSplitPlain
namespace Go.Proofs.YtdplakfmdkjfdaaDoor
open Go.RowKit Go.Sort

def val (a : Nat) (l : List UInt8) : Nat := l.foldl (fun a c => 10 * a + (c.toNat - 48)) a
def isDig (c : UInt8) : Bool := decide (48 ≤ c.toNat) && decide (c.toNat ≤ 57)
theorem isDig_iff {c : UInt8} : isDig c = true ↔ 48 ≤ c.toNat ∧ c.toNat ≤ 57 := by simp [isDig]
theorem val_snoc (a : Nat) (l : List UInt8) (c : UInt8) : val a (l ++ [c]) = 10 * val a l + (c.toNat - 48) := by simp [val]
theorem val_ge : ∀ (l : List UInt8) (a : Nat), a ≤ val a l
  | [], _ => Nat.le_refl _
  | c :: r, a => by
    have := val_ge r (10 * a + (c.toNat - 48))
    show a ≤ val (10 * a + (c.toNat - 48)) r
    omega
theorem parse10_val : ∀ (l : List UInt8) (a : Nat), (∀ c ∈ l, isDig c = true) → val a l < 18446744073709551616 → Lib.parseUint10 a l = .ok (val a l)
  | [], _, _, _ => rfl
  | c :: r, a, hd, hv => by
    have hc := isDig_iff.1 (hd c (by simp))
    have hv' : val (10 * a + (c.toNat - 48)) r < 18446744073709551616 := hv
    have h1 := val_ge r (10 * a + (c.toNat - 48))
    have e : a * 10 + (c.toNat - 48) = 10 * a + (c.toNat - 48) := by omega
    unfold Lib.parseUint10
    rw [if_pos hc, if_neg (by omega), if_neg (by omega), e, parse10_val r _ (fun x hx => hd x (by simp [hx])) hv']
    rfl
theorem dgt_dig (k : Nat) : isDig (dgt k) = true := by
  rw [isDig_iff, dgt_nat]
  omega
theorem dec_ne (n : Nat) : Lib.decDigits n ≠ [] := by
  by_cases h : n < 10
  · rw [dec_small n h]; simp
  · rw [dec_step n (by omega)]; simp
theorem dec_digs (n : Nat) : ∀ c ∈ Lib.decDigits n, isDig c = true := by
  induction n using Nat.strongRecOn with
  | ind n ih =>
    by_cases h : n < 10
    · rw [dec_small n h]
      intro c hc
      simp at hc
      rw [hc]; exact dgt_dig n
    · rw [dec_step n (by omega)]
      intro c hc
      rcases List.mem_append.1 hc with hc | hc
      · exact ih (n / 10) (by omega) c hc
      · simp at hc
        rw [hc]; exact dgt_dig n
theorem dec_val (n : Nat) : val 0 (Lib.decDigits n) = n := by
  induction n using Nat.strongRecOn with
  | ind n ih =>
    by_cases h : n < 10
    · rw [dec_small n h]
      show 10 * 0 + ((dgt n).toNat - 48) = n
      rw [dgt_nat]; omega
    · rw [dec_step n (by omega), val_snoc, ih (n / 10) (by omega), dgt_nat]
      omega
theorem itoa_of {n : Int} : (∃ u : Nat, n = u ∧ Lib.itoa n = Lib.decDigits u) ∨ (∃ u : Nat, 1 ≤ u ∧ n = -(u : Int) ∧ Lib.itoa n = 45 :: Lib.decDigits u) := by
  rcases Int.lt_or_le n 0 with h | h
  · refine .inr ⟨n.natAbs, by omega, by omega, ?_⟩
    have e : n = -((n.natAbs : Nat) : Int) := by omega
    conv => lhs; rw [e]
    exact Lib.itoa_neg _ (by omega)
  · refine .inl ⟨n.toNat, by omega, ?_⟩
    have e : n = ((n.toNat : Nat) : Int) := by omega
    conv => lhs; rw [e]
    exact Lib.itoa_nonneg _
theorem dec_head (u : Nat) : ∃ c r, Lib.decDigits u = c :: r ∧ isDig c = true := by
  cases h : Lib.decDigits u with
  | nil => exact absurd h (dec_ne u)
  | cons c r => exact ⟨c, r, rfl, dec_digs u c (by rw [h]; simp)⟩
theorem atoi_itoa {n : Int} (hn : (Lit.int .i64 n).wf = true) : atoiV (Lib.itoa n) = n := by
  have hb := bounds_i64 hn
  rcases itoa_of (n := n) with ⟨u, rfl, e⟩ | ⟨u, hu, rfl, e⟩
  · obtain ⟨c, r, hc, hd⟩ := dec_head u
    have hcd := isDig_iff.1 hd
    have hp : Lib.parseMag (Lib.decDigits u) = .ok u := by
      unfold Lib.parseMag
      rw [if_neg (dec_ne u), parse10_val _ _ (dec_digs u) (by rw [dec_val]; omega), dec_val]
    have key : Lib.atoiAll (Lib.decDigits u) = .ok (u : Int) := by
      rw [hc] at hp ⊢
      unfold Lib.atoiAll
      simp only
      rw [if_neg (by omega), hp]
      simp only
      rw [if_neg (by omega), if_neg (by omega), if_neg (by omega)]
    unfold atoiV
    rw [e, key]
  · have hp : Lib.parseMag (Lib.decDigits u) = .ok u := by
      unfold Lib.parseMag
      rw [if_neg (dec_ne u), parse10_val _ _ (dec_digs u) (by rw [dec_val]; omega), dec_val]
    have key : Lib.atoiAll (45 :: Lib.decDigits u) = .ok (-(u : Int)) := by
      unfold Lib.atoiAll
      simp only
      rw [if_pos (by decide), hp]
      simp only
      rw [if_neg (by simp), if_neg (by omega), if_pos (by decide)]
    unfold atoiV
    rw [e, key]
theorem itoa_nob (n : Int) : ∀ c ∈ Lib.itoa n, c ≠ 32 := by
  have key : ∀ u, ∀ c ∈ Lib.decDigits u, c ≠ 32 := fun u c hc e => by
    have := isDig_iff.1 (dec_digs u c hc)
    subst e
    simp at this
  rcases itoa_of (n := n) with ⟨u, rfl, e⟩ | ⟨u, hu, rfl, e⟩
  · rw [e]; exact key u
  · rw [e]
    intro c hc
    rcases List.mem_cons.1 hc with rfl | hc
    · decide
    · exact key u c hc
theorem wordL_nob (k : Int) : ∀ c ∈ wordL k, c ≠ 32 := by
  cases h : isKind k with
  | false => rw [wordL_none h]; simp
  | true => rcases kind_cases h with rfl | rfl | rfl | rfl | rfl | rfl | rfl | rfl <;> decide
/-- The words of an operation's line, behind j numbers. -/
def wordsN (o : OpR) (j : Nat) : List (List UInt8) := wordL o.k :: (List.range j).map (fun i => Lib.itoa (numOf o i))
theorem jn_snoc : ∀ (l : List (List UInt8)) (a : List UInt8), l ≠ [] → jn (l ++ [a]) = jn l ++ 32 :: a
  | [], _, h => absurd rfl h
  | [b], a, _ => rfl
  | b :: b' :: l, a, _ => by
    have ih := jn_snoc (b' :: l) a (by simp)
    show b ++ 32 :: jn (b' :: (l ++ [a])) = _
    rw [show b' :: (l ++ [a]) = (b' :: l) ++ [a] from rfl, ih, jn]
    simp
theorem lineN_jn (o : OpR) : ∀ j, lineN o j = jn (wordsN o j)
  | 0 => rfl
  | j + 1 => by
    have e : wordsN o (j + 1) = wordsN o j ++ [Lib.itoa (numOf o j)] := by
      unfold wordsN
      rw [List.range_succ, List.map_append]
      rfl
    rw [e, jn_snoc _ _ (by simp [wordsN]), lineN, lineN_jn o j]
theorem sp_line (o : OpR) : sp (lineL o) = wordsN o (useL o.k).length := by
  unfold lineL
  rw [lineN_jn]
  refine sp_jn _ (by simp [wordsN]) (fun a ha => ?_)
  unfold wordsN at ha
  rcases List.mem_cons.1 ha with rfl | ha
  · exact wordL_nob _
  · obtain ⟨i, _, rfl⟩ := List.mem_map.1 ha
    exact itoa_nob _
/-- Bytes as a string. -/
def bs (l : List UInt8) : ByteArray := ⟨l.toArray⟩
theorem bs_data (l : List UInt8) : (bs l).data.toList = l := rfl
theorem bs_back (b : ByteArray) : bs b.data.toList = b := by
  apply ByteArray.ext
  simp [bs]
theorem bs_inj {a b : List UInt8} (h : bs a = bs b) : a = b := by rw [← bs_data a, h, bs_data]
theorem splitW_bs (s : ByteArray) : splitW s = (sp s.data.toList).map bs := by
  rw [← splitW_sp, List.map_map]
  have : (bs ∘ fun b : ByteArray => b.data.toList) = id := by
    funext b; exact bs_back b
  rw [this, List.map_id]
theorem pk_word {k : Int} (h : isKind k = true) : ((pk (bs (wordL k)) 9 : Nat) : Int) = k := by
  rcases kind_cases h with rfl | rfl | rfl | rfl | rfl | rfl | rfl | rfl <;> kernel_rfl

/-- An operation's line, parsed again. -/
theorem parse_line {o : OpR} (hk : isKind o.k = true) (hwf : o.wf) : parseP (bs (lineL o)) = (bareP o, 0) := by
  have hsw : splitW (bs (lineL o)) = (wordsN o (useL o.k).length).map bs := by rw [splitW_bs, bs_data, sp_line]
  have hh : (splitW (bs (lineL o))).headD blank = bs (wordL o.k) := by rw [hsw]; rfl
  have hp : ((pk ((splitW (bs (lineL o))).headD blank) 9 : Nat) : Int) = o.k := by rw [hh, pk_word hk]
  have hpn : ∀ i, i < (useL o.k).length → pn (splitW (bs (lineL o))) (useL o.k).length i = numOf o i := fun i hi => by
    unfold pn
    rw [if_pos hi, hsw]
    have e : ((wordsN o (useL o.k).length).map bs).getD (i + 1) blank = bs (Lib.itoa (numOf o i)) := by
      rw [List.getD_eq_getElem?_getD, wordsN]
      simp [hi]
    rw [e, bs_data, atoi_itoa (wfN hwf i)]
  have hpo : parseO (splitW (bs (lineL o))) = bareP o := by
    unfold parseO
    rw [hp]
    unfold bareP
    rw [if_pos hk]
    unfold bareN
    congr 1
    · by_cases h0 : 0 < (useL o.k).length
      · rw [if_pos h0, hpn 0 h0]; rfl
      · rw [if_neg h0]; unfold pn; rw [if_neg h0]
    · by_cases h0 : 1 < (useL o.k).length
      · rw [if_pos h0, hpn 1 h0]; rfl
      · rw [if_neg h0]; unfold pn; rw [if_neg h0]
    · by_cases h0 : 2 < (useL o.k).length
      · rw [if_pos h0, hpn 2 h0]; rfl
      · rw [if_neg h0]; unfold pn; rw [if_neg h0]
  have hbk : bareP o = bareN o (useL o.k).length := by unfold bareP; rw [if_pos hk]
  unfold parseP
  rw [hp, hpo, hsw]
  rw [if_neg (by simp [wordsN]), if_pos]
  refine ⟨by rw [hbk]; exact hk, ?_⟩
  rw [hbk, lineL_ag (ag_bareN o), bs_data]
end Go.Proofs.YtdplakfmdkjfdaaDoor
