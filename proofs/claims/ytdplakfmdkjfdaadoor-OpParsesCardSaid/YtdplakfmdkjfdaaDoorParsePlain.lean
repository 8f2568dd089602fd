/- What the reference's Parse tells, and what op.Parse: the same. -/
import Derived.Test.YtdplakfmdkjfdaaDoorOpNumber
namespace Go.Proofs.YtdplakfmdkjfdaaDoor
open Go.RowKit Go.Sort

theorem digs_dec : ∀ (n : Nat) (d : List UInt8), d.length ≤ n → d ≠ [] → (∀ c ∈ d, isDig c = true) → (d.head? = some 48 → d = [48]) → Lib.decDigits (val 0 d) = d
  | 0, d, hn, hne, _, _ => absurd (List.eq_nil_of_length_eq_zero (by omega)) hne
  | n + 1, d, hn, hne, hd, h0 => by
    obtain ⟨a, c, rfl⟩ : ∃ a c, d = a ++ [c] := ⟨_, _, (List.dropLast_concat_getLast hne).symm⟩
    have hc := isDig_iff.1 (hd c (by simp))
    rw [val_snoc]
    have hdg : dgt (10 * val 0 a + (c.toNat - 48)) = c := by
      apply UInt8.toNat_inj.1
      rw [dgt_nat]
      omega
    cases a with
    | nil =>
      have e : val 0 [] = 0 := rfl
      rw [e] at hdg ⊢
      rw [dec_small _ (by omega), hdg]
      rfl
    | cons x a =>
      have hx : x ≠ 48 := fun e => by
        have := h0 (by rw [e]; rfl)
        simp at this
      have hpos := val_pos (r := a) (hd x (by simp)) hx
      have hdiv : (10 * val 0 (x :: a) + (c.toNat - 48)) / 10 = val 0 (x :: a) := by omega
      rw [dec_step _ (by omega), hdg, hdiv, digs_dec n (x :: a) (by simp at hn ⊢; omega) (by simp) (fun y hy => hd y (by simp at hy ⊢; rcases hy with h | h <;> simp [h])) (fun h => by simp at h; exact absurd h hx)]
theorem numD_spec {l D : List UInt8} {mi : Bool} {v : Int} (h : numD l D mi = some v) (hD : D.head? = some 48 → D ≠ [48] → l ≠ [48]) (hm : mi = true → l ≠ [48]) : Lib.decDigits (val 0 D) = D ∧ (mi = true → 1 ≤ val 0 D ∧ val 0 D ≤ 9223372036854775808 ∧ v = -(val 0 D : Int)) ∧ (mi = false → val 0 D ≤ 9223372036854775807 ∧ v = (val 0 D : Int)) := by
  unfold numD at h
  split at h
  · cases h
  · rename_i hg
    split at h
    · rename_i ha
      rw [List.all_eq_true] at ha
      have hne : D ≠ [] := fun e => hg (.inl (by rw [e]; decide))
      have hdec : Lib.decDigits (val 0 D) = D := digs_dec _ D (Nat.le_refl _) hne ha (fun h48 => by
        by_cases he : D = [48]
        · exact he
        · exact absurd (.inr (.inr ⟨h48, hD h48 he⟩)) hg)
      refine ⟨hdec, fun e => ?_, fun e => ?_⟩
      · rw [if_pos e] at h
        split at h
        · rename_i hle
          injection h with h
          refine ⟨?_, hle, h.symm⟩
          cases D with
          | nil => exact absurd rfl hne
          | cons c r =>
            refine val_pos (ha c (by simp)) (fun e48 => hg (.inr (.inr ⟨by rw [e48]; rfl, hm e⟩)))
        · cases h
      · rw [e] at h
        simp only [Bool.false_eq_true, if_false] at h
        split at h
        · rename_i hle
          injection h with h
          exact ⟨hle, h.symm⟩
        · cases h
    · cases h
theorem numV_itoa {a : List UInt8} {v : Int} (h : numV a = some v) : a = Lib.itoa v ∧ (Lit.int .i64 v).wf = true := by
  cases a with
  | nil => cases h
  | cons c r =>
    unfold numV at h
    simp only at h
    split at h
    · rename_i hc
      obtain ⟨h1, h2, -⟩ := numD_spec h (fun _ _ e => by rw [hc] at e; simp at e) (fun _ e => by rw [hc] at e; simp at e)
      obtain ⟨h3, h4, h5⟩ := h2 rfl
      subst h5
      refine ⟨?_, wf_of (by omega) (by omega)⟩
      rw [Lib.itoa_neg _ h3, h1, hc]
    · rename_i hc
      obtain ⟨h1, -, h2⟩ := numD_spec h (fun _ h2 => h2) (fun e => by cases e)
      obtain ⟨h3, h4⟩ := h2 rfl
      subst h4
      refine ⟨?_, wf_of (by omega) (by omega)⟩
      rw [Lib.itoa_nonneg, h1]
theorem dec_len19 {u : Nat} (h : u ≤ 9223372036854775808) : (Lib.decDigits u).length ≤ 19 := by
  have key : ∀ k u, u < 10 ^ k → 1 ≤ k → (Lib.decDigits u).length ≤ k := by
    intro k
    induction k with
    | zero => intro u _ h; omega
    | succ k ih =>
      intro u hu _
      by_cases h10 : u < 10
      · rw [dec_small u h10]; simp
      · rw [dec_step u (by omega)]
        have hk : 1 ≤ k := by
          rcases Nat.eq_zero_or_pos k with rfl | h
          · simp at hu; omega
          · exact h
        have : u / 10 < 10 ^ k := by
          rw [Nat.pow_succ] at hu
          exact Nat.div_lt_of_lt_mul (by omega)
        have := ih (u / 10) this hk
        simp
        omega
  exact key 19 u (Nat.lt_of_le_of_lt h (by decide)) (by decide)
theorem dec_head48 {u : Nat} : (Lib.decDigits u).head? = some 48 → Lib.decDigits u = [48] := by
  induction u using Nat.strongRecOn with
  | ind u ih =>
    intro h
    by_cases h10 : u < 10
    · rw [dec_small u h10] at h ⊢
      simp at h
      rw [h]
    · rw [dec_step u (by omega)] at h
      obtain ⟨c, r, hc, _⟩ := dec_head (u / 10)
      rw [hc] at h
      simp at h
      have h2 := ih (u / 10) (by omega) (by rw [hc, h]; rfl)
      have h3 := dec_val (u / 10)
      rw [h2] at h3
      have e : val 0 [48] = 0 := rfl
      omega
theorem numV_of_itoa {n : Int} (hn : (Lit.int .i64 n).wf = true) : numV (Lib.itoa n) = some n := by
  have hb := bounds_i64 hn
  rcases itoa_of (n := n) with ⟨u, rfl, e⟩ | ⟨u, hu, rfl, e⟩
  · obtain ⟨c, r, hc, hd⟩ := dec_head u
    have hl := dec_len19 (u := u) (by omega)
    have h48 := dec_head48 (u := u)
    have hv := dec_val u
    have hds := dec_digs u
    rw [e, hc]
    rw [hc] at hl h48 hv hds
    have hc45 : c ≠ 45 := fun e => by subst e; exact absurd hd (by decide)
    unfold numV
    simp only
    rw [if_neg hc45]
    unfold numD
    rw [if_neg, if_pos (List.all_eq_true.2 hds), hv]
    · simp; omega
    · rintro (h | h | ⟨h, h'⟩)
      · simp at h
      · omega
      · exact h' (h48 h)
  · have hl := dec_len19 (u := u) (by omega)
    have hv := dec_val u
    have hds := dec_digs u
    rw [e]
    unfold numV
    simp only
    rw [if_pos trivial]
    unfold numD
    rw [if_neg, if_pos (List.all_eq_true.2 hds), hv]
    · simp; omega
    · rintro (h | h | ⟨h, h'⟩)
      · have := dec_ne u
        exact this (List.eq_nil_of_length_eq_zero (by omega))
      · omega
      · have h2 := dec_head48 h
        rw [h2] at hv
        have e : val 0 [48] = 0 := rfl
        omega

/-- Does a text's first word, and their number, fit a kind? -/
def matchK (ws : List (List UInt8)) (k : Nat) : Prop := wordL (k : Int) = ws.headD [] ∧ ws.length = (useL (k : Int)).length + 1
def nv (ws : List (List UInt8)) (i : Nat) : Int := ((ws[i + 1]?).bind numV).getD 0
/-- What the reference's Parse tells. -/
def RP (ws : List (List UInt8)) (o : OpR) (ok : Bool) : Prop :=
  (∃ k : Nat, 1 ≤ k ∧ k ≤ 8 ∧ matchK ws k ∧ (((∀ a ∈ ws.tail, (numV a).isSome = true) ∧ o = ⟨(k : Int), nv ws 0, nv ws 1, nv ws 2⟩ ∧ ok = true) ∨ ((∃ a ∈ ws.tail, numV a = none) ∧ o = ⟨0, 0, 0, 0⟩ ∧ ok = false)))
  ∨ ((∀ k : Nat, 1 ≤ k → k ≤ 8 → ¬ matchK ws k) ∧ o = ⟨0, 0, 0, 0⟩ ∧ ok = false)
theorem pk_cases (w0 : ByteArray) : (pk w0 9 = 0 ∧ ∀ k : Nat, 1 ≤ k → k ≤ 8 → bs (wordL (k : Int)) ≠ w0) ∨ (∃ k : Nat, 1 ≤ k ∧ k ≤ 8 ∧ bs (wordL (k : Int)) = w0) := by
  by_cases h : ∃ k : Nat, 1 ≤ k ∧ k ≤ 8 ∧ bs (wordL (k : Int)) = w0
  · exact .inr h
  · have hn : ∀ k : Nat, 1 ≤ k → k ≤ 8 → bs (wordL (k : Int)) ≠ w0 := fun k h1 h2 e => h ⟨k, h1, h2, e⟩
    refine .inl ⟨?_, hn⟩
    have key : ∀ i, i ≤ 9 → pk w0 i = 0 := by
      intro i
      induction i with
      | zero => intro _; rfl
      | succ i ih =>
        intro hi
        unfold pk
        rw [if_neg, ih (by omega)]
        intro hh
        rw [Bool.and_eq_true, decide_eq_true_eq] at hh
        have hk := hh.1
        simp [isKind] at hk
        refine hn i (by omega) (by omega) ?_
        rw [← hh.2]
        unfold wordL
        rw [if_pos hh.1]
        rfl
    exact key 9 (Nat.le_refl _)
theorem splitW_len_sp (s : ByteArray) : (splitW s).length = (sp s.data.toList).length := by rw [splitW_bs, List.length_map]
theorem parse_ref {s : ByteArray} {o : OpR} {ok : Bool} (h : RP (sp s.data.toList) o ok) : parseP s = (o, if ok then 0 else 2) := by
  obtain ⟨w0, tl, hws⟩ : ∃ w0 tl, sp s.data.toList = w0 :: tl := by
    cases h : sp s.data.toList with
    | nil => exact absurd h (sp_ne _)
    | cons a l => exact ⟨a, l, rfl⟩
  have hnob := sp_nob s.data.toList
  have hjn := jn_sp s.data.toList
  have hsw : splitW s = (sp s.data.toList).map bs := splitW_bs s
  rw [hws] at h hnob hjn hsw
  have hh : (splitW s).headD blank = bs w0 := by rw [hsw]; rfl
  have hl : (splitW s).length = tl.length + 1 := by rw [hsw]; simp
  rcases h with ⟨k, h1, h8, ⟨hm1, hm2⟩, hres⟩ | ⟨hno, rfl, rfl⟩
  · have hm1' : wordL (k : Int) = w0 := hm1
    have hm2' : tl.length + 1 = (useL (k : Int)).length + 1 := hm2
    have hik : isKind (k : Int) = true := by simp [isKind]; omega
    have hp : pk (bs w0) 9 = k := by
      have := pk_word hik
      rw [hm1'] at this
      omega
    have hu := useL_len (k : Int)
    have hpn : ∀ i, i < (useL (k : Int)).length → ∃ a, tl[i]? = some a ∧ pn (splitW s) (useL (k : Int)).length i = atoiV a := fun i hi => by
      have hit : i < tl.length := by omega
      refine ⟨tl[i], List.getElem?_eq_getElem hit, ?_⟩
      unfold pn
      rw [if_pos hi, hsw]
      have e : ((w0 :: tl).map bs).getD (i + 1) blank = bs tl[i] := by
        rw [List.getD_eq_getElem?_getD]
        simp [hit]
      rw [e, bs_data]
    have hpo : parseO (splitW s) = ⟨(k : Int), pn (splitW s) (useL (k : Int)).length 0, pn (splitW s) (useL (k : Int)).length 1, pn (splitW s) (useL (k : Int)).length 2⟩ := by
      unfold parseO
      rw [hh, hp]
    have hlin : lineL (parseO (splitW s)) = s.data.toList ↔ ∀ (i : Nat) (a : List UInt8), tl[i]? = some a → Lib.itoa (atoiV a) = a := by
      have hsl := sp_line (parseO (splitW s))
      have hk : (parseO (splitW s)).k = (k : Int) := by rw [hpo]
      have hnum : ∀ i, i < (useL (k : Int)).length → numOf (parseO (splitW s)) i = pn (splitW s) (useL (k : Int)).length i := fun i hi => by
        rw [hpo]
        rcases (by omega : i = 0 ∨ i = 1 ∨ i = 2) with rfl | rfl | rfl <;> rfl
      rw [hk] at hsl
      unfold wordsN at hsl
      rw [hk, hm1'] at hsl
      constructor
      · intro he i a ha
        rw [he, hws] at hsl
        injection hsl with _ hsl
        have hi : i < tl.length := (List.getElem?_eq_some_iff.1 ha).1
        obtain ⟨a', ha', hpa⟩ := hpn i (by omega)
        rw [ha] at ha'
        injection ha' with ha'
        subst ha'
        have h9 : tl[i]? = ((List.range (useL (k : Int)).length).map (fun i => Lib.itoa (numOf (parseO (splitW s)) i)))[i]? := by rw [← hsl]
        rw [ha, List.getElem?_map, List.getElem?_range (by omega)] at h9
        simp only [Option.map_some] at h9
        injection h9 with h9
        rw [hnum i (by omega), hpa] at h9
        exact h9.symm
      · intro hall
        have hsl2 : sp (lineL (parseO (splitW s))) = w0 :: tl := by
          rw [hsl]
          congr 1
          apply List.ext_getElem?
          intro i
          by_cases hi : i < tl.length
          · obtain ⟨a, ha, hpa⟩ := hpn i (by omega)
            rw [ha, List.getElem?_map, List.getElem?_range (by omega)]
            simp only [Option.map_some]
            rw [hnum i (by omega), hpa, hall i a ha]
          · rw [List.getElem?_eq_none (by simp; omega), List.getElem?_eq_none (by omega)]
        have := jn_sp (lineL (parseO (splitW s)))
        rw [hsl2, hjn] at this
        exact this.symm
    have hlen : ¬ (splitW s).length ≠ (useL (pk ((splitW s).headD blank) 9 : Int)).length + 1 := by
      rw [hh, hp, hl]
      omega
    unfold parseP
    rw [if_neg hlen]
    rcases hres with ⟨hall, rfl, rfl⟩ | ⟨⟨a, ha, hna⟩, rfl, rfl⟩
    · have hcan : ∀ (i : Nat) (a : List UInt8), tl[i]? = some a → Lib.itoa (atoiV a) = a ∧ numV a = some (atoiV a) := fun i a ha => by
        have h2 := hall a (List.mem_of_getElem? ha)
        obtain ⟨v, hv⟩ := Option.isSome_iff_exists.1 h2
        obtain ⟨h3, h4⟩ := numV_itoa hv
        have h5 : atoiV a = v := by rw [h3]; exact atoi_itoa h4
        rw [h5]
        exact ⟨h3.symm, hv⟩
      have hnv : ∀ i, i < 3 → pn (splitW s) (useL (k : Int)).length i = nv (w0 :: tl) i := fun i hi => by
        by_cases hiu : i < (useL (k : Int)).length
        · obtain ⟨a, ha, hpa⟩ := hpn i hiu
          have h2 := (hcan i a ha).2
          unfold nv
          rw [List.getElem?_cons_succ, ha, hpa]
          simp [h2]
        · unfold pn nv
          rw [if_neg hiu, List.getElem?_cons_succ, List.getElem?_eq_none (by omega)]
          rfl
      rw [if_pos ⟨by rw [hpo]; exact hik, hlin.2 (fun i a ha => (hcan i a ha).1)⟩, hpo, hnv 0 (by decide), hnv 1 (by decide), hnv 2 (by decide)]
      rfl
    · rw [if_neg]
      · rfl
      · rintro ⟨_, h2⟩
        obtain ⟨i, hi⟩ := List.mem_iff_getElem?.1 ha
        have h3 := hlin.1 h2 i a hi
        have h4 : (Lit.int .i64 (atoiV a)).wf = true := atoiV_wf a
        have h5 := numV_of_itoa h4
        rw [h3, hna] at h5
        cases h5
  · have h0 : pk (bs w0) 9 = 0 ∨ ∃ k : Nat, 1 ≤ k ∧ k ≤ 8 ∧ wordL (k : Int) = w0 := by
      rcases pk_cases (bs w0) with ⟨h, _⟩ | ⟨k, h1, h2, h3⟩
      · exact .inl h
      · exact .inr ⟨k, h1, h2, bs_inj h3⟩
    unfold parseP
    rw [hh]
    rcases h0 with h0 | ⟨k, h1, h2, h3⟩
    · rw [h0]
      by_cases hx : (splitW s).length ≠ (useL ((0 : Nat) : Int)).length + 1
      · rw [if_pos hx]; rfl
      · rw [if_neg hx, if_neg]
        · rfl
        · rintro ⟨h9, _⟩
          unfold parseO at h9
          rw [hh, h0] at h9
          cases h9
    · have hik : isKind (k : Int) = true := by simp [isKind]; omega
      have hp : pk (bs w0) 9 = k := by
        have := pk_word hik
        rw [h3] at this
        omega
      rw [hp, if_pos]
      · rfl
      · intro e
        exact hno k h1 h2 ⟨h3, by rw [hl] at e; simpa using e⟩
end Go.Proofs.YtdplakfmdkjfdaaDoor
