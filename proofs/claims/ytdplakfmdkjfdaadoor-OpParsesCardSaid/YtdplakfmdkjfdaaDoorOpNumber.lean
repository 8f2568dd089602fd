/- The reference's Number. -/
import Derived.Test.YtdplakfmdkjfdaaDoorNumPlain
import Derived.Deep.DeepCutAuto
namespace Go.Proofs.YtdplakfmdkjfdaaDoor
open Go.RowKit Go.Sort

/-- A number of a text that is digits, with a sign or without. -/
def numD (l D : List UInt8) (mi : Bool) : Option Int :=
  if D.length < 1 ∨ 19 < D.length ∨ (D.head? = some 48 ∧ l ≠ [48]) then none
  else if D.all isDig = true then (if mi = true then (if val 0 D ≤ 9223372036854775808 then some (-(val 0 D : Int)) else none) else if val 0 D ≤ 9223372036854775807 then some (val 0 D : Int) else none)
  else none
def numV : List UInt8 → Option Int
  | [] => none
  | c :: r => if c = 45 then numD (c :: r) r true else numD (c :: r) (c :: r) false
theorem val_lt : ∀ (l : List UInt8) (a : Nat), (∀ c ∈ l, isDig c = true) → val a l + 1 ≤ (a + 1) * 10 ^ l.length
  | [], a, _ => by show a + 1 ≤ (a + 1) * 10 ^ 0; simp
  | c :: r, a, h => by
    have hc := isDig_iff.1 (h c (by simp))
    have ih := val_lt r (10 * a + (c.toNat - 48)) (fun x hx => h x (by simp [hx]))
    show val (10 * a + (c.toNat - 48)) r + 1 ≤ (a + 1) * 10 ^ (r.length + 1)
    refine Nat.le_trans ih ?_
    rw [Nat.pow_succ, Nat.mul_comm (10 ^ r.length), ← Nat.mul_assoc]
    exact Nat.mul_le_mul_right _ (by omega)
theorem val_lt19 {l : List UInt8} (h : ∀ c ∈ l, isDig c = true) (hl : l.length ≤ 19) : val 0 l < 10000000000000000000 := by
  have h1 := val_lt l 0 h
  have h2 : 10 ^ l.length ≤ 10 ^ 19 := Nat.pow_le_pow_right (by decide) hl
  have h3 : (10 : Nat) ^ 19 = 10000000000000000000 := by decide
  omega
theorem val_pos {c : UInt8} {r : List UInt8} (h : isDig c = true) (h0 : c ≠ 48) : 1 ≤ val 0 (c :: r) := by
  have hc := isDig_iff.1 h
  have h1 : c.toNat ≠ 48 := fun e => h0 (UInt8.toNat_inj.1 e)
  have := val_ge r (10 * 0 + (c.toNat - 48))
  show 1 ≤ val (10 * 0 + (c.toNat - 48)) r
  omega

theorem bs_toList (l : List UInt8) : (bs l).toList = l := by unfold bs; rw [ByteArray.toList_mk]
theorem byte_ne {c : UInt8} {n : Nat} (hn : n < 256) (h : c ≠ UInt8.ofNat n) : ((c.toNat : Int) == (n : Int)) = false := by
  rw [beq_eq_false_iff_ne]; intro e
  refine h (UInt8.toNat_inj.1 ?_)
  rw [UInt8.toNat_ofNat', Nat.mod_eq_of_lt (by omega)]
  omega

set_option maxRecDepth 4000 in
set_option maxHeartbeats 4000000 in
theorem rNumber_any (l : List UInt8) (w : World) (hl : l.length ≤ 1000) : Calls Tryd.prog 59 #[.string (bs l)] w fun e w' => ∃ x : Int, e = .returned (.tuple #[.int .i64 x, .bool (numV l).isSome]) ∧ (∀ v, numV l = some v → x = v) ∧ w' = w := by
  cases l with
  | nil =>
    have hne : (bs []).toList.isEmpty = true := by rw [bs_toList]; rfl
    have hsz : (bs []).size = 0 := rfl
    go_enter Tryd.func59, Tryd.ntmps59
    go_wp2_with fail
    go_ret2
    exact ⟨0, rfl, fun v h => by simp [numV] at h, rfl⟩
  | cons c r =>
    have hne : (bs (c :: r)).toList.isEmpty = false := by rw [bs_toList]; rfl
    have hsz : (bs (c :: r)).size = r.length + 1 := rfl
    have hg0 : (bs (c :: r))[0] = c := rfl
    by_cases hc : c = 45
    · have hc45 : ((c.toNat : Int) == 45) = true := by rw [hc]; rfl
      have HV : Hid (numV (c :: r) = numD (c :: r) r true) := by simp [Hid, numV, hc]
      rw [HV.out]
      have hex : (bs (c :: r)).extract 1 (r.length + 1) = bs r := by
        apply ByteArray.ext
        apply Array.ext'
        show ((bs (c :: r)).extract 1 (r.length + 1)).data.toList = r
        rw [Lib.extract_data]
        simp [bs]
      have HC := Lib.hid hc
      clear hc
      obtain ⟨l, hll⟩ : ∃ l, l = c :: r := ⟨_, rfl⟩
      have HLL := Lib.hid hll
      have HL48 : Hid (l ≠ [48]) := by rw [Hid, hll, HC.out]; simp
      rw [← hll] at hne hex ⊢
      have hsz' : (bs l).size = r.length + 1 := by rw [hll]; rfl
      have hg0' : (bs l)[0]'(by rw [hsz']; omega) = c := by subst hll; rfl
      cases r with
      | nil =>
        have HE : Hid (numD l [] true = none) := by simp [Hid, numD]
        rw [HE.out]
        have hsz2 : (bs []).size = 0 := rfl
        clear hll hg0
        go_enter Tryd.func59, Tryd.ntmps59
        go_wp2_with fail
        go_ret2
        exact ⟨0, rfl, (fun v h => by cases h), rfl⟩
      | cons d r =>
        clear hll hg0
        have HD0 : Hid ((d :: r).head? = some d) := rfl
        have HPOS : Hid (d ≠ 48 → (d :: r).all isDig = true → 1 ≤ val 0 (d :: r)) := fun h48 h => val_pos (by simp at h; exact h.1) h48
        obtain ⟨D, hD⟩ : ∃ D, D = d :: r := ⟨_, rfl⟩
        have hD1 : 1 ≤ D.length := by rw [hD]; simp
        have hsz2 : (bs D).size = D.length := rfl
        have hd0' : (bs D)[0]'(by rw [hsz2]; omega) = d := by subst hD; rfl
        rw [← hD] at hex hsz' HD0 HPOS ⊢
        have hsl : ∀ w, (Instr.slice 9 (.string (bs l)) (some (.int .i64 1)) none none).run Tryd.prog w = .ok (.string (bs D)) w := fun w => by
          rw [run_slice_string_l (P := Tryd.prog) w 9 (bs l) (by kernel_rfl) .i64 1 (by decide) (by rw [hsz']; omega), hsz', ← hex]
          rfl
        clear hD hsz hex
        by_cases h19 : 19 < D.length
        · have HE : Hid (numD l D true = none) := by unfold Hid numD; rw [if_pos (.inr (.inl h19))]
          rw [HE.out]
          have d1 : decide ((D.length : Int) < 1) = false := decide_eq_false (by omega)
          have d19 : decide (19 < (D.length : Int)) = true := decide_eq_true (by omega)
          go_enter Tryd.func59, Tryd.ntmps59
          go_wp2_with fail
          go_ret2
          exact ⟨0, rfl, (fun v h => by cases h), rfl⟩
        have d1 : decide ((D.length : Int) < 1) = false := decide_eq_false (by omega)
        have d19 : decide (19 < (D.length : Int)) = false := decide_eq_false (by omega)
        by_cases h48 : d = 48
        · have hdz : ((d.toNat : Int) == 48) = true := by rw [h48]; rfl
          have hq : ((bs l).toList == [48]) = false := by rw [bs_toList]; exact beq_eq_false_iff_ne.2 HL48.out
          have HE : Hid (numD l D true = none) := by unfold Hid numD; rw [if_pos (.inr (.inr ⟨by rw [HD0.out, h48], HL48.out⟩))]
          rw [HE.out]
          clear h48 h19
          go_enter Tryd.func59, Tryd.ntmps59
          go_wp2_with fail
          go_ret2
          exact ⟨0, rfl, (fun v h => by cases h), rfl⟩
        · have hdz : ((d.toNat : Int) == 48) = false := byte_ne (n := 48) (by decide) h48
          have HGO : Hid (¬ (D.length < 1 ∨ 19 < D.length ∨ (D.head? = some 48 ∧ l ≠ [48]))) := by
            unfold Hid
            rintro (h | h | ⟨h, _⟩)
            · omega
            · omega
            · rw [HD0.out] at h; injection h with h; exact h48 h
          have HPOS := Lib.hid (HPOS.out h48)
          have HDL : Hid (D.length ≤ 19) := by unfold Hid; omega
          clear h48 h19
          obtain ⟨z, hz⟩ : ∃ z, z = numD l D true := ⟨_, rfl⟩
          rw [← hz]
          have HZ := Lib.hid hz
          clear hz
          go_enter Tryd.func59, Tryd.ntmps59
          go_wp2_with fail
          go_loopg [6, 7] D.length (fun g s6 s7 wr => ∃ k : Nat, g + k = D.length ∧ s7 = .int .i64 k ∧ s6 = .int .u64 ((val 0 (D.take k) : Nat) : Int) ∧ Hid (∀ x ∈ D.take k, isDig x = true) ∧ wr = w)
          case atStart => exact ⟨0, by omega, rfl, rfl, (fun x hx => by simp at hx), rfl⟩
          case round =>
            obtain ⟨k, hg, rfl, rfl, HDG, rfl⟩ := hrel
            by_cases hlt : k < D.length
            · obtain ⟨x, hx⟩ : ∃ x, x = D[k] := ⟨_, rfl⟩
              have HGK : Hid ((bs D)[k] = x) := by rw [Hid, hx]; rfl
              have hkI : (k : Int) < (D.length : Int) := by omega
              have hk0 : (0 : Int) ≤ (k : Int) := by omega
              have hk19 : k < 19 := by have := HDL.out; omega
              have HTK : Hid (D.take (k + 1) = D.take k ++ [x]) := by rw [Hid, List.take_succ_eq_append_getElem hlt, hx]
              have HMEM : Hid (x ∈ D) := by rw [hx]; exact List.getElem_mem _
              clear hx
              have hdig : x.toNat < 48 ∨ (48 ≤ x.toNat ∧ 57 < x.toNat) ∨ (48 ≤ x.toNat ∧ x.toNat ≤ 57) := by omega
              have HBAD : Hid (isDig x = false → z = none) := fun hb => by
                rw [HZ.out]
                unfold numD
                rw [if_neg HGO.out, if_neg]
                intro ha
                rw [List.all_eq_true] at ha
                rw [ha x HMEM.out] at hb
                cases hb
              rcases hdig with h1 | ⟨h0, h1⟩ | ⟨h0, h1⟩
              · have HE := Lib.hid (HBAD.out (by simp [isDig]; omega))
                have t1 : decide (((bs D)[k].toNat : Int) < 48) = true := decide_eq_true (by rw [HGK.out]; omega)
                rw [← HGK.out] at h1
                go_wp2_with fail
                go_ret2
                exact ⟨0, by rw [HE.out]; rfl, (fun v h => by rw [HE.out] at h; cases h), rfl⟩
              · have HE := Lib.hid (HBAD.out (by simp [isDig]; omega))
                have t1 : decide (((bs D)[k].toNat : Int) < 48) = false := decide_eq_false (by rw [HGK.out]; omega)
                have t2 : decide (57 < ((bs D)[k].toNat : Int)) = true := decide_eq_true (by rw [HGK.out]; omega)
                rw [← HGK.out] at h0 h1
                go_wp2_with fail
                go_ret2
                exact ⟨0, by rw [HE.out]; rfl, (fun v h => by rw [HE.out] at h; cases h), rfl⟩
              · have t1 : decide (((bs D)[k].toNat : Int) < 48) = false := decide_eq_false (by rw [HGK.out]; omega)
                have t2 : decide (57 < ((bs D)[k].toNat : Int)) = false := decide_eq_false (by rw [HGK.out]; omega)
                have HDG2 : Hid (∀ y ∈ D.take (k + 1), isDig y = true) := fun y hy => by
                  rw [HTK.out] at hy
                  rcases List.mem_append.1 hy with hy | hy
                  · exact HDG.out y hy
                  · simp at hy
                    rw [hy, isDig_iff]
                    exact ⟨h0, h1⟩
                have hval : val 0 (D.take (k + 1)) = 10 * val 0 (D.take k) + (x.toNat - 48) := by rw [HTK.out, val_snoc]
                have hb := val_lt19 HDG2.out (by rw [List.length_take]; have := HDL.out; omega)
                have HVAL : Hid (((val 0 (D.take (k + 1)) : Nat) : Int) = 10 * ((val 0 (D.take k) : Nat) : Int) + ((x.toNat : Int) - 48)) := by unfold Hid; omega
                rw [hval] at hb
                generalize val 0 (D.take k) = m at *
                clear hval
                rw [← HGK.out] at HVAL hb h0 h1
                go_wp2_with fail
                go_roundg (gk - 1)
                case measure => omega
                case rel => exact ⟨k + 1, by omega, by go_num, congrArg (Value.int .u64) HVAL.out.symm, HDG2, rfl⟩
            · obtain rfl : k = D.length := by omega
              have HALL : Hid (D.all isDig = true) := by
                have h := HDG.out
                rw [List.take_length] at h
                rw [Hid, List.all_eq_true]
                exact h
              have hb := val_lt19 HDG.out (by rw [List.length_take]; have := HDL.out; omega)
              have HN : Hid (z = if val 0 D ≤ 9223372036854775808 then some (-(val 0 D : Int)) else none) := by
                unfold Hid
                rw [HZ.out]
                unfold numD
                rw [if_neg HGO.out, if_pos HALL.out]
                rfl
              rw [List.take_length] at hb ⊢
              have HM0 := Lib.hid (HPOS.out HALL.out)
              generalize val 0 D = m at *
              have hfit : m ≤ 9223372036854775808 ∨ 9223372036854775808 < m := by omega
              rcases hfit with hf | hf
              · have HE : Hid (z = some (-(m : Int))) := by
                  have e : z = if m ≤ 9223372036854775808 then some (-(m : Int)) else none := HN.out
                  rw [Hid, e, if_pos hf]
                have t1 : decide ((m : Int) ≤ 9223372036854775808) = true := decide_eq_true (by omega)
                have hm0 := HM0.out
                go_wp2_with fail
                go_ret2
                exact ⟨-((m : Int) - 1) - 1, by rw [HE.out]; rfl, (fun v h => by rw [HE.out] at h; injection h with h; omega), rfl⟩
              · have HE : Hid (z = none) := by
                  have e : z = if m ≤ 9223372036854775808 then some (-(m : Int)) else none := HN.out
                  rw [Hid, e, if_neg (by omega)]
                have t1 : decide ((m : Int) ≤ 9223372036854775808) = false := decide_eq_false (by omega)
                have hm0 := HM0.out
                go_wp2_with fail
                go_ret2
                exact ⟨_, by rw [HE.out]; rfl, (fun v h => by rw [HE.out] at h; cases h), rfl⟩
    · have hc45 : ((c.toNat : Int) == 45) = false := byte_ne (n := 45) (by decide) hc
      have HV : Hid (numV (c :: r) = numD (c :: r) (c :: r) false) := by simp [Hid, numV, hc]
      rw [HV.out]
      have HD0 : Hid ((c :: r).head? = some c) := rfl
      have HC1 : Hid (c = 48 → (c :: r) ≠ [48] → r ≠ []) := fun h1 h2 h3 => h2 (by rw [h1, h3])
      obtain ⟨l, hll⟩ : ∃ l, l = c :: r := ⟨_, rfl⟩
      have hD1 : 1 ≤ l.length := by rw [hll]; simp
      have hszl : (bs l).size = l.length := rfl
      have hg0' : (bs l)[0]'(by rw [hszl]; omega) = c := by subst hll; rfl
      rw [← hll] at hne HD0 ⊢
      clear hll hsz hg0 HV HC1 hl hc
      have d1 : decide ((l.length : Int) < 1) = false := decide_eq_false (by omega)
      by_cases h19 : 19 < l.length
      · have HE : Hid (numD l l false = none) := by unfold Hid numD; rw [if_pos (.inr (.inl h19))]
        rw [HE.out]
        have d19 : decide (19 < (l.length : Int)) = true := decide_eq_true (by omega)
        go_enter Tryd.func59, Tryd.ntmps59
        go_wp2_with fail
        go_ret2
        exact ⟨0, rfl, (fun v h => by cases h), rfl⟩
      have d19 : decide (19 < (l.length : Int)) = false := decide_eq_false (by omega)
      have HDL : Hid (l.length ≤ 19) := by unfold Hid; omega
      by_cases h48 : c = 48
      · have hcz : ((c.toNat : Int) == 48) = true := by rw [h48]; rfl
        have H48 := Lib.hid h48
        clear h48
        by_cases hr : l = [48]
        · have hq : ((bs l).toList == [48]) = true := by rw [bs_toList, hr]; rfl
          have HGO : Hid (¬ (l.length < 1 ∨ 19 < l.length ∨ (l.head? = some 48 ∧ l ≠ [48]))) := by
            unfold Hid
            rintro (h | h | ⟨_, h⟩)
            · omega
            · omega
            · exact h hr
          clear hr h19
          obtain ⟨z, hz⟩ : ∃ z, z = numD l l false := ⟨_, rfl⟩
          rw [← hz]
          have HZ := Lib.hid hz
          clear hz
          go_enter Tryd.func59, Tryd.ntmps59
          go_wp2_with fail
          go_loopg [6, 7] l.length (fun g s6 s7 wr => ∃ k : Nat, g + k = l.length ∧ s7 = .int .i64 k ∧ s6 = .int .u64 ((val 0 (l.take k) : Nat) : Int) ∧ Hid (∀ x ∈ l.take k, isDig x = true) ∧ wr = w)
          case atStart => exact ⟨0, by omega, rfl, rfl, (fun x hx => by simp at hx), rfl⟩
          case round =>
            obtain ⟨k, hg, rfl, rfl, HDG, rfl⟩ := hrel
            by_cases hlt : k < l.length
            · obtain ⟨x, hx⟩ : ∃ x, x = l[k] := ⟨_, rfl⟩
              have HGK : Hid ((bs l)[k] = x) := by rw [Hid, hx]; rfl
              have hkI : (k : Int) < (l.length : Int) := by omega
              have hk0 : (0 : Int) ≤ (k : Int) := by omega
              have hk19 : k < 19 := by have := HDL.out; omega
              have HTK : Hid (l.take (k + 1) = l.take k ++ [x]) := by rw [Hid, List.take_succ_eq_append_getElem hlt, hx]
              have HMEM : Hid (x ∈ l) := by rw [hx]; exact List.getElem_mem _
              clear hx
              have hdig : x.toNat < 48 ∨ (48 ≤ x.toNat ∧ 57 < x.toNat) ∨ (48 ≤ x.toNat ∧ x.toNat ≤ 57) := by omega
              have HBAD : Hid (isDig x = false → z = none) := fun hb => by
                rw [HZ.out]
                unfold numD
                rw [if_neg HGO.out, if_neg]
                intro ha
                rw [List.all_eq_true] at ha
                rw [ha x HMEM.out] at hb
                cases hb
              rcases hdig with h1 | ⟨h0, h1⟩ | ⟨h0, h1⟩
              · have HE := Lib.hid (HBAD.out (by simp [isDig]; omega))
                have t1 : decide (((bs l)[k].toNat : Int) < 48) = true := decide_eq_true (by rw [HGK.out]; omega)
                rw [← HGK.out] at h1
                go_wp2_with fail
                go_ret2
                exact ⟨0, by rw [HE.out]; rfl, (fun v h => by rw [HE.out] at h; cases h), rfl⟩
              · have HE := Lib.hid (HBAD.out (by simp [isDig]; omega))
                have t1 : decide (((bs l)[k].toNat : Int) < 48) = false := decide_eq_false (by rw [HGK.out]; omega)
                have t2 : decide (57 < ((bs l)[k].toNat : Int)) = true := decide_eq_true (by rw [HGK.out]; omega)
                rw [← HGK.out] at h0 h1
                go_wp2_with fail
                go_ret2
                exact ⟨0, by rw [HE.out]; rfl, (fun v h => by rw [HE.out] at h; cases h), rfl⟩
              · have t1 : decide (((bs l)[k].toNat : Int) < 48) = false := decide_eq_false (by rw [HGK.out]; omega)
                have t2 : decide (57 < ((bs l)[k].toNat : Int)) = false := decide_eq_false (by rw [HGK.out]; omega)
                have HDG2 : Hid (∀ y ∈ l.take (k + 1), isDig y = true) := fun y hy => by
                  rw [HTK.out] at hy
                  rcases List.mem_append.1 hy with hy | hy
                  · exact HDG.out y hy
                  · simp at hy
                    rw [hy, isDig_iff]
                    exact ⟨h0, h1⟩
                have hval : val 0 (l.take (k + 1)) = 10 * val 0 (l.take k) + (x.toNat - 48) := by rw [HTK.out, val_snoc]
                have hb := val_lt19 HDG2.out (by rw [List.length_take]; have := HDL.out; omega)
                have HVAL : Hid (((val 0 (l.take (k + 1)) : Nat) : Int) = 10 * ((val 0 (l.take k) : Nat) : Int) + ((x.toNat : Int) - 48)) := by unfold Hid; omega
                rw [hval] at hb
                generalize val 0 (l.take k) = m at *
                clear hval
                rw [← HGK.out] at HVAL hb h0 h1
                go_wp2_with fail
                go_roundg (gk - 1)
                case measure => omega
                case rel => exact ⟨k + 1, by omega, by go_num, congrArg (Value.int .u64) HVAL.out.symm, HDG2, rfl⟩
            · obtain rfl : k = l.length := by omega
              have HALL : Hid (l.all isDig = true) := by
                have h := HDG.out
                rw [List.take_length] at h
                rw [Hid, List.all_eq_true]
                exact h
              have hb := val_lt19 HDG.out (by rw [List.length_take]; have := HDL.out; omega)
              have HN : Hid (z = if val 0 l ≤ 9223372036854775807 then some (val 0 l : Int) else none) := by
                unfold Hid
                rw [HZ.out]
                unfold numD
                rw [if_neg HGO.out, if_pos HALL.out]
                rfl
              rw [List.take_length] at hb ⊢
              have HM0 : Hid True := trivial
              generalize val 0 l = m at *
              have hfit : m ≤ 9223372036854775807 ∨ 9223372036854775807 < m := by omega
              rcases hfit with hf | hf
              · have HE : Hid (z = some (m : Int)) := by
                  have e : z = if m ≤ 9223372036854775807 then some (m : Int) else none := HN.out
                  rw [Hid, e, if_pos hf]
                have t1 : decide ((m : Int) ≤ 9223372036854775807) = true := decide_eq_true (by omega)
                go_wp2_with fail
                go_ret2
                exact ⟨m, by rw [HE.out]; rfl, (fun v h => by rw [HE.out] at h; injection h), rfl⟩
              · have HE : Hid (z = none) := by
                  have e : z = if m ≤ 9223372036854775807 then some (m : Int) else none := HN.out
                  rw [Hid, e, if_neg (by omega)]
                have t1 : decide ((m : Int) ≤ 9223372036854775807) = false := decide_eq_false (by omega)
                go_wp2_with fail
                go_ret2
                exact ⟨_, by rw [HE.out]; rfl, (fun v h => by rw [HE.out] at h; cases h), rfl⟩
        · have hq : ((bs l).toList == [48]) = false := by rw [bs_toList]; exact beq_eq_false_iff_ne.2 hr
          have HE : Hid (numD l l false = none) := by unfold Hid numD; rw [if_pos (.inr (.inr ⟨by rw [HD0.out, H48.out], hr⟩))]
          rw [HE.out]
          clear h19 hr
          go_enter Tryd.func59, Tryd.ntmps59
          go_wp2_with fail
          go_ret2
          exact ⟨0, rfl, (fun v h => by cases h), rfl⟩
      · have hcz : ((c.toNat : Int) == 48) = false := byte_ne (n := 48) (by decide) h48
        have HGO : Hid (¬ (l.length < 1 ∨ 19 < l.length ∨ (l.head? = some 48 ∧ l ≠ [48]))) := by
          unfold Hid
          rintro (h | h | ⟨h, _⟩)
          · omega
          · omega
          · rw [HD0.out] at h; injection h with h; exact h48 h
        clear h48 h19
        obtain ⟨z, hz⟩ : ∃ z, z = numD l l false := ⟨_, rfl⟩
        rw [← hz]
        have HZ := Lib.hid hz
        clear hz
        go_enter Tryd.func59, Tryd.ntmps59
        go_wp2_with fail
        go_loopg [6, 7] l.length (fun g s6 s7 wr => ∃ k : Nat, g + k = l.length ∧ s7 = .int .i64 k ∧ s6 = .int .u64 ((val 0 (l.take k) : Nat) : Int) ∧ Hid (∀ x ∈ l.take k, isDig x = true) ∧ wr = w)
        case atStart => exact ⟨0, by omega, rfl, rfl, (fun x hx => by simp at hx), rfl⟩
        case round =>
          obtain ⟨k, hg, rfl, rfl, HDG, rfl⟩ := hrel
          by_cases hlt : k < l.length
          · obtain ⟨x, hx⟩ : ∃ x, x = l[k] := ⟨_, rfl⟩
            have HGK : Hid ((bs l)[k] = x) := by rw [Hid, hx]; rfl
            have hkI : (k : Int) < (l.length : Int) := by omega
            have hk0 : (0 : Int) ≤ (k : Int) := by omega
            have hk19 : k < 19 := by have := HDL.out; omega
            have HTK : Hid (l.take (k + 1) = l.take k ++ [x]) := by rw [Hid, List.take_succ_eq_append_getElem hlt, hx]
            have HMEM : Hid (x ∈ l) := by rw [hx]; exact List.getElem_mem _
            clear hx
            have hdig : x.toNat < 48 ∨ (48 ≤ x.toNat ∧ 57 < x.toNat) ∨ (48 ≤ x.toNat ∧ x.toNat ≤ 57) := by omega
            have HBAD : Hid (isDig x = false → z = none) := fun hb => by
              rw [HZ.out]
              unfold numD
              rw [if_neg HGO.out, if_neg]
              intro ha
              rw [List.all_eq_true] at ha
              rw [ha x HMEM.out] at hb
              cases hb
            rcases hdig with h1 | ⟨h0, h1⟩ | ⟨h0, h1⟩
            · have HE := Lib.hid (HBAD.out (by simp [isDig]; omega))
              have t1 : decide (((bs l)[k].toNat : Int) < 48) = true := decide_eq_true (by rw [HGK.out]; omega)
              rw [← HGK.out] at h1
              go_wp2_with fail
              go_ret2
              exact ⟨0, by rw [HE.out]; rfl, (fun v h => by rw [HE.out] at h; cases h), rfl⟩
            · have HE := Lib.hid (HBAD.out (by simp [isDig]; omega))
              have t1 : decide (((bs l)[k].toNat : Int) < 48) = false := decide_eq_false (by rw [HGK.out]; omega)
              have t2 : decide (57 < ((bs l)[k].toNat : Int)) = true := decide_eq_true (by rw [HGK.out]; omega)
              rw [← HGK.out] at h0 h1
              go_wp2_with fail
              go_ret2
              exact ⟨0, by rw [HE.out]; rfl, (fun v h => by rw [HE.out] at h; cases h), rfl⟩
            · have t1 : decide (((bs l)[k].toNat : Int) < 48) = false := decide_eq_false (by rw [HGK.out]; omega)
              have t2 : decide (57 < ((bs l)[k].toNat : Int)) = false := decide_eq_false (by rw [HGK.out]; omega)
              have HDG2 : Hid (∀ y ∈ l.take (k + 1), isDig y = true) := fun y hy => by
                rw [HTK.out] at hy
                rcases List.mem_append.1 hy with hy | hy
                · exact HDG.out y hy
                · simp at hy
                  rw [hy, isDig_iff]
                  exact ⟨h0, h1⟩
              have hval : val 0 (l.take (k + 1)) = 10 * val 0 (l.take k) + (x.toNat - 48) := by rw [HTK.out, val_snoc]
              have hb := val_lt19 HDG2.out (by rw [List.length_take]; have := HDL.out; omega)
              have HVAL : Hid (((val 0 (l.take (k + 1)) : Nat) : Int) = 10 * ((val 0 (l.take k) : Nat) : Int) + ((x.toNat : Int) - 48)) := by unfold Hid; omega
              rw [hval] at hb
              generalize val 0 (l.take k) = m at *
              clear hval
              rw [← HGK.out] at HVAL hb h0 h1
              go_wp2_with fail
              go_roundg (gk - 1)
              case measure => omega
              case rel => exact ⟨k + 1, by omega, by go_num, congrArg (Value.int .u64) HVAL.out.symm, HDG2, rfl⟩
          · obtain rfl : k = l.length := by omega
            have HALL : Hid (l.all isDig = true) := by
              have h := HDG.out
              rw [List.take_length] at h
              rw [Hid, List.all_eq_true]
              exact h
            have hb := val_lt19 HDG.out (by rw [List.length_take]; have := HDL.out; omega)
            have HN : Hid (z = if val 0 l ≤ 9223372036854775807 then some (val 0 l : Int) else none) := by
              unfold Hid
              rw [HZ.out]
              unfold numD
              rw [if_neg HGO.out, if_pos HALL.out]
              rfl
            rw [List.take_length] at hb ⊢
            have HM0 : Hid True := trivial
            generalize val 0 l = m at *
            have hfit : m ≤ 9223372036854775807 ∨ 9223372036854775807 < m := by omega
            rcases hfit with hf | hf
            · have HE : Hid (z = some (m : Int)) := by
                have e : z = if m ≤ 9223372036854775807 then some (m : Int) else none := HN.out
                rw [Hid, e, if_pos hf]
              have t1 : decide ((m : Int) ≤ 9223372036854775807) = true := decide_eq_true (by omega)
              go_wp2_with fail
              go_ret2
              exact ⟨m, by rw [HE.out]; rfl, (fun v h => by rw [HE.out] at h; injection h), rfl⟩
            · have HE : Hid (z = none) := by
                have e : z = if m ≤ 9223372036854775807 then some (m : Int) else none := HN.out
                rw [Hid, e, if_neg (by omega)]
              have t1 : decide ((m : Int) ≤ 9223372036854775807) = false := decide_eq_false (by omega)
              go_wp2_with fail
              go_ret2
              exact ⟨_, by rw [HE.out]; rfl, (fun v h => by rw [HE.out] at h; cases h), rfl⟩
end Go.Proofs.YtdplakfmdkjfdaaDoor
