/- The reference's Words. -/
import Derived.Test.YtdplakfmdkjfdaaDoorNumPlain
import Derived.Test.YtdplakfmdkjfdaaDoorAppAt
namespace Go.Proofs.YtdplakfmdkjfdaaDoor
open Go.RowKit Go.Sort
attribute [local go_sem ↓] app9_of

def strV (x : List UInt8) : Value := .string (bs x)
theorem sp_snoc : ∀ (a : List UInt8) (c : UInt8), sp (a ++ [c]) = if c = 32 then sp a ++ [[]] else (sp a).dropLast ++ [(sp a).getLast (sp_ne a) ++ [c]]
  | [], c => by
    by_cases h : c = 32
    · simp [sp, h]
    · simp [sp, h]
  | x :: r, c => by
    have ih := sp_snoc r c
    obtain ⟨b, l, hs⟩ : ∃ b l, sp r = b :: l := by
      cases h : sp r with
      | nil => exact absurd h (sp_ne r)
      | cons b l => exact ⟨b, l, rfl⟩
    by_cases hx : x = 32
    · have e1 : sp (x :: r ++ [c]) = [] :: sp (r ++ [c]) := by rw [List.cons_append, sp, if_pos hx]
      have e2 : sp (x :: r) = [] :: sp r := by rw [sp, if_pos hx]
      rw [e1, ih]
      by_cases h : c = 32
      · rw [if_pos h, if_pos h, e2]; rfl
      · rw [if_neg h, if_neg h]
        simp only [e2, hs]
        simp
    · have e1 : sp (x :: r ++ [c]) = (x :: (sp (r ++ [c])).headD []) :: (sp (r ++ [c])).tail := by rw [List.cons_append, sp, if_neg hx]
      have e2 : sp (x :: r) = (x :: b) :: l := by rw [sp, if_neg hx, hs]; rfl
      rw [e1, ih]
      by_cases h : c = 32
      · rw [if_pos h, if_pos h, e2, hs]; rfl
      · rw [if_neg h, if_neg h]
        simp only [e2, hs]
        cases l with
        | nil => simp
        | cons b' l => simp

theorem sp_len : ∀ s : List UInt8, (sp s).length ≤ s.length + 1
  | [] => Nat.le_refl _
  | c :: r => by
    have := sp_len r
    unfold sp
    split
    · simp; exact this
    · simp; omega
theorem sp_piece : ∀ s : List UInt8, ∀ a ∈ sp s, a.length ≤ s.length
  | [], a, h => by simp [sp] at h; simp [h]
  | c :: r, a, h => by
    have ih := sp_piece r
    unfold sp at h
    split at h
    · rcases List.mem_cons.1 h with rfl | h
      · simp
      · have := ih a h; simp; omega
    · rcases List.mem_cons.1 h with rfl | h
      · cases hs : sp r with
        | nil => exact absurd hs (sp_ne r)
        | cons b l => have := ih b (by rw [hs]; simp); simp; exact this
      · have := ih a (List.mem_of_mem_tail h); simp; omega
theorem app_s {w : World} {s : Nat} {v : Value} {n : Nat} {xs : List Value} (hown : w.ownsRow s 9 1 v n xs) (t : ByteArray) (hn : n ≤ 1000000) (hs : s ≤ w.heap.size) :
    ∃ v' w', (app9 #[90, 90] 90 #[v, .slice (some ⟨w.heap.size, 0, none⟩) 1 1]).run Tryd.prog (w.alloc (.cells #[.string t] 9)) = .ok v' w' ∧ w'.ownsRow s 9 1 v' (n + 1) (xs ++ [.string t]) ∧ (w.alloc (.cells #[.string t] 9)).grownBy w' v.ownBlock := by
  obtain ⟨i, hi1, hi2, hi3, hi4⟩ := info_parts (P := Tryd.prog) (e := 9) (z := .string ByteArray.empty) (size := 1) (bytes := 16) (by kernel_rfl)
  have hb : (n + 1) * 16 ≤ 140737488355328 := by omega
  have hk : Keep none_ w (w.alloc (.cells #[.string t] 9)) := (Keep.refl _ _).alloc _
  obtain ⟨v', w', h1, h2, h3, _⟩ := run_append_own (P := Tryd.prog) (w := w.alloc (.cells #[.string t] 9)) s 90 90 9 i (.string ByteArray.empty) 1 16 (by kernel_rfl) hi1 hi2 hi3 hi4 rfl (by decide) v n xs (own_still hown hk) ⟨w.heap.size, 0, none⟩ 1 1 [.string t] (by simp)
      (fun j u hj => by
        have hj0 : j = 0 := by have := (List.getElem?_eq_some_iff.1 hj).1; simpa using this
        subst hj0
        simp at hj
        subst hj
        exact (Blk.new w [.string t] 9).cell 0 rfl) (fun u hu => by simp at hu; subst hu; rfl) (by unfold maxLen; omega) hb (Nat.le_trans hs hk.size)
  exact ⟨v', w', h1, h2, h3⟩

set_option maxRecDepth 4000 in
set_option maxHeartbeats 4000000 in
theorem rWords_any (s : ByteArray) (w : World) (hs : s.size ≤ 1000) : Calls Tryd.prog 58 #[.string s] w fun e w' => ∃ a cap, e = .returned (.slice a (sp s.data.toList).length cap) ∧ w'.ownsRow w.heap.size 9 1 (.slice a (sp s.data.toList).length cap) (sp s.data.toList).length ((sp s.data.toList).map strV) ∧ Keep none_ w w' := by
  have H0 : Hid ((w.alloc (.cells #[.string ⟨#[]⟩] 9)).ownsRow w.heap.size 9 1 (.slice (some ⟨w.heap.size, 0, none⟩) 1 1) (sp (s.data.toList.take 0)).length ((sp (s.data.toList.take 0)).map strV)) := by
    refine ⟨rfl, .inr ⟨w.heap.size, 1, #[.string ⟨#[]⟩], rfl, Nat.le_refl _, ?_, Nat.le_refl _, by decide, rfl, rfl⟩⟩
    show (w.heap.push _)[w.heap.size]? = _
    simp
  have HK0 : Hid (Keep none_ w (w.alloc (.cells #[.string ⟨#[]⟩] 9))) := (Keep.refl _ _).alloc _
  go_enter Tryd.func58, Tryd.ntmps58
  go_wp2_with fail
  go_loopg [3, 4] s.size (fun g v i wr => ∃ (k : Nat) (u : Value), g + k = s.size ∧ i = .int .i64 k ∧ u = v ∧ Hid (wr.ownsRow w.heap.size 9 1 u (sp (s.data.toList.take k)).length ((sp (s.data.toList.take k)).map strV)) ∧ Hid (Keep none_ w wr))
  case atStart => exact ⟨0, _, rfl, rfl, rfl, H0, HK0⟩
  case round =>
    clear H0 HK0
    obtain ⟨k, u, hg, rfl, hu, HO, HK⟩ := hrel
    subst hu
    have hsl : (sp (s.data.toList.take k)).length ≤ 1000000 := by
      have h1 := sp_len (s.data.toList.take k)
      have h2 : (s.data.toList.take k).length ≤ s.size := by rw [List.length_take]; exact Nat.min_le_right _ _
      omega
    by_cases hlt : k < s.size
    · have hki : (k : Int) < (s.size : Int) := by omega
      have hk0 : (0 : Int) ≤ (k : Int) := by omega
      obtain ⟨c, hc⟩ : ∃ c, c = s[k] := ⟨_, rfl⟩
      have htk : s.data.toList.take (k + 1) = s.data.toList.take k ++ [c] := by
        have hl : k < s.data.toList.length := by simpa using hlt
        rw [List.take_succ_eq_append_getElem hl, hc]
        rfl
      have HSN := sp_snoc (s.data.toList.take k) c
      rw [← htk] at HSN
      by_cases hc32 : c = 32
      · have hcI : ((s[k].toNat : Int) == 32) = true := by rw [← hc, hc32]; rfl
        rw [if_pos hc32] at HSN
        obtain ⟨v', w', hrun, ho, hgr⟩ := app_s HO.out ⟨#[]⟩ hsl HK.out.size
        have HO2 : Hid (w'.ownsRow w.heap.size 9 1 v' (sp (s.data.toList.take (k + 1))).length ((sp (s.data.toList.take (k + 1))).map strV)) := by
          rw [HSN, List.map_append, List.length_append]
          exact ho
        have HK2 : Hid (Keep none_ w w') := keep_grown hgr (HK.out.alloc _) (own_above HO.out)
        clear ho hgr HSN htk hsl HO
        go_wp2_with fail
        go_roundg (gk - 1)
        case measure => omega
        case rel => exact ⟨k + 1, v', by omega, by go_num, rfl, HO2, HK2⟩
      · have hcI : ((s[k].toNat : Int) == 32) = false := by
          rw [beq_eq_false_iff_ne]; intro h; exact hc32 (by
            rw [hc]
            refine UInt8.toNat_inj.1 ?_
            have e : s[k].toNat = 32 := by omega
            exact e)
        rw [if_neg hc32] at HSN
        obtain ⟨L0, x, hL⟩ : ∃ L0 x, sp (s.data.toList.take k) = L0 ++ [x] := ⟨_, _, (List.dropLast_concat_getLast (sp_ne _)).symm⟩
        have HSN2 : sp (s.data.toList.take (k + 1)) = L0 ++ [x ++ [c]] := by rw [HSN]; simp [hL]
        rw [hL] at HO hsl
        have hn : (L0 ++ [x]).length = L0.length + 1 := by simp
        rw [hn] at HO hsl
        obtain ⟨a0, ct, e0, hl0, hkc, hnil0, hcell0⟩ := own_form (own_low HO.out (Nat.zero_le _))
        subst e0
        obtain ⟨gt, e, cX, fX⟩ := hcell0 L0.length (strV x) (by simp)
        subst e
        have hxl : x.length ≤ 1000 := by
          have h1 := sp_piece (s.data.toList.take k) x (by rw [hL]; simp)
          have h2 : (s.data.toList.take k).length ≤ s.size := by rw [List.length_take]; exact Nat.min_le_right _ _
          omega
        have hex : s.extract k (k + 1) = bs [c] := by
          apply ByteArray.ext
          apply Array.ext'
          show (s.extract k (k + 1)).data.toList = [c]
          rw [Lib.extract_data]
          have e1 : k + 1 - k = 1 := by omega
          have hd : s.data.toList.drop k = c :: s.data.toList.drop (k + 1) := by
            have hl : k < s.data.toList.length := by simpa using hlt
            rw [List.drop_eq_getElem_cons hl, hc]
            rfl
          simp [e1, hd]
        have hcat : ∀ w, (Op.stringOp .add (bs x) (s.extract k (k + 1))).run Tryd.prog w = .ok (.string (bs (x ++ [c]))) w := fun w => by
          rw [hex]
          exact run_string_add_lists w x [c] (by omega) (show ((1 : Nat) : Int) ≤ 8388608 by decide)
        have ho2 : (wr.setCell ⟨gt, L0.length, none⟩ (strV (x ++ [c]))).ownsRow w.heap.size 9 1 (.slice (some ⟨gt, 0, none⟩) (L0.length + 1) ct) (sp (s.data.toList.take (k + 1))).length ((sp (s.data.toList.take (k + 1))).map strV) := by
          rw [HSN2]
          have h1 := own_set (own_low HO.out (Nat.zero_le _)) L0.length (strV (x ++ [c]))
          have e2 : ((L0 ++ [x]).map strV).set L0.length (strV (x ++ [c])) = (L0 ++ [x ++ [c]]).map strV := by
            rw [← List.map_set]
            simp
          rw [e2] at h1
          have e3 : (L0 ++ [x ++ [c]]).length = L0.length + 1 := by simp
          rw [e3]
          exact own_high h1 (own_above HO.out)
        have HO2 := Lib.hid ho2
        have HK2 : Hid (Keep none_ w (wr.setCell ⟨gt, L0.length, none⟩ (strV (x ++ [c])))) := HK.out.putNew (own_above HO.out gt rfl) _ _
        unfold strV at cX HO2 HK2
        generalize bs (x ++ [c]) = Y at *
        generalize bs x = X at *
        clear ho2 hex hxl hl0 hnil0 hcell0 HSN HSN2 htk HO hL hc32
        generalize L0.length = m at *
        clear hc hn
        go_wp2_with fail
        go_region
        go_wp2_with fail
        go_roundg (gk - 1)
        case measure => omega
        case rel => exact ⟨k + 1, _, by omega, by go_num, rfl, HO2, HK2.out.drew⟩
    · obtain rfl : k = s.size := by omega
      obtain ⟨a0, ct, e0, hl0, hkc, hnil0, hcell0⟩ := own_form (own_low HO.out (Nat.zero_le _))
      subst e0
      have HE : Hid (s.data.toList.take s.size = s.data.toList) := List.take_of_length_le (Nat.le_refl _)
      clear hcell0 hnil0 hl0 hsl
      go_wp2_with fail
      go_ret
      have h9 := HO.out
      rw [HE.out] at h9 ⊢
      exact ⟨a0, ct, rfl, h9, HK.out⟩
end Go.Proofs.YtdplakfmdkjfdaaDoor
