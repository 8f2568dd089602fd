/- What package op's small functions tell: is, uses, and Check's two closures. -/
import Derived.Test.YtkjplkkjdlanhaaGreatDoorConf3
namespace Go.Proofs.YtkjplkkjdlanhaaGreatDoor
open Go.RowKit Go.Sort

/-- An operation. -/
structure OpR where
  k : Int
  a : Int
  b : Int
  c : Int
deriving DecidableEq
def OpR.cells (o : OpR) : List Value := [.int .i64 o.k, .int .i64 o.a, .int .i64 o.b, .int .i64 o.c]
def isKind (k : Int) : Bool := decide (1 ≤ k) && decide (k < 9)
def useL (k : Int) : List UInt8 := if isKind k then kindL.getD (2 * k.toNat + 1) [] else []
def wordL (k : Int) : List UInt8 := if isKind k then kindL.getD (2 * k.toNat) [] else []

set_option maxHeartbeats 400000 in
theorem is_any (k : Int) (w : World) : Calls Tryz.prog 54 #[.int .i64 k] w fun e w' => e = .returned (.bool (isKind k)) ∧ w' = w := by
  by_cases h : 1 ≤ k
  · have h1 : decide (1 ≤ k) = true := decide_eq_true h
    clear h
    go_enter Tryz.func54, Tryz.ntmps54
    go_wp2
    go_ret
    exact ⟨by simp [isKind, h1], rfl⟩
  · have h1 : decide (1 ≤ k) = false := decide_eq_false h
    clear h
    go_enter Tryz.func54, Tryz.ntmps54
    go_wp2
    go_ret
    exact ⟨by simp [isKind, h1], rfl⟩

set_option maxHeartbeats 400000 in
theorem uses_any (k : Int) (w : World) (hT : Tabs w) : Calls Tryz.prog 75 #[.int .i64 k] w fun e w' => e = .returned (.string ⟨(useL k).toArray⟩) ∧ w' = w := by
  have HIS := Lib.hid (is_any k)
  cases hk : isKind k with
  | false =>
    have HE : Hid (useL k = []) := by simp [Hid, useL, hk]
    rw [hk] at HIS
    clear hk hT
    go_enter Tryz.func75, Tryz.ntmps75
    go_wp2_with (go_at_call 54; refine (HIS.out _).mono ?_; rintro e w1 ⟨rfl, rfl⟩)
    go_ret
    exact ⟨by rw [HE.out]; rfl, rfl⟩
  | true =>
    have hk' := hk
    simp [isKind] at hk'
    obtain ⟨n, rfl⟩ : ∃ n : Nat, k = n := ⟨k.toNat, by omega⟩
    have hlt : 2 * n + 1 < kindL.length := by simp [kindL]; omega
    have hc := hT.kind (2 * n + 1) _ (List.getElem?_eq_getElem hlt)
    have HE : Hid (useL (n : Int) = kindL[2 * n + 1]) := by
      simp only [Hid, useL, hk, if_true]
      simp [hlt]
    rw [HE.out]
    generalize kindL[2 * n + 1] = s at *
    have hc2 : w.cell? ⟨1, n * 2 + 1, none⟩ = some (.string ⟨s.toArray⟩) := by rw [Nat.mul_comm]; exact hc
    rw [hk] at HIS
    clear hk hT HE hc
    have hn : (n : Int) < 9 := by omega
    have hn2 : n < 9 := by omega
    clear hk'
    go_enter Tryz.func75, Tryz.ntmps75
    go_wp2_with (go_at_call 54; refine (HIS.out _).mono ?_; rintro e w1 ⟨rfl, rfl⟩)
    go_ret
    exact ⟨rfl, rfl⟩

/-- What is in the box of the error behind one number. -/
def wrongStep (cur n below e : Int) : Int := if cur = 0 ∧ (n < 0 ∨ below ≤ n) then e else cur

set_option maxHeartbeats 400000 in
theorem wrong_any (n below e cur : Int) (O : Nat) (w : World) (hO : Blk w O [.int .i64 cur] 24) :
    Calls Tryz.prog 55 #[.int .i64 n, .int .i64 below, .int .i64 e, .pointer (some ⟨O, 0, none⟩)] w fun x w' => x = .returned (.tuple #[]) ∧ Blk w' O [.int .i64 (wrongStep cur n below e)] 24 ∧ Keep (only O) w w' := by
  have c0 := hO.cell 0 rfl
  have f0 := hO.free 0
  have HO := Lib.hid hO
  clear hO
  by_cases h0 : cur = 0
  · subst h0
    by_cases h1 : n < 0
    · have HE : Hid (wrongStep 0 n below e = e) := by simp [Hid, wrongStep, h1]
      have h1' : decide (n < 0) = true := decide_eq_true h1
      clear h1
      go_enter Tryz.func55, Tryz.ntmps55
      go_wp2
      go_end0
      exact ⟨rfl, by rw [HE.out]; exact HO.out.set 0 _, (Keep.refl _ _).put _ _⟩
    · have h1' : decide (n < 0) = false := decide_eq_false h1
      by_cases h2 : below ≤ n
      · have HE : Hid (wrongStep 0 n below e = e) := by simp [Hid, wrongStep, h2]
        have h2' : decide (below ≤ n) = true := decide_eq_true h2
        clear h1 h2
        go_enter Tryz.func55, Tryz.ntmps55
        go_wp2
        go_end0
        exact ⟨rfl, by rw [HE.out]; exact HO.out.set 0 _, (Keep.refl _ _).put _ _⟩
      · have HE : Hid (wrongStep 0 n below e = 0) := by unfold Hid wrongStep; exact if_neg (by omega)
        have h2' : decide (below ≤ n) = false := decide_eq_false h2
        clear h1 h2
        go_enter Tryz.func55, Tryz.ntmps55
        go_wp2
        go_end0
        exact ⟨rfl, by rw [HE.out]; exact HO.out, Keep.refl _ _⟩
  · have HE : Hid (wrongStep cur n below e = cur) := by simp [Hid, wrongStep, h0]
    have h0' : (cur == 0) = false := by simpa using h0
    clear h0
    go_enter Tryz.func55, Tryz.ntmps55
    go_wp2
    go_end0
    exact ⟨rfl, by rw [HE.out]; exact HO.out, Keep.refl _ _⟩

/-- What is in it behind one letter. -/
def letterStep (c : Conf) (cur : Int) (l : UInt8) (n : Int) : Int := if l = 114 then wrongStep cur n c.r 5 else if l = 99 then wrongStep cur n c.c 9 else if l = 115 then wrongStep cur n 16 8 else cur

set_option maxRecDepth 4000 in
set_option maxHeartbeats 1000000 in
theorem letter_any (c : Conf) (l : UInt8) (n cur : Int) (B i O V C : Nat) (w : World) (hO : Blk w O [.int .i64 cur] 24) (hV : Blk w V [.func (.func 55) #[] #[.pointer (some ⟨O, 0, none⟩)]] 112) (hC : Blk w C c.cells 23) (hn : w.cell? ⟨B, i, none⟩ = some (.int .i64 n)) :
    Calls Tryz.prog 57 #[.int .u8 l.toNat, .pointer (some ⟨B, i, none⟩), .pointer (some ⟨V, 0, none⟩), .pointer (some ⟨C, 0, none⟩)] w fun x w' => x = .returned (.tuple #[]) ∧ Blk w' O [.int .i64 (letterStep c cur l n)] 24 ∧ Keep (only O) w w' := by
  have v0 := hV.cell 0 rfl
  have k3 : w.cell? ⟨C, 3, none⟩ = some (.int .i64 c.r) := hC.cell 3 rfl
  have k4 : w.cell? ⟨C, 4, none⟩ = some (.int .i64 c.c) := hC.cell 4 rfl
  have HO := Lib.hid hO
  clear hO hV hC
  by_cases h1 : l = 114
  · subst h1
    have HE : Hid (letterStep c cur 114 n = wrongStep cur n c.r 5) := by simp [Hid, letterStep]
    rw [HE.out]
    have HW : Hid (∀ w', Blk w' O [.int .i64 cur] 24 → _) := fun w' h => wrong_any n c.r 5 cur O w' h
    generalize wrongStep cur n c.r 5 = q at *
    generalize c.r = below at *
    go_enter Tryz.func57, Tryz.ntmps57
    go_wp2_with fail
    refine wp_region_still_tail 6 (by kernel_rfl) (by kernel_rfl) ?_
    change wpStill _ _ (World.drew _) _ _ _
    simp only [List.take_succ_cons, List.take_zero, List.drop_succ_cons, List.drop_zero]
    repeat still_step
    refine wpStill_nil ?_
    change wpList _ _ _ _ _ w.drew
    go_wp2_with (go_at_call 55; refine (HW.out _ HO.out.drew).mono ?_; rintro e w1 ⟨rfl, hb, hk⟩)
    go_end0
    exact ⟨rfl, hb, (Keep.refl _ _).drew.trans hk⟩
  by_cases h2 : l = 99
  · subst h2
    have HE : Hid (letterStep c cur 99 n = wrongStep cur n c.c 9) := by simp [Hid, letterStep]
    rw [HE.out]
    have HW : Hid (∀ w', Blk w' O [.int .i64 cur] 24 → _) := fun w' h => wrong_any n c.c 9 cur O w' h
    generalize wrongStep cur n c.c 9 = q at *
    generalize c.c = below at *
    clear h1
    go_enter Tryz.func57, Tryz.ntmps57
    go_wp2_with fail
    refine wp_region_still_tail 6 (by kernel_rfl) (by kernel_rfl) ?_
    change wpStill _ _ (World.drew _) _ _ _
    simp only [List.take_succ_cons, List.take_zero, List.drop_succ_cons, List.drop_zero]
    repeat still_step
    refine wpStill_nil ?_
    change wpList _ _ _ _ _ w.drew
    go_wp2_with (go_at_call 55; refine (HW.out _ HO.out.drew).mono ?_; rintro e w1 ⟨rfl, hb, hk⟩)
    go_end0
    exact ⟨rfl, hb, (Keep.refl _ _).drew.trans hk⟩
  by_cases h3 : l = 115
  · subst h3
    have HE : Hid (letterStep c cur 115 n = wrongStep cur n 16 8) := by simp [Hid, letterStep]
    rw [HE.out]
    have HW : Hid (∀ w', Blk w' O [.int .i64 cur] 24 → _) := fun w' h => wrong_any n 16 8 cur O w' h
    generalize wrongStep cur n 16 8 = q at *
    clear h1 h2 k3 k4
    go_enter Tryz.func57, Tryz.ntmps57
    go_wp2_with fail
    refine wp_region_still_tail 4 (by kernel_rfl) (by kernel_rfl) ?_
    change wpStill _ _ (World.drew _) _ _ _
    simp only [List.take_succ_cons, List.take_zero, List.drop_succ_cons, List.drop_zero]
    repeat still_step
    refine wpStill_nil ?_
    change wpList _ _ _ _ _ w.drew
    go_wp2_with (go_at_call 55; refine (HW.out _ HO.out.drew).mono ?_; rintro e w1 ⟨rfl, hb, hk⟩)
    go_end0
    exact ⟨rfl, hb, (Keep.refl _ _).drew.trans hk⟩
  have HE : Hid (letterStep c cur l n = cur) := by simp [Hid, letterStep, h1, h2, h3]
  rw [HE.out]
  have e1 : ((l.toNat : Int) == 114) = false := by
    rw [beq_eq_false_iff_ne]; intro h; exact h1 (UInt8.toNat_inj.1 (by have : l.toNat = 114 := by omega
                                                                       simpa using this))
  have e2 : ((l.toNat : Int) == 99) = false := by
    rw [beq_eq_false_iff_ne]; intro h; exact h2 (UInt8.toNat_inj.1 (by have : l.toNat = 99 := by omega
                                                                       simpa using this))
  have e3 : ((l.toNat : Int) == 115) = false := by
    rw [beq_eq_false_iff_ne]; intro h; exact h3 (UInt8.toNat_inj.1 (by have : l.toNat = 115 := by omega
                                                                       simpa using this))
  clear h1 h2 h3 k3 k4
  generalize (l.toNat : Int) = li at *
  go_enter Tryz.func57, Tryz.ntmps57
  go_wp2_with fail
  go_end0
  exact ⟨rfl, HO.out, Keep.refl _ _⟩
end Go.Proofs.YtkjplkkjdlanhaaGreatDoor
