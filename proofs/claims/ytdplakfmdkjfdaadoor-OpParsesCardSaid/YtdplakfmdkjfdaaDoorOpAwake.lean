/- The law's examples. -/
import Derived.Test.YtdplakfmdkjfdaaDoorOpParse2
namespace Go.Proofs.YtdplakfmdkjfdaaDoor
open Go.RowKit Go.Sort

def exL : ByteArray := ⟨#[115, 116, 111, 114, 101, 32, 49, 32, 48, 32, 50]⟩
theorem ex_split : splitW exL = [⟨#[115, 116, 111, 114, 101]⟩, ⟨#[49]⟩, ⟨#[48]⟩, ⟨#[50]⟩] := by kernel_rfl
theorem ex_pk : pk ⟨#[115, 116, 111, 114, 101]⟩ 9 = 3 := by kernel_rfl
theorem ex_a1 : atoiV [49] = 1 := by kernel_rfl
theorem ex_a0 : atoiV [48] = 0 := by kernel_rfl
theorem ex_a2 : atoiV [50] = 2 := by kernel_rfl
theorem ex_i (n : Nat) (h : n < 10) : Lib.itoa (n : Int) = [UInt8.ofNat (48 + n)] := by
  rw [Lib.itoa_nonneg n, Lib.decDigits_one h]
theorem ex_parse : parseP exL = (⟨3, 1, 0, 2⟩, 0) := by
  have hu : useL ((3 : Nat) : Int) = [114, 102, 114] := rfl
  have ho : parseO (splitW exL) = ⟨3, 1, 0, 2⟩ := by
    unfold parseO
    rw [ex_split]
    simp only [List.headD_cons, ex_pk, hu]
    simp [pn, ex_a0, ex_a1, ex_a2]
  unfold parseP
  rw [ho, ex_split]
  simp only [List.headD_cons, ex_pk, hu]
  rw [if_neg (by decide), if_pos]
  refine ⟨rfl, ?_⟩
  have hu3 : (useL (3 : Int)).length = 3 := rfl
  have hw : wordL 3 = [115, 116, 111, 114, 101] := rfl
  unfold lineL
  simp only [hu3, lineN, hw, numOf]
  have e1 := ex_i 1 (by decide)
  have e0 := ex_i 0 (by decide)
  have e2 := ex_i 2 (by decide)
  simp at e1 e0 e2
  simp [e1, e0, e2, exL]

theorem ex_chk : chk ⟨1, 16, 1, 2, 0, 1, 1⟩ ⟨3, 1, 0, 2⟩ = 5 := by decide

set_option maxRecDepth 4000 in
set_option maxHeartbeats 4000000 in
theorem awake17_any (w : World) (hT : OpT w) : Calls Tryd.prog 32 #[] w fun e w' => e = .returned (.bool true) ∧ Keep none_ w w' := by
  have HT := Lib.hid hT
  have HP := Lib.hid (parse_any exL w (by decide) hT)
  rw [ex_parse] at HP
  unfold exL at HP
  simp only [OpR.cells] at HP
  clear hT
  have HC := Lib.hid (fun W (h : Keep none_ w W) => check_any ⟨1, 16, 1, 2, 0, 1, 1⟩ ⟨3, 1, 0, 2⟩ W (HT.out.keep h).tabs)
  rw [ex_chk] at HC
  simp only [OpR.cells, Conf.cells] at HC
  go_enter Tryd.func32, Tryd.ntmps32
  go_wp2_with fail
  refine HP.out.mono ?_
  rintro e w1 ⟨rfl, hk1⟩
  have HK1 := Lib.hid hk1
  have HK : ∀ o, Hid (Keep none_ w (w1.alloc o)) := fun o => HK1.out.alloc o
  clear hk1
  go_wp2_with fail
  refine (HC.out _ (HK _).out).mono ?_
  rintro e w2 ⟨rfl, hk2⟩
  have HK2 := Lib.hid ((HK _).out.trans hk2)
  clear hk2
  go_wp2_with fail
  go_ret
  exact ⟨rfl, HK2.out⟩
end Go.Proofs.YtdplakfmdkjfdaaDoor
