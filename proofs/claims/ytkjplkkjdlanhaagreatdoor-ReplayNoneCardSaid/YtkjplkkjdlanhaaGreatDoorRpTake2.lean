/- Take of a replay: the walk, at the law's example. -/
import Derived.Test.YtkjplkkjdlanhaaGreatDoorRpTake
import Derived.Scope
namespace Go.Proofs.YtkjplkkjdlanhaaGreatDoor
open Go.RowKit Go.Sort
attribute [local go_sem ↓] app9_of

section
variable {V w w' : World} {B G pr nx pd cap : Nat}
set_option maxRecDepth 4000 in
set_option maxHeartbeats 8000000 in
theorem rpTake_one (h : Rp1 V B G pr nx pd cap w) (hT : Tabs w) (hV : Keep none_ V w) : Calls Tryz.prog 9 #[.pointer (some ⟨B, 0, none⟩), .agg evL.toArray] w fun e w' => e = .returned (.bool true) ∧ Keep none_ V w' ∧
    ∃ (av : Nat) (ac : Nat), w'.cell? ⟨B, 10, none⟩ = some (.slice (some ⟨av, 0, none⟩) 1 ac) ∧ w'.cell? ⟨av, 0, none⟩ = some (.int .i64 5) ∧ w'.cell? ⟨B, 11, none⟩ = some (.int .i64 1) := by
  obtain ⟨W0, hW0⟩ : ∃ W', W' = w.alloc (.cells evL.toArray 26) := ⟨_, rfl⟩
  have HK : Hid (Keep none_ w W0) := by rw [hW0]; exact (Keep.refl _ _).alloc _
  have HE := Lib.hid (show Blk W0 w.heap.size evL 26 by rw [hW0]; exact Blk.new w _ _)
  have HKN : Hid (∀ W, Keep none_ w W → Calls Tryz.prog 22 #[.pointer (some ⟨B, 0, none⟩), .agg evL.toArray] W fun e w' => e = .returned (.bool true) ∧ Keep none_ W w') := fun W hW => rpKnown_one (h.keep hW)
  have HME : Hid (∀ W, Keep none_ w W → Calls Tryz.prog 23 #[.pointer (some ⟨B, 0, none⟩), .agg evL.toArray] W fun e w' => e = .returned (.bool true) ∧ Keep none_ W w') := fun W hW => rpMemory_one (h.keep hW)
  have HRI : Hid (∀ W, Keep none_ w W → Calls Tryz.prog 24 #[.pointer (some ⟨B, 0, none⟩), .agg evL.toArray] W fun e w' => e = .returned (.bool true) ∧ Keep none_ W w') := fun W hW => rpRight_one (h.keep hW) (hT.keep hW)
  have e2w := HE.out.cell 2 rfl
  rw [hW0] at e2w
  have HH := Lib.hid h
  have HT := Lib.hid hT
  have HV := Lib.hid hV
  clear h hT hV
  simp only [evL] at hW0 HE HKN HME HRI e2w ⊢
  go_enter Tryz.func9, Tryz.ntmps9
  go_wp2_with fail
  refine wp_scope_straight ?_
  go_wp2_with fail
  refine wp_label ?_
  go_wp2_with fail
  rw [← hW0]
  obtain ⟨W1, hW1⟩ : ∃ W', W' = W0.alloc (.cells #[.func (.func 22) #[.pointer (some ⟨B, 0, none⟩)] #[], .func (.func 23) #[.pointer (some ⟨B, 0, none⟩)] #[], .func (.func 24) #[.pointer (some ⟨B, 0, none⟩)] #[]] 36) := ⟨_, rfl⟩
  rw [← hW1]
  have hsz0 : W0.heap.size = w.heap.size + 1 := by rw [hW0]; simp
  have HK1 : Hid (Keep none_ W0 W1) := by rw [hW1]; exact (Keep.refl _ _).alloc _
  have HA : Hid (Blk W1 (w.heap.size + 1) [.func (.func 22) #[.pointer (some ⟨B, 0, none⟩)] #[], .func (.func 23) #[.pointer (some ⟨B, 0, none⟩)] #[], .func (.func 24) #[.pointer (some ⟨B, 0, none⟩)] #[]] 36) := by
    rw [hW1, ← hsz0]; exact Blk.new W0 _ _
  have HKW := Lib.hid (HK.out.trans HK1.out)
  have HE1 := Lib.hid (HK1.out.blk HE.out (fun f => f))
  clear hW0 hW1 hsz0 e2w HE HK1 HK
  go_loopg [5, 23] 3 (fun g u i wr => ∃ k : Nat, g + k = 3 ∧ i = .int .i64 k ∧ u = .bool true ∧ Hid (Keep none_ W1 wr))
  case atStart => exact ⟨0, rfl, rfl, rfl, Keep.refl _ _⟩
  case round =>
    obtain ⟨k, hg, rfl, rfl, HKR⟩ := hrel
    have hev := HKR.out.blk HE1.out (fun f => f)
    have e0 := hev.cell 0 rfl; have e1 := hev.cell 1 rfl; have e2 := hev.cell 2 rfl; have e3 := hev.cell 3 rfl; have e4 := hev.cell 4 rfl; have e5 := hev.cell 5 rfl
    clear hev
    by_cases hk3 : k < 3
    · have hfs := HKR.out.blk HA.out (fun f => f)
      obtain rfl | rfl | rfl : k = 0 ∨ k = 1 ∨ k = 2 := by omega
      · have a0 := hfs.cell 0 rfl
        clear hfs
        go_wp2_with (go_at_call 22; refine (HKN.out _ (HKW.out.trans HKR.out)).mono ?_; rintro e w2 ⟨rfl, hk2⟩; have HK2 := Lib.hid (HKR.out.trans hk2); clear hk2)
        go_roundg (gk - 1)
        case measure => omega
        case rel => exact ⟨1, by omega, by go_num, rfl, HK2⟩
      · have a0 := hfs.cell 1 rfl
        clear hfs
        go_wp2_with (go_at_call 23; refine (HME.out _ (HKW.out.trans HKR.out)).mono ?_; rintro e w2 ⟨rfl, hk2⟩; have HK2 := Lib.hid (HKR.out.trans hk2); clear hk2)
        go_roundg (gk - 1)
        case measure => omega
        case rel => exact ⟨2, by omega, by go_num, rfl, HK2⟩
      · have a0 := hfs.cell 2 rfl
        clear hfs
        go_wp2_with (go_at_call 24; refine (HRI.out _ (HKW.out.trans HKR.out)).mono ?_; rintro e w2 ⟨rfl, hk2⟩; have HK2 := Lib.hid (HKR.out.trans hk2); clear hk2)
        go_roundg (gk - 1)
        case measure => omega
        case rel => exact ⟨3, by omega, by go_num, rfl, HK2⟩
    · obtain rfl : k = 3 := by omega
      clear hg hk3
      obtain ⟨V9, rfl⟩ : ∃ V9 : World, V9 = wr := ⟨_, rfl⟩
      have HK9 := Lib.hid (HKW.out.trans HKR.out)
      have h9 := HH.out.keep HK9.out
      have hgd : gDoP cfg1 1 (rows0 1 1 0) 0 ⟨1, 0, 1, 0⟩ = ([[1], [], [0]], 1, 0) := by decide
      obtain ⟨F, hF, hFi⟩ := HH.out.gr
      have hsE : w.heap.size < V9.heap.size := Nat.lt_of_lt_of_le HE1.out.lt HKR.out.size
      have HDO := (gdo_any (((hF.still HK9.out).still ((Keep.refl _ _).drew)).mono (F' := fun i => F i ∨ V9.heap.size ≤ i) (fun i hi => .inl hi)) (fun i hi => .inr hi) (by decide) 0 ⟨1, 0, 1, 0⟩ (HT.out.keep HK9.out.drew))
      rw [hgd] at HDO
      simp only [OpR.cells] at HDO
      have HDO := Lib.hid HDO
      have HOUT : Hid (∀ i, (F i ∨ V9.heap.size ≤ i) → i ≠ B ∧ i ≠ nx ∧ i ≠ w.heap.size ∧ V.heap.size ≤ i) := by
        rintro i (hi | hi)
        · have := hFi i hi
          omega
        · have h1 := HH.out.blk.lt
          have h2 := HH.out.nxs.lt
          have h3 := HV.out.size
          omega
      have y7 := h9.blk.cell 7 rfl
      have y9 := h9.blk.cell 9 rfl
      have p0 := h9.prs
      have o0 := h9.o0; have o1 := h9.o1; have o2 := h9.o2; have o3 := h9.o3
      have HB9 := Lib.hid h9.blk
      have HN9 := Lib.hid h9.nxs
      have HE9 := Lib.hid (HKR.out.blk HE1.out (fun f => f))
      have HNE : Hid (B ≠ nx) := fun e => by
        have h1 := HH.out.blk
        rw [e] at h1
        exact absurd (h1.uniq HH.out.nxs).2 (by decide)
      have HNW : Hid (V.heap.size ≤ B ∧ V.heap.size ≤ nx) := HH.out.new
      have HV9 := Lib.hid (HV.out.trans HK9.out)
      clear h9 hgd hF hFi hsE
      go_wp2_with fail
      refine wp_region_still_mid 18 rfl (by kernel_rfl) (by kernel_rfl) (fun K hK => ?_)
      change wpStill _ _ (World.drew _) _ _ _
      simp only [List.take_succ_cons, List.take_zero, List.drop_succ_cons, List.drop_zero] at hK ⊢
      repeat still_step
      refine wpStill_nil ?_
      change ite _ (Oper.wp _ _ _ V9.drew _ _) _
      go_simp
      refine HDO.out.mono ?_
      rintro e w5 ⟨rfl, -, hk5⟩
      refine hK _ _ ?_
      clear hK K e0 e1 e2 e3 e4 e5 y7 y9 p0 o0 o1 o2 o3 HDO
      have HB5 := Lib.hid (hk5.blk HB9.out.drew (fun hi => (HOUT.out B hi).1 rfl))
      have HN5 := Lib.hid (hk5.blk HN9.out.drew (fun hi => (HOUT.out nx hi).2.1 rfl))
      have HE5 := Lib.hid (hk5.blk HE9.out.drew (fun hi => (HOUT.out _ hi).2.2.1 rfl))
      have HV5 : Hid (Keep none_ V w5) := HV9.out.drew.trans' hk5 (fun i hi h => by have := (HOUT.out i h).2.2.2; omega)
      clear hk5
      repeat still_step
      refine wpStill_nil ?_
      -- the address
      have hown : ((w5.alloc (.cells #[.int .i64 5] 3)).drew).ownsRow 0 3 1 (.slice none 0 0) 0 [] := ⟨rfl, .inl ⟨rfl, rfl⟩⟩
      have hcell : ((w5.alloc (.cells #[.int .i64 5] 3)).drew).cell? ⟨w5.heap.size, 0, none⟩ = some (.int .i64 5) := (Blk.new w5 [.int .i64 5] 3).drew.cell 0 rfl
      obtain ⟨av, ac, w6, hrun0, how, hgr, hwh⟩ := app_where (P := Tryz.prog) _ 46 46 3 (by kernel_rfl) Tryz.infoInt rfl hown hcell rfl (by decide) (by omega)
      have hrun : (app9 #[46, 46] 46 #[.slice none 0 0, .slice (some ⟨w5.heap.size, 0, none⟩) 1 1]).run Tryz.prog ((w5.alloc (.cells #[.int .i64 5] 3)).drew) = .ok (.slice (some ⟨av, 0, none⟩) 1 ac) w6 := hrun0
      have hk56 : Keep none_ w5 w6 := ((Keep.refl none_ w5).alloc _).drew.grown hgr (fun k e _ => by cases e)
      have hav : w5.heap.size ≤ av := by
        rcases hwh with h | h
        · cases h
        · exact Nat.le_trans (by simp) h
      have HAV := Lib.hid (how.cells (g := av) rfl 0 _ rfl)
      have hb6 := hk56.blk HB5.out (fun f => f)
      have hn6 := hk56.blk HN5.out (fun f => f)
      have c10 := HB5.out.cell 10 rfl
      have c10' : ∀ o, (w5.alloc o).cell? ⟨B, 10, none⟩ = _ := fun o => ((Keep.refl none_ w5).alloc o).still c10
      have c610 := hb6.cell 10 rfl
      have f610 := hb6.free 10
      have e5 := HE5.out.cell 5 rfl
      have e1 := HE5.out.cell 1 rfl
      have e4 := HE5.out.cell 4 rfl
      obtain ⟨W7, hW7⟩ : ∃ W', W' = w6.setCell ⟨B, 10, none⟩ (.slice (some ⟨av, 0, none⟩) 1 ac) := ⟨_, rfl⟩
      have hav2 : av ≠ B ∧ av ≠ nx := by
        have h1 := HB5.out.lt
        have h2 := HN5.out.lt
        omega
      have HB7 : Hid (Blk W7 B [.int .i64 1, .int .i64 16, .int .i64 1, .int .i64 1, .int .i64 0, .int .i64 1, .int .i64 1, .slice (some ⟨pr, 0, none⟩) 1 1, .slice (some ⟨nx, 0, none⟩) 1 1, .pointer (some ⟨G, 0, none⟩), .slice (some ⟨av, 0, none⟩) 1 ac, .int .i64 0] 48) := by rw [hW7]; exact hb6.set 10 _
      have HN7 : Hid (Blk W7 nx [.int .i64 0] 3) := by rw [hW7]; exact hn6.other (a := ⟨B, 10, none⟩) HNE.out.symm _
      have hkB : Keep (only B) w6 W7 := by rw [hW7]; exact (Keep.refl _ _).put 10 _
      have HV7 : Hid (Keep none_ V W7) := (HV5.out.trans hk56).onNew hkB HNW.out.1
      have HA7 : Hid (W7.cell? ⟨av, 0, none⟩ = some (.int .i64 5)) := by
        have ea : (⟨av, 0, none⟩ : Addr).add 0 = ⟨av, 0, none⟩ := by simp [Addr.add]
        have h := HAV.out
        rw [ea] at h
        exact hkB.cellv h hav2.1
      have e17 : W7.cell? ⟨w.heap.size, 1, none⟩ = some (.int .i64 0) := hkB.cellv (hk56.still e1) (fun e => by
        have h1 := HH.out.blk.lt
        have h2 : w.heap.size = B := e
        omega)
      have HAVN := Lib.hid hav2
      have HW7 := Lib.hid hW7
      clear hrun0 hown hcell how hgr hwh hk56 hav hb6 hn6 hav2 hW7 hkB HAV
      go_wp2_with fail
      go_region
      rw [← HW7.out]
      clear HW7 hrun c10 c10' c610 f610 e5 e1 e4
      have c8 := HB7.out.cell 8 rfl
      have n0 := HN7.out.cell 0 rfl
      have fn := HN7.out.free 0
      go_wp2_with fail
      go_region
      obtain ⟨W8, hW8⟩ : ∃ W', W' = (W7.setCell ⟨nx, 0, none⟩ (.int .i64 1)).drew := ⟨_, rfl⟩
      rw [← hW8]
      have hk78 : Keep (only nx) W7 W8 := by rw [hW8]; exact ((Keep.refl (only nx) W7).put 0 _).drew
      have hb8 := hk78.blk HB7.out HNE.out
      have HV8 : Hid (Keep none_ V W8) := HV7.out.onNew hk78 HNW.out.2
      have HA8 := Lib.hid (hk78.cellv HA7.out HAVN.out.2)
      have HB8 := Lib.hid hb8
      have c11 := hb8.cell 11 rfl
      have f11 := hb8.free 11
      clear hW8 hk78 hb8 c8 n0 fn
      go_wp2_with fail
      simp only [Exit.noGoto]
      go_ret
      have hk9 : Keep (only B) W8 (W8.setCell ⟨B, 11, none⟩ (.int .i64 1)) := (Keep.refl _ _).put 11 _
      exact ⟨rfl, HV8.out.onNew hk9 HNW.out.1, av, ac, (HB8.out.set 11 _).cell 10 rfl, hk9.cellv HA8.out HAVN.out.1, (HB8.out.set 11 _).cell 11 rfl⟩
end
end Go.Proofs.YtkjplkkjdlanhaaGreatDoor
