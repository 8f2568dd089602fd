/- What Do makes of a graph, and tells, for whatever operation of whichever mutator. -/
import Derived.Test.YtkjplkkjdlanhaaGreatDoorDoAt
import Derived.Test.YtkjplkkjdlanhaaGreatDoorGPlain
namespace Go.Proofs.YtkjplkkjdlanhaaGreatDoor
open Go.RowKit Go.Sort

section
variable {F : Nat → Prop} {B : Nat} {c : Conf} {m : Nat} {vs : List Value} {vr vc vo : Value} {R : List (List Int)} {w : World}

theorem do_any (h : GRep F B c m vs vr vc vo R w) (hF : ∀ k, w.heap.size ≤ k → F k) (hg : Good c m R) (hR : R.length ≤ 1000) (mi : Int) (o : OpR) (hT : Tabs w) :
    Calls Tryz.prog 25 #[.pointer (some ⟨B, 0, none⟩), .int .i64 mi, .agg o.cells.toArray] w fun e w' => e = .returned (.tuple #[.int .i64 (gDoP c m R mi o).2.1, .int .i64 (gDoP c m R mi o).2.2]) ∧ GRepX F B c m vs vr vc (gDoP c m R mi o).1 w' ∧ Keep F w w' := by
  by_cases hr : mi < 0 ∨ (m : Int) ≤ mi
  · have e : gDoP c m R mi o = (R, 0, 4) := by unfold gDoP; rw [if_pos hr]
    rw [e]
    refine (do_range h mi o hr).mono ?_
    rintro e w' ⟨rfl, hk⟩
    exact ⟨rfl, (h.still hk).x, hk.mono (fun _ _ f => f.elim)⟩
  obtain ⟨k, rfl⟩ : ∃ k : Nat, mi = k := ⟨mi.toNat, by omega⟩
  have hk : k < m := by omega
  by_cases hc : chk c o = 0
  case neg =>
    have e : gDoP c m R k o = (R, 0, chk c o) := by unfold gDoP; rw [if_neg hr, if_pos hc]
    rw [e]
    refine (do_err h k hk o hT hc).mono ?_
    rintro e w' ⟨rfl, hk⟩
    exact ⟨rfl, (h.still hk).x, hk.mono (fun _ _ f => f.elim)⟩
  have e : gDoP c m R k o = gdo m R k o := by unfold gDoP; rw [if_neg hr, if_neg (by simpa using hc)]; simp
  rw [e]
  clear e
  have hml := hg.lt
  have hkR : k < R.length := by omega
  obtain ⟨v, hv, -⟩ := h.rowAt k hkR
  obtain ⟨zs, hz⟩ : ∃ zs, R[k]? = some zs := ⟨_, List.getElem?_eq_getElem hkR⟩
  obtain ⟨cs, hcs⟩ : ∃ cs, R[m]? = some cs := ⟨_, List.getElem?_eq_getElem hml⟩
  have hzl := hg.reg k hk zs hz
  have hcl := hg.cell cs hcs
  have hrd := rdn_some hz
  have hrc := rdn_some hcs
  have hwr := wrn_some hz
  have hwc := wrn_some hcs
  -- an object, by a register that has it
  have hobj : ∀ b, b < zs.length → zs.getD b 0 ≠ 0 → ∃ (q : Nat) (fs : List Int), zs.getD b 0 = (q : Int) + 1 ∧ q < 1000000 ∧ R[m + 1 + q]? = some fs ∧ m + (zs.getD b 0).toNat = m + 1 + q := by
    intro b hb h0
    obtain ⟨q, h1, h2⟩ := hg.val k zs b hz hb
    rw [h1] at h0 ⊢
    have h3 : q ≠ 0 := fun e => h0 (by rw [e]; rfl)
    have hlt : m + 1 + (q - 1) < R.length := by omega
    exact ⟨q - 1, R[m + 1 + (q - 1)], by omega, by omega, List.getElem?_eq_getElem hlt, by simp; omega⟩
  obtain ⟨ok, oa, ob, oc⟩ := o
  rcases chk_cases hc with ⟨hk1, ha, hb⟩ | ⟨hk1, ha, hb⟩ | ⟨hk1, ha, hb⟩ | ⟨hk1, ha, hb⟩ | ⟨hk1, ha, hb⟩ | ⟨hk1, ha⟩ | ⟨hk1, ha, hb⟩ | hk1 <;> simp only at hk1 <;> subst hk1
  · -- alloc
    simp only at ha hb
    obtain ⟨a, rfl⟩ : ∃ a : Nat, oa = a := ⟨oa.toNat, by omega⟩
    obtain ⟨b, rfl⟩ : ∃ b : Nat, ob = b := ⟨ob.toNat, by omega⟩
    have hz' : (R ++ [List.replicate b (0 : Int)])[k]? = some zs := by rw [List.getElem?_append_left hkR]; exact hz
    have e : gdo m R k ⟨1, a, b, oc⟩ = ((R ++ [List.replicate b 0]).set k (zs.set a ((R.length - m : Nat) : Int)), ((R.length - m : Nat) : Int), 0) := by
      simp only [gdo, Int.toNat_natCast, if_true]
      rw [wrn_some hz']
    rw [e]
    refine do_at h hF k hk hv _ hT hc 58 rfl (fun args w => by simp [callFunc, Tryz.func58, go_sem]; rfl) _ _ _ (fun W F1 hG hF1 => ?_)
    exact alloc_any hG hF1 hv hz 1 oc a b (by omega) (by omega) hR
  · -- load
    simp only at ha hb
    obtain ⟨a, rfl⟩ : ∃ a : Nat, oa = a := ⟨oa.toNat, by omega⟩
    obtain ⟨b, rfl⟩ : ∃ b : Nat, ob = b := ⟨ob.toNat, by omega⟩
    by_cases h0 : zs.getD b 0 = 0
    · have e : gdo m R k ⟨2, a, b, oc⟩ = (R, 0, 6) := by
        simp only [gdo, hrd, Int.toNat_natCast, if_pos h0]
        rfl
      rw [e]
      refine do_at h hF k hk hv _ hT hc 59 rfl (fun args w => by simp [callFunc, Tryz.func59, go_sem]; rfl) _ _ _ (fun W F1 hG hF1 => ?_)
      exact (load_nil hG hv hz 2 a oc b (by omega) h0).mono (fun e w' ⟨h1, h2, h3⟩ => ⟨h1, h2.x, h3⟩)
    · obtain ⟨q, fs, hq, hq2, hf, hmq⟩ := hobj b (by omega) h0
      by_cases hout : oc < 0 ∨ (fs.length : Int) ≤ oc
      · have e : gdo m R k ⟨2, a, b, oc⟩ = (R, 0, 7) := by
          simp only [gdo, hrd, Int.toNat_natCast, hmq, getD_some hf, if_neg h0, if_pos hout]
          rfl
        rw [e]
        refine do_at h hF k hk hv _ hT hc 59 rfl (fun args w => by simp [callFunc, Tryz.func59, go_sem]; rfl) _ _ _ (fun W F1 hG hF1 => ?_)
        exact (load_out hG hv hz 2 a oc b (by omega) q hq hq2 hf hout).mono (fun e w' ⟨h1, h2, h3⟩ => ⟨h1, h2.x, h3⟩)
      · obtain ⟨f, rfl⟩ : ∃ f : Nat, oc = f := ⟨oc.toNat, by omega⟩
        have e : gdo m R k ⟨2, a, b, f⟩ = (R.set k (zs.set a (fs.getD f 0)), fs.getD f 0, 0) := by
          simp only [gdo, hrd, Int.toNat_natCast, hmq, getD_some hf, if_neg h0, if_neg hout, rdn_some hf, hwr]
          rfl
        rw [e]
        refine do_at h hF k hk hv _ hT hc 59 rfl (fun args w => by simp [callFunc, Tryz.func59, go_sem]; rfl) _ _ _ (fun W F1 hG hF1 => ?_)
        exact (load_ok hG hv hz 2 a b f (by omega) (by omega) q hq hq2 hf (by omega)).mono (fun e w' ⟨h1, h2, h3⟩ => ⟨h1, h2.x, h3⟩)
  · -- store
    simp only at ha hb
    obtain ⟨a, rfl⟩ : ∃ a : Nat, oa = a := ⟨oa.toNat, by omega⟩
    obtain ⟨r, rfl⟩ : ∃ r : Nat, oc = r := ⟨oc.toNat, by omega⟩
    by_cases h0 : zs.getD a 0 = 0
    · have e : gdo m R k ⟨3, a, ob, r⟩ = (R, 0, 6) := by
        simp only [gdo, hrd, Int.toNat_natCast, if_pos h0]
        rfl
      rw [e]
      refine do_at h hF k hk hv _ hT hc 60 rfl (fun args w => by simp [callFunc, Tryz.func60, go_sem]; rfl) _ _ _ (fun W F1 hG hF1 => ?_)
      exact (store_nil hG hv hz 3 ob r a (by omega) h0).mono (fun e w' ⟨h1, h2, h3⟩ => ⟨h1, h2.x, h3⟩)
    · obtain ⟨q, fs, hq, hq2, hf, hmq⟩ := hobj a (by omega) h0
      by_cases hout : ob < 0 ∨ (fs.length : Int) ≤ ob
      · have e : gdo m R k ⟨3, a, ob, r⟩ = (R, 0, 7) := by
          simp only [gdo, hrd, Int.toNat_natCast, hmq, getD_some hf, if_neg h0, if_pos hout]
          rfl
        rw [e]
        refine do_at h hF k hk hv _ hT hc 60 rfl (fun args w => by simp [callFunc, Tryz.func60, go_sem]; rfl) _ _ _ (fun W F1 hG hF1 => ?_)
        exact (store_out hG hv hz 3 ob r a (by omega) q hq hq2 hf hout).mono (fun e w' ⟨h1, h2, h3⟩ => ⟨h1, h2.x, h3⟩)
      · obtain ⟨f, rfl⟩ : ∃ f : Nat, ob = f := ⟨ob.toNat, by omega⟩
        have e : gdo m R k ⟨3, a, f, r⟩ = (R.set (m + 1 + q) (fs.set f (zs.getD r 0)), 0, 0) := by
          simp only [gdo, hrd, Int.toNat_natCast, hmq, getD_some hf, if_neg h0, if_neg hout, wrn_some hf]
          rfl
        rw [e]
        refine do_at h hF k hk hv _ hT hc 60 rfl (fun args w => by simp [callFunc, Tryz.func60, go_sem]; rfl) _ _ _ (fun W F1 hG hF1 => ?_)
        exact (store_ok hG hv hz 3 a f r (by omega) (by omega) q hq hq2 hf (by omega)).mono (fun e w' ⟨h1, h2, h3⟩ => ⟨h1, h2.x, h3⟩)
  · -- get
    simp only at ha hb
    obtain ⟨a, rfl⟩ : ∃ a : Nat, oa = a := ⟨oa.toNat, by omega⟩
    obtain ⟨b, rfl⟩ : ∃ b : Nat, ob = b := ⟨ob.toNat, by omega⟩
    have e : gdo m R k ⟨4, a, b, oc⟩ = (R.set k (zs.set a (cs.getD b 0)), cs.getD b 0, 0) := by
      simp only [gdo, Int.toNat_natCast, hrc, hwr]
      rfl
    rw [e]
    refine do_at h hF k hk hv _ hT hc 61 rfl (fun args w => by simp [callFunc, Tryz.func61, go_sem]; rfl) _ _ _ (fun W F1 hG hF1 => ?_)
    exact (get_any hG hv hz hcs _ a b (by omega) (by omega) rfl rfl).mono (fun e w' ⟨h1, h2, h3⟩ => ⟨h1, h2.x, h3⟩)
  · -- set
    simp only at ha hb
    obtain ⟨a, rfl⟩ : ∃ a : Nat, oa = a := ⟨oa.toNat, by omega⟩
    obtain ⟨b, rfl⟩ : ∃ b : Nat, ob = b := ⟨ob.toNat, by omega⟩
    have e : gdo m R k ⟨5, a, b, oc⟩ = (R.set m (cs.set a (zs.getD b 0)), 0, 0) := by
      simp only [gdo, Int.toNat_natCast, hrd, hwc]
      rfl
    rw [e]
    refine do_at h hF k hk hv _ hT hc 62 rfl (fun args w => by simp [callFunc, Tryz.func62, go_sem]; rfl) _ _ _ (fun W F1 hG hF1 => ?_)
    exact (gset_any hG hv hz hcs _ a b (by omega) (by omega) rfl rfl).mono (fun e w' ⟨h1, h2, h3⟩ => ⟨h1, h2.x, h3⟩)
  · -- drop
    simp only at ha
    obtain ⟨a, rfl⟩ : ∃ a : Nat, oa = a := ⟨oa.toNat, by omega⟩
    have e : gdo m R k ⟨6, a, ob, oc⟩ = (R.set k (zs.set a 0), 0, 0) := by
      simp only [gdo, Int.toNat_natCast, hwr]
      rfl
    rw [e]
    refine do_at h hF k hk hv _ hT hc 63 rfl (fun args w => by simp [callFunc, Tryz.func63, go_sem]; rfl) _ _ _ (fun W F1 hG hF1 => ?_)
    exact (drop_any hG hv hz _ a (by omega) rfl).mono (fun e w' ⟨h1, h2, h3⟩ => ⟨h1, h2.x, h3⟩)
  · -- move
    simp only at ha hb
    obtain ⟨a, rfl⟩ : ∃ a : Nat, oa = a := ⟨oa.toNat, by omega⟩
    obtain ⟨b, rfl⟩ : ∃ b : Nat, ob = b := ⟨ob.toNat, by omega⟩
    have e : gdo m R k ⟨7, a, b, oc⟩ = (R.set k (zs.set a (zs.getD b 0)), zs.getD b 0, 0) := by
      simp only [gdo, Int.toNat_natCast, hrd, hwr]
      rfl
    rw [e]
    refine do_at h hF k hk hv _ hT hc 64 rfl (fun args w => by simp [callFunc, Tryz.func64, go_sem]; rfl) _ _ _ (fun W F1 hG hF1 => ?_)
    exact (move_any hG hv hz _ a b (by omega) (by omega) rfl rfl).mono (fun e w' ⟨h1, h2, h3⟩ => ⟨h1, h2.x, h3⟩)
  · -- safe
    have e : gdo m R k ⟨8, oa, ob, oc⟩ = (R, 0, 0) := rfl
    rw [e]
    refine do_at h hF k hk hv _ hT hc 65 rfl (fun args w => by simp [callFunc, Tryz.func65, go_sem]; rfl) _ _ _ (fun W F1 hG hF1 => ?_)
    exact (safe_any hG v _).mono (fun e w' ⟨h1, h2, h3⟩ => ⟨h1, h2.x, h3⟩)
end
end Go.Proofs.YtkjplkkjdlanhaaGreatDoor
