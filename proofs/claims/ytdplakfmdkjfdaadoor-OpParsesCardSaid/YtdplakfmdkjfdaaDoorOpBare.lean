/- Bare: an operation without what it doesn't use. -/
import Derived.Test.YtdplakfmdkjfdaaDoorOp2b
import Derived.Test.YtdplakfmdkjfdaaDoorOp3
import Derived.Test.YtdplakfmdkjfdaaDoorAppAt
import Derived.Test.YtdplakfmdkjfdaaDoorRowV
namespace Go.Proofs.YtdplakfmdkjfdaaDoor
open Go.RowKit Go.Sort
attribute [local go_sem ↓] app9_of

set_option maxRecDepth 4000 in
set_option maxHeartbeats 4000000 in
theorem bare1_any (l : UInt8) (v : Int) (B i L s : Nat) (u : Value) (zs : List Int) (w : World) (hn : w.cell? ⟨B, i, none⟩ = some (.int .i64 v)) (hL : Blk w L [u] 39) (hown : w.ownsRow s 3 1 u zs.length (zs.map (Value.int .i64))) (hz : zs.length ≤ 1000) (hs : s ≤ w.heap.size) (hLs : L < s) :
    Calls Tryd.prog 62 #[.int .u8 l.toNat, .pointer (some ⟨B, i, none⟩), .pointer (some ⟨L, 0, none⟩)] w fun x w' => x = .returned (.tuple #[]) ∧ (∃ u', Blk w' L [u'] 39 ∧ w'.ownsRow s 3 1 u' (zs ++ [v]).length ((zs ++ [v]).map (Value.int .i64))) ∧ Keep (fun i => i = L ∨ s ≤ i) w w' := by
  obtain ⟨W2, hW2⟩ : ∃ W', W' = (w.alloc (.cells #[.int .i64 v] 3)).drew := ⟨_, rfl⟩
  have hk2 : Keep none_ w W2 := by rw [hW2]; exact ((Keep.refl _ _).alloc _).drew
  have hone : W2.ownsRow 0 3 1 (.slice (some ⟨w.heap.size, 0, none⟩) 1 1) [v].length ([v].map (Value.int .i64)) := by
    rw [hW2]
    exact own_oneI w _
  obtain ⟨u', W3, hrun3, ho3, hgr3, hwh3⟩ := app_at (own_still hown hk2) hone (by simp; omega) (Nat.le_trans hs hk2.size)
  obtain ⟨a', c', rfl, -⟩ := own_form (own_low ho3 (Nat.zero_le _))
  have hL2 : Blk W2 L [u] 39 := hk2.blk hL (fun f => f)
  have hL3 : Blk W3 L [u] 39 := hL2.grown hgr3 (fun e => by have := own_above hown L e; omega)
  have hk3 : Keep (fun i => i = L ∨ s ≤ i) w W3 := (Keep.mono (T := fun i => i = L ∨ s ≤ i) hk2 (fun _ _ f => f.elim)).grown hgr3 (fun k hk _ => .inr (own_above hown k hk))
  have HL4 := Lib.hid (hL3.set 0 (.slice a' (zs.length + [v].length) c'))
  have HK4 := Lib.hid (hk3.puts (B := L) (Or.inl rfl) 0 (.slice a' (zs.length + [v].length) c'))
  have HO4 : Hid ((W3.setCell ⟨L, 0, none⟩ (.slice a' (zs.length + [v].length) c')).ownsRow s 3 1 (.slice a' (zs.length + [v].length) c') (zs ++ [v]).length ((zs ++ [v]).map (Value.int .i64))) := by
    rw [← List.map_append] at ho3
    have e : zs.length + [v].length = (zs ++ [v]).length := by simp
    rw [← e]
    exact own_keep ho3 ((Keep.refl (only L) W3).put 0 _) (fun b hb he => by have := own_above ho3 b hb; unfold only at he; omega)
  have cL0 := hL.cell 0 rfl
  have cL : ∀ o, (w.alloc o).cell? ⟨L, 0, none⟩ = some u := fun o => (hL.alloc o).cell 0 rfl
  have f3 := hL3.free 0
  have c3 := hL3.cell 0 rfl
  rw [hW2] at hrun3
  clear hW2 hk2 hone ho3 hgr3 hwh3 hL2 hL3 hk3 hown hL hs hLs hz
  go_enter Tryd.func62, Tryd.ntmps62
  go_wp2_with fail
  go_region
  go_wp2_with fail
  go_end0
  exact ⟨rfl, ⟨_, HL4.out, HO4.out⟩, HK4.out⟩

set_option maxRecDepth 4000 in
set_option maxHeartbeats 4000000 in
theorem bare2_any (l : UInt8) (x v : Int) (B i L G j n c : Nat) (cs : List Value) (w : World) (hB : Blk w B cs 35) (hn : cs[i]? = some (.int .i64 x)) (hL : Blk w L [.slice (some ⟨G, j, none⟩) (n + 1) c] 39) (hg : w.cell? ⟨G, j, none⟩ = some (.int .i64 v)) (hBL : B ≠ L) :
    Calls Tryd.prog 63 #[.int .u8 l.toNat, .pointer (some ⟨B, i, none⟩), .pointer (some ⟨L, 0, none⟩)] w fun e w' => e = .returned (.tuple #[]) ∧ Blk w' B (cs.set i (.int .i64 v)) 35 ∧ Blk w' L [.slice (cutA (some ⟨G, j, none⟩) c 1) n (c - 1)] 39 ∧ Keep (fun k => k = B ∨ k = L) w w' := by
  have hcut : ∀ w, (Instr.slice 39 (.slice (some ⟨G, j, none⟩) (n + 1) c) (some (.int .i64 1)) none none).run Tryd.prog w = .ok (.slice (cutA (some ⟨G, j, none⟩) c 1) n (c - 1)) w := fun w => run_cut (P := Tryd.prog) Tryd.underlying39 (by kernel_rfl) (some ⟨G, j, none⟩) (n + 1) c 1 (by omega) w
  generalize cutA (some ⟨G, j, none⟩) c 1 = a' at *
  generalize c - 1 = c' at *
  have cn := hB.cell i hn
  have fn := hB.free i
  have cL := hL.cell 0 rfl
  have fL := hL.free 0
  have cL2 : ∀ v, (w.setCell ⟨B, i, none⟩ v).cell? ⟨L, 0, none⟩ = _ := fun v => (hL.other (a := ⟨B, i, none⟩) (fun e => hBL e.symm) v).cell 0 rfl
  have fL2 : ∀ v, (w.setCell ⟨B, i, none⟩ v).frozen? ⟨L, 0, none⟩ = false := fun v => (hL.other (a := ⟨B, i, none⟩) (fun e => hBL e.symm) v).free 0
  have HB := Lib.hid hB
  have HL := Lib.hid hL
  have HBL := Lib.hid hBL
  clear hB hL hBL hn
  go_enter Tryd.func63, Tryd.ntmps63
  go_wp2_with fail
  go_region
  go_wp2_with fail
  go_end0
  refine ⟨rfl, ?_, ?_, ?_⟩
  · exact (HB.out.drew.set i _).other (a := ⟨L, 0, none⟩) HBL.out _
  · exact (HL.out.drew.other (a := ⟨B, i, none⟩) (fun e => HBL.out e.symm) _).set 0 _
  · exact ((Keep.refl _ _).drew.puts (B := B) (Or.inl rfl) i _).puts (B := L) (Or.inr rfl) 0 _

/-- What a bare one has, behind j numbers. -/
def bareN (o : OpR) (j : Nat) : OpR := ⟨o.k, if 0 < j then o.a else 0, if 1 < j then o.b else 0, if 2 < j then o.c else 0⟩
def bareP (o : OpR) : OpR := if isKind o.k then bareN o (useL o.k).length else ⟨0, 0, 0, 0⟩
def numsL (o : OpR) : List Int := [o.a, o.b, o.c]
theorem bareN_step (o : OpR) {j : Nat} (hj : j < 3) : (bareN o j).cells.set (j + 1) (.int .i64 (numOf o j)) = (bareN o (j + 1)).cells := by
  rcases (by omega : j = 0 ∨ j = 1 ∨ j = 2) with rfl | rfl | rfl <;> simp [bareN, OpR.cells, numOf]
theorem numsL_step (o : OpR) {j : Nat} (hj : j < 3) : (numsL o).take j ++ [numOf o j] = (numsL o).take (j + 1) := by
  rcases (by omega : j = 0 ∨ j = 1 ∨ j = 2) with rfl | rfl | rfl <;> rfl

/-- What lies in memory behind j numbers, at the first each. -/
structure B1I (o : OpR) (B L : Nat) (s j : Nat) (W : World) : Prop where
  hb : Blk W B o.cells 35
  hl : ∃ u, Blk W L [u] 39 ∧ W.ownsRow s 3 1 u ((numsL o).take j).length (((numsL o).take j).map (Value.int .i64))
  lo : L < s
theorem B1I.later {o : OpR} {B L s j : Nat} {W W' : World} (h : B1I o B L s j W) (k : Keep none_ W W') : B1I o B L s j W' := by
  obtain ⟨u, h1, h2⟩ := h.hl
  exact ⟨k.blk h.hb (fun f => f), ⟨u, k.blk h1 (fun f => f), own_still h2 k⟩, h.lo⟩
theorem B1I.step {o : OpR} {B L s j : Nat} {W : World} {l : UInt8} (h : B1I o B L s j W) (hsz : s ≤ W.heap.size) (hj : j < 3) (hB : B ≠ L) (hBs : B < s) :
    Calls Tryd.prog 62 (#[.int .u8 l.toNat, .pointer (some ⟨B, j + 1, none⟩)] ++ #[.pointer (some ⟨L, 0, none⟩)]) W fun x W' => x = .returned (.tuple #[]) ∧ B1I o B L s (j + 1) W' ∧ Keep (fun i => only L i ∨ s ≤ i) W W' := by
  obtain ⟨u, h1, h2⟩ := h.hl
  have hn : W.cell? ⟨B, j + 1, none⟩ = some (.int .i64 (numOf o j)) := by
    refine h.hb.cell (j + 1) ?_
    rcases (by omega : j = 0 ∨ j = 1 ∨ j = 2) with rfl | rfl | rfl <;> rfl
  refine (bare1_any l (numOf o j) B (j + 1) L s u ((numsL o).take j) W hn h1 h2 (by simp [numsL]; omega) hsz h.lo).mono ?_
  rintro x W' ⟨rfl, ⟨u', h3, h4⟩, hk⟩
  rw [numsL_step o hj] at h4
  exact ⟨rfl, ⟨hk.blk h.hb (fun e => by omega), ⟨u', h3, h4⟩, h.lo⟩, hk⟩

/-- At the second each. -/
structure B2I (o : OpR) (B L G c u : Nat) (j : Nat) (W : World) : Prop where
  hb : Blk W B (bareN o j).cells 35
  hl : ∃ v, Blk W L [v] 39 ∧ (j < u → v = .slice (some ⟨G, j, none⟩) (u - j) (c - j))
  hg : ∀ i, i < u → W.cell? ⟨G, i, none⟩ = some (.int .i64 (numOf o i))
theorem B2I.later {o : OpR} {B L G c u j : Nat} {W W' : World} (h : B2I o B L G c u j W) (k : Keep none_ W W') : B2I o B L G c u j W' := by
  obtain ⟨v, h1, h2⟩ := h.hl
  exact ⟨k.blk h.hb (fun f => f), ⟨v, k.blk h1 (fun f => f), h2⟩, fun i hi => k.still (h.hg i hi)⟩
theorem B2I.step {o : OpR} {B L G c u j : Nat} {W : World} {l : UInt8} (h : B2I o B L G c u j W) (hj : j < u) (hu : u ≤ 3) (hc : u ≤ c) (hB : B ≠ L) (hGB : G ≠ B) (hGL : G ≠ L) :
    Calls Tryd.prog 63 (#[.int .u8 l.toNat, .pointer (some ⟨B, j + 1, none⟩)] ++ #[.pointer (some ⟨L, 0, none⟩)]) W fun x W' => x = .returned (.tuple #[]) ∧ B2I o B L G c u (j + 1) W' ∧ Keep (fun k => k = B ∨ k = L) W W' := by
  obtain ⟨v, h1, h2⟩ := h.hl
  have hv := h2 hj
  subst hv
  obtain ⟨n, hn⟩ : ∃ n, u = n + 1 + j := ⟨u - 1 - j, by omega⟩
  have e1 : u - j = n + 1 := by omega
  rw [e1] at h1
  have hx : ∃ x, (bareN o j).cells[j + 1]? = some (.int .i64 x) := by
    rcases (by omega : j = 0 ∨ j = 1 ∨ j = 2) with rfl | rfl | rfl <;> exact ⟨_, rfl⟩
  obtain ⟨x, hx⟩ := hx
  refine (bare2_any l x (numOf o j) B (j + 1) L G j n (c - j) (bareN o j).cells W h.hb hx h1 (h.hg j hj) hB).mono ?_
  rintro e W' ⟨rfl, h3, h4, hk⟩
  rw [bareN_step o (by omega)] at h3
  refine ⟨rfl, ⟨h3, ⟨_, h4, fun h5 => ?_⟩, fun i hi => hk.cellv (h.hg i hi) (fun he => by simp at he; omega)⟩, hk⟩
  have e2 : c - j ≠ 1 := by omega
  have e3 : cutA (some ⟨G, j, none⟩) (c - j) 1 = some ⟨G, j + 1, none⟩ := by
    unfold cutA
    rw [if_neg e2]
    simp [Addr.add]
  rw [e3]
  have e4 : u - (j + 1) = n := by omega
  have e5 : c - (j + 1) = c - j - 1 := by omega
  rw [e4, e5]

set_option maxRecDepth 4000 in
set_option maxHeartbeats 4000000 in
theorem bare_any (o : OpR) (w : World) (hT : Tabs w) : Calls Tryd.prog 38 #[.agg o.cells.toArray] w fun e w' => e = .returned (.agg (bareP o).cells.toArray) ∧ Keep none_ w w' := by
  obtain ⟨W0, hW0⟩ : ∃ W', W' = (w.alloc (.cells o.cells.toArray 35)).alloc (.cells #[.int .i64 0, .int .i64 0, .int .i64 0, .int .i64 0] 35) := ⟨_, rfl⟩
  have HO0 : Hid (Blk W0 w.heap.size o.cells 35) := by rw [hW0]; exact (Blk.new w _ _).alloc _
  have HR0 : Hid (Blk W0 (w.heap.size + 1) [.int .i64 0, .int .i64 0, .int .i64 0, .int .i64 0] 35) := by rw [hW0]; have h := Blk.new (w.alloc (.cells o.cells.toArray 35)) [.int .i64 0, .int .i64 0, .int .i64 0, .int .i64 0] 35; simp only [World.size_alloc] at h; exact h
  have HK0 : Hid (Keep none_ w W0) := by rw [hW0]; exact ((Keep.refl _ _).alloc _).alloc _
  have hsz0 : W0.heap.size = w.heap.size + 1 + 1 := by rw [hW0]; simp
  have HT := Lib.hid (hT.keep HK0.out)
  have HIS := Lib.hid ((is_any o.k W0).mono (fun _ _ h => And.intro h.1 h.2.symm))
  have k0 : W0.cell? ⟨w.heap.size, 0, none⟩ = some (.int .i64 o.k) := HO0.out.cell 0 rfl
  have hoc : o.cells.toArray = #[.int .i64 o.k, .int .i64 o.a, .int .i64 o.b, .int .i64 o.c] := rfl
  rw [hoc] at hW0 ⊢
  clear hoc hT
  cases hik : isKind o.k with
  | false =>
    have HE : Hid (bareP o = ⟨0, 0, 0, 0⟩) := by unfold Hid bareP; rw [hik]; rfl
    rw [hik] at HIS
    have z0 := HR0.out.free 0; have z1 := HR0.out.free 1; have z2 := HR0.out.free 2; have z3 := HR0.out.free 3
    have y0 := HR0.out.cell 0 rfl; have y1 := HR0.out.cell 1 rfl; have y2 := HR0.out.cell 2 rfl; have y3 := HR0.out.cell 3 rfl
    clear hsz0
    go_enter Tryd.func38, Tryd.ntmps38
    go_wp2_with fail
    rw [← hW0]
    clear hW0
    refine HIS.out.mono ?_
    rintro e w1 ⟨rfl, rfl⟩
    go_wp2_with fail
    have hR2 := ((((HR0.out.set 0 (.int .i64 0)).set 1 (.int .i64 0)).set 2 (.int .i64 0)).set 3 (.int .i64 0))
    have hk2 := (((HK0.out.putNew (B := w.heap.size + 1) (by omega) 0 (.int .i64 0)).putNew (B := w.heap.size + 1) (by omega) 1 (.int .i64 0)).putNew (B := w.heap.size + 1) (by omega) 2 (.int .i64 0)).putNew (B := w.heap.size + 1) (by omega) 3 (.int .i64 0)
    have k0 := hR2.cell 0 rfl; have k1 := hR2.cell 1 rfl; have k2 := hR2.cell 2 rfl; have k3 := hR2.cell 3 rfl
    refine bodyPost_ret (v := .agg #[.int .i64 0, .int .i64 0, .int .i64 0, .int .i64 0]) (by simp [results, Tryd.f38, go_sem, k0, k1, k2, k3]) rfl ⟨?_, hk2⟩
    rw [HE.out]; rfl
  | true =>
    rw [hik] at HIS
    have HE : Hid (bareP o = bareN o (useL o.k).length) := by unfold Hid bareP; rw [hik]; rfl
    generalize bareP o = q at *
    obtain ⟨W1, hW1⟩ : ∃ W', W' = W0.alloc (.cells #[.int .i64 o.k, .int .i64 0, .int .i64 0, .int .i64 0] 35) := ⟨_, rfl⟩
    have hk1 : Keep none_ W0 W1 := by rw [hW1]; exact (Keep.refl _ _).alloc _
    have hB1 : Blk W1 (w.heap.size + 1 + 1) (bareN o 0).cells 35 := by rw [hW1, ← hsz0]; exact Blk.new W0 _ _
    have hsz1 : W1.heap.size = w.heap.size + 1 + 1 + 1 := by rw [hW1]; simp [hsz0]
    obtain ⟨W2, hW2⟩ : ∃ W', W' = W1.alloc (.cells #[.slice none 0 0] 39) := ⟨_, rfl⟩
    have hk2 : Keep none_ W1 W2 := by rw [hW2]; exact (Keep.refl _ _).alloc _
    have hL2 : Blk W2 (w.heap.size + 1 + 1 + 1) [.slice none 0 0] 39 := by rw [hW2, ← hsz1]; exact Blk.new W1 _ _
    have hsz2 : W2.heap.size = w.heap.size + 1 + 1 + 1 + 1 := by rw [hW2]; simp [hsz1]
    have hul := useL_len o.k
    have HO2 := Lib.hid (hk2.blk (hk1.blk HO0.out (fun f => f)) (fun f => f))
    have HR2 := Lib.hid (hk2.blk (hk1.blk HR0.out (fun f => f)) (fun f => f))
    have HB2 := Lib.hid (hk2.blk hB1 (fun f => f))
    have HK2 := Lib.hid (HK0.out.trans (hk1.trans hk2))
    have HT2 := Lib.hid (HT.out.keep (hk1.trans hk2))
    have HEACH := Lib.hid (each_new 62 #[.pointer (some ⟨w.heap.size + 1 + 1 + 1, 0, none⟩)] (only (w.heap.size + 1 + 1 + 1)) (B1I o w.heap.size (w.heap.size + 1 + 1 + 1)) w.heap.size o.k W2 HT2.out (HO2.out.cell 0 rfl)
      (fun s hs => ⟨HO2.out, ⟨_, hL2, World.ownsRow_nil _ _ _ _⟩, by omega⟩)
      (fun args w => by simp [callFunc, Tryd.func62, go_sem]; rfl) (fun s j W W' h k => h.later k)
      (fun i hi => by unfold only at hi; omega)
      (fun s j l W hs hsz hl h => h.step hsz (Nat.lt_of_lt_of_le (List.getElem?_eq_some_iff.1 hl).1 hul) (by omega) (by have := h.lo; omega)))
    have HSZ2 := Lib.hid hsz2
    have z0 := HR2.out.free 0
    have HUL := Lib.hid hul
    have hW3 : (W0.alloc (.cells #[.int .i64 o.k, .int .i64 0, .int .i64 0, .int .i64 0] 35)).alloc (.cells #[.slice none 0 0] 39) = W2 := by rw [hW2, hW1]
    clear z0 hk1 hB1 hW1 hW2 hk2 hL2 hsz2 hul HT HR0 HK0 hsz1
    go_enter Tryd.func38, Tryd.ntmps38
    go_wp2_with fail
    rw [← hW0]
    refine HIS.out.mono ?_
    rintro e w1 ⟨rfl, rfl⟩
    clear hW0
    go_wp2_with fail
    refine HEACH.out.mono ?_
    rintro e W3 ⟨rfl, ⟨s, hs, hI3⟩, hk3⟩
    obtain ⟨u, hL3, ho3⟩ := hI3.hl
    have hlen : ((numsL o).take (useL o.k).length).length = (useL o.k).length := by have := HUL.out; simp [numsL]; omega
    rw [hlen] at ho3
    obtain ⟨a, c, rfl, -, hnc, -, hc⟩ := own_form (own_low ho3 (Nat.zero_le _))
    have hG : ∃ G, s ≤ G ∧ (0 < (useL o.k).length → a = some ⟨G, 0, none⟩) ∧ ∀ i, i < (useL o.k).length → W3.cell? ⟨G, i, none⟩ = some (.int .i64 (numOf o i)) := by
      by_cases h0 : 0 < (useL o.k).length
      · have hx : ∀ i, i < (useL o.k).length → (((numsL o).take (useL o.k).length).map (Value.int .i64))[i]? = some (.int .i64 (numOf o i)) := fun i hi => by
          have := HUL.out
          rw [List.getElem?_map, List.getElem?_take, if_pos hi]
          rcases (by omega : i = 0 ∨ i = 1 ∨ i = 2) with rfl | rfl | rfl <;> rfl
        obtain ⟨G, rfl, -⟩ := hc 0 _ (hx 0 h0)
        refine ⟨G, own_above ho3 G rfl, fun _ => rfl, fun i hi => ?_⟩
        obtain ⟨G', e, h1, _⟩ := hc i _ (hx i hi)
        cases e
        simpa using h1
      · exact ⟨s, Nat.le_refl _, fun h => absurd h h0, fun i hi => absurd hi (by omega)⟩
    obtain ⟨G, hGs, hGa, hGc⟩ := hG
    have hsz := HSZ2.out
    have hkL : Keep (only (w.heap.size + 1 + 1 + 1)) W2 W3 := hk3
    have hR3 := hkL.blk HR2.out (by unfold only; omega)
    have hB3 := hkL.blk HB2.out (by unfold only; omega)
    have hO3 := hkL.blk HO2.out (by unfold only; omega)
    have hT3 : Tabs W3 := ⟨fun i r hr => hkL.cellv (HT2.out.lim i r hr) (fun he => by unfold only at he; simp at he), fun i r hr => hkL.cellv (HT2.out.kind i r hr) (fun he => by unfold only at he; simp at he)⟩
    have hI0 : B2I o (w.heap.size + 1 + 1) (w.heap.size + 1 + 1 + 1) G c (useL o.k).length 0 W3 := ⟨hB3, ⟨_, hL3, fun h => by rw [hGa h]; rfl⟩, hGc⟩
    have hnc2 : (useL o.k).length ≤ c := hnc
    have HEACH2 := Lib.hid (each_any 63 #[.pointer (some ⟨w.heap.size + 1 + 1 + 1, 0, none⟩)] (fun k => k = w.heap.size + 1 + 1 ∨ k = w.heap.size + 1 + 1 + 1) (B2I o (w.heap.size + 1 + 1) (w.heap.size + 1 + 1 + 1) G c (useL o.k).length) (w.heap.size + 1 + 1) o.k W3 hT3 (hB3.cell 0 rfl) hI0
      (fun args w => by simp [callFunc, Tryd.func63, go_sem]; rfl) (fun j W W' h k => h.later k)
      (fun i hi => by have := hkL.size; omega)
      (fun j l W hl h _ => h.step (List.getElem?_eq_some_iff.1 hl).1 HUL.out hnc2 (by omega) (by omega) (by omega)))
    have HK3 := Lib.hid (HK2.out.trans' hkL (fun i hi he => by unfold only at he; omega))
    have HR3 := Lib.hid hR3
    clear hs hI3 hk3 hL3 ho3 hlen hnc hc hGs hGa hGc hsz hkL hR3 hB3 hO3 hT3 hI0 hnc2 HEACH
    go_wp2_with fail
    refine HEACH2.out.mono ?_
    rintro e W4 ⟨rfl, hI4, hk4⟩
    have HR4 := Lib.hid (hk4.blk HR3.out (by omega))
    have HK4 := Lib.hid (HK3.out.trans' hk4 (fun i hi he => by omega))
    have hb := hI4.hb
    rw [← HE.out] at hb
    have x0 : W4.cell? ⟨w.heap.size + 1 + 1, 0, none⟩ = some (.int .i64 q.k) := hb.cell 0 rfl
    have x1 : W4.cell? ⟨w.heap.size + 1 + 1, 1, none⟩ = some (.int .i64 q.a) := hb.cell 1 rfl
    have x2 : W4.cell? ⟨w.heap.size + 1 + 1, 2, none⟩ = some (.int .i64 q.b) := hb.cell 2 rfl
    have x3 : W4.cell? ⟨w.heap.size + 1 + 1, 3, none⟩ = some (.int .i64 q.c) := hb.cell 3 rfl
    have z0 := HR4.out.free 0; have z1 := HR4.out.free 1; have z2 := HR4.out.free 2; have z3 := HR4.out.free 3
    have y0 := HR4.out.cell 0 rfl; have y1 := HR4.out.cell 1 rfl; have y2 := HR4.out.cell 2 rfl; have y3 := HR4.out.cell 3 rfl
    clear hI4 hk4 hb HEACH2 HE
    go_wp2_with fail
    have hR5 := ((((HR4.out.set 0 (.int .i64 q.k)).set 1 (.int .i64 q.a)).set 2 (.int .i64 q.b)).set 3 (.int .i64 q.c))
    have hk5 := (((HK4.out.putNew (B := w.heap.size + 1) (by omega) 0 (.int .i64 q.k)).putNew (B := w.heap.size + 1) (by omega) 1 (.int .i64 q.a)).putNew (B := w.heap.size + 1) (by omega) 2 (.int .i64 q.b)).putNew (B := w.heap.size + 1) (by omega) 3 (.int .i64 q.c)
    have k0 := hR5.cell 0 rfl; have k1 := hR5.cell 1 rfl; have k2 := hR5.cell 2 rfl; have k3 := hR5.cell 3 rfl
    exact bodyPost_ret (v := .agg #[.int .i64 q.k, .int .i64 q.a, .int .i64 q.b, .int .i64 q.c]) (by simp [results, Tryd.f38, go_sem, k0, k1, k2, k3]) rfl ⟨rfl, hk5⟩
end Go.Proofs.YtdplakfmdkjfdaaDoor
