/- Parse: the operation of a line. -/
import Derived.Test.YtdplakfmdkjfdaaDoorOpParse1
import Derived.Deep.QuietTactic
import Derived.BigQuiet
import Derived.Deep.LoopGhost
namespace Go.Proofs.YtdplakfmdkjfdaaDoor
open Go.RowKit Go.Sort

/-- What the library's tables and variables hold. -/
structure OpT (w : World) : Prop where
  tabs : Tabs w
  tab : Tab w
  e2 : ErrAt 2 w
  e3 : ErrAt 3 w
  ml : ∃ m, w.cell? ⟨4, 0, none⟩ = some (.int .i64 m)
theorem OpT.keep {w w' : World} (h : OpT w) (k : Keep none_ w w') : OpT w' := by
  obtain ⟨m, hm⟩ := h.ml
  exact ⟨h.tabs.keep k, h.tab.keep k, h.e2.keepS k (fun f => f), h.e3.keepS k (fun f => f), m, k.still hm⟩

theorem OpT.keepS {S : Nat → Prop} {w0 w w' : World} (h : OpT w) (h0 : OpT w0) (k : Keep S w w') (hs : ∀ g, g < w0.heap.size → ¬ S g) : OpT w' := by
  obtain ⟨m, hm⟩ := h.ml
  obtain ⟨m0, hm0⟩ := h0.ml
  obtain ⟨v2, hv2, _⟩ := h0.e2
  obtain ⟨v3, hv3, _⟩ := h0.e3
  exact ⟨⟨fun i r hr => k.cellv (h.tabs.lim i r hr) (hs _ (World.block_lt_of_cell? _ _ (h0.tabs.lim i r hr))), fun i r hr => k.cellv (h.tabs.kind i r hr) (hs _ (World.block_lt_of_cell? _ _ (h0.tabs.kind i r hr)))⟩,
    h.tab.keepS k h0.tab hs, h.e2.keepS k (hs _ (World.block_lt_of_cell? _ _ hv2)), h.e3.keepS k (hs _ (World.block_lt_of_cell? _ _ hv3)), m, k.cellv hm (hs _ (World.block_lt_of_cell? _ _ hm0))⟩
theorem wf_of {v : Int} (h1 : -9223372036854775808 ≤ v) (h2 : v ≤ 9223372036854775807) : (Lit.int .i64 v).wf = true := by
  simp [Lit.wf, IntKind.min, IntKind.max, IntKind.signed, IntKind.bits]
  omega
theorem atoiV_wf (s : List UInt8) : (Lit.int .i64 (atoiV s)).wf = true := by
  have key : ∀ v, Lib.atoiAll s = .ok v → -9223372036854775808 ≤ v ∧ v ≤ 9223372036854775807 := by
    intro v h
    cases s with
    | nil => cases h
    | cons c r =>
      unfold Lib.atoiAll at h
      simp only at h
      split at h
      · cases h
      · cases h
      · split at h
        · cases h
        · split at h
          · cases h
          · injection h with h
            subst h
            split <;> omega
  unfold atoiV
  split
  · rename_i v h
    exact wf_of (key v h).1 (key v h).2
  · unfold Lib.atoiSat
    split <;> exact wf_of (by omega) (by omega)
  · exact wf_of (by omega) (by omega)
theorem bytes_eq {a b : ByteArray} (h : a.toList = b.toList) : a = b := by
  obtain ⟨⟨l⟩⟩ := a
  obtain ⟨⟨l'⟩⟩ := b
  have e : ∀ l : List UInt8, (ByteArray.mk { toList := l }).toList = l := fun l => by rw [show (ByteArray.mk { toList := l }) = ByteArray.mk l.toArray from rfl, ByteArray.toList_mk]
  rw [e, e] at h
  rw [h]
def blank : ByteArray := ⟨#[32]⟩
def splitW (s : ByteArray) : List ByteArray := Lib.splitB blank 0 (Lib.countB s blank) s
/-- The kind of a word, among the first i. -/
def pk (w0 : ByteArray) : Nat → Nat
  | 0 => 0
  | i + 1 => if isKind (i : Int) && decide ((⟨(kindL.getD (2 * i) []).toArray⟩ : ByteArray) = w0) then i else pk w0 i
theorem pk_lt (w0 : ByteArray) : ∀ i, pk w0 i ≤ i
  | 0 => Nat.le_refl _
  | i + 1 => by
    unfold pk
    split
    · omega
    · have := pk_lt w0 i; omega

theorem split_size (sep : ByteArray) : ∀ (k : Nat) (s : ByteArray), ∀ b ∈ Lib.splitB sep 0 k s, b.size ≤ s.size
  | 0, s, b, h => by simp [Lib.splitB] at h; rw [h]; exact Nat.le_refl _
  | k + 1, s, b, h => by
    unfold Lib.splitB at h
    split at h
    · simp at h; rw [h]; exact Nat.le_refl _
    · rcases List.mem_cons.1 h with rfl | h
      · rw [ByteArray.size_extract]; omega
      · have := split_size sep k _ b h
        rw [ByteArray.size_extract] at this
        omega
theorem splitW_len (s : ByteArray) : (splitW s).length = Lib.countB s blank + 1 := Lib.splitB_all blank (by decide) 0 _ s rfl
theorem splitW_size (s : ByteArray) {b : ByteArray} (h : b ∈ splitW s) : b.size ≤ s.size := split_size blank _ s b h

set_option maxRecDepth 4000 in
theorem usesN_any (k : Int) (w : World) (hT : Tabs w) : Calls Tryd.prog 39 #[.int .i64 k] w fun e w' => e = .returned (.int .i64 ((useL k).length : Int)) ∧ w' = w := by
  have HU := Lib.hid ((uses_any k w hT).mono (fun _ _ h => And.intro h.1 h.2.symm))
  have HL := Lib.hid (useL_len k)
  clear hT
  obtain ⟨u, hu⟩ : ∃ u, u = useL k := ⟨_, rfl⟩
  rw [← hu] at HU HL ⊢
  clear hu
  go_enter Tryd.func39, Tryd.ntmps39
  go_wp2_with (go_at_call 64; refine HU.out.mono ?_; rintro e w1 ⟨rfl, rfl⟩)
  go_ret
  exact ⟨rfl, rfl⟩

/-- A number of a line that is parsed, behind j of them. -/
def pn (ws : List ByteArray) (j i : Nat) : Int := if i < j then atoiV (ws.getD (i + 1) blank).data.toList else 0
def pcells (K : Nat) (ws : List ByteArray) (j : Nat) : List Value := [.int .i64 (K : Int), .int .i64 (pn ws j 0), .int .i64 (pn ws j 1), .int .i64 (pn ws j 2)]
theorem pcells_step (K : Nat) (ws : List ByteArray) {j : Nat} (hj : j < 3) : (pcells K ws j).set (j + 1) (.int .i64 (atoiV (ws.getD (j + 1) blank).data.toList)) = pcells K ws (j + 1) := by
  rcases (by omega : j = 0 ∨ j = 1 ∨ j = 2) with rfl | rfl | rfl <;> simp [pcells, pn]
def parseO (ws : List ByteArray) : OpR := ⟨(pk (ws.headD blank) 9 : Int), pn ws (useL (pk (ws.headD blank) 9 : Int)).length 0, pn ws (useL (pk (ws.headD blank) 9 : Int)).length 1, pn ws (useL (pk (ws.headD blank) 9 : Int)).length 2⟩
def parseP (s : ByteArray) : OpR × Int :=
  if (splitW s).length ≠ (useL (pk ((splitW s).headD blank) 9 : Int)).length + 1 then (⟨0, 0, 0, 0⟩, 2)
  else if isKind (parseO (splitW s)).k = true ∧ lineL (parseO (splitW s)) = s.data.toList then (parseO (splitW s), 0) else (⟨0, 0, 0, 0⟩, 2)

/-- What lies in memory behind j numbers. -/
structure PaI (K : Nat) (ws : List ByteArray) (N G O B : Nat) (j : Nat) (W : World) : Prop where
  hb : Blk W B (pcells K ws j) 35
  ho : Blk W O [.slice (some ⟨G, j, none⟩) (N + 1 - j) (N + 1 - j)] 90
theorem parseO_wf (ws : List ByteArray) : (parseO ws).wf := by
  have h1 : ∀ j i, (Lit.int .i64 (pn ws j i)).wf = true := fun j i => by
    unfold pn
    split
    · exact atoiV_wf _
    · exact wf_of (by omega) (by omega)
  have := pk_lt (ws.headD blank) 9
  exact ⟨wf_of (by simp only [parseO]; omega) (by simp only [parseO]; omega), h1 _ _, h1 _ _, h1 _ _⟩
theorem PaI.step {K : Nat} {ws : List ByteArray} {N G O B : Nat} {j : Nat} {W : World} (h : PaI K ws N G O B j W) (hj : j < N) (hj3 : j < 3) (hN : N ≤ 1000) (hwl : ws.length = N + 1) (hwz : ∀ b ∈ ws, b.size ≤ 1000) (hG : Blk W G (ws.map Value.string) 9) (hBO : B ≠ O) (l : UInt8)
    (h2 : ErrAt 2 W) (h3 : ErrAt 3 W) : Calls Tryd.prog 56 (#[.int .u8 l.toNat, .pointer (some ⟨B, j + 1, none⟩)] ++ #[.pointer (some ⟨O, 0, none⟩)]) W fun x W' => x = .returned (.tuple #[]) ∧ PaI K ws N G O B (j + 1) W' ∧ Keep (fun i => i = B ∨ i = O) W W' := by
  have hx : ∃ x, (pcells K ws j)[j + 1]? = some (.int .i64 x) := by
    rcases (by omega : j = 0 ∨ j = 1 ∨ j = 2) with rfl | rfl | rfl <;> exact ⟨_, rfl⟩
  obtain ⟨x, hx⟩ := hx
  have hw : ws[j + 1]? = some (ws.getD (j + 1) blank) := by
    rw [List.getD_eq_getElem?_getD, List.getElem?_eq_getElem (by omega)]; rfl
  obtain ⟨n, hn⟩ : ∃ n, N = n + 1 + j := ⟨N - 1 - j, by omega⟩
  have ho := h.ho
  have e1 : N + 1 - j = n + 2 := by omega
  have e2 : N + 1 - (j + 1) = n + 1 := by omega
  rw [e1] at ho
  refine (parse1_any l x (ws.getD (j + 1) blank) B (j + 1) O G j n W (h.hb.cell (j + 1) hx) (h.hb.free (j + 1)) ho (hG.cell (j + 1) (by rw [List.getElem?_map, hw]; rfl)) (hwz _ (List.mem_of_getElem? hw)) (by omega) hBO h2 h3).mono ?_
  rintro e w' ⟨rfl, w1, hk, rfl⟩
  refine ⟨rfl, ⟨?_, ?_⟩, ?_⟩
  · have h4 := ((hk.blk h.hb (fun f => f)).set (j + 1) (.int .i64 (atoiV (ws.getD (j + 1) blank).data.toList)))
    rw [pcells_step K ws hj3] at h4
    exact h4.other (a := ⟨O, 0, none⟩) hBO _
  · have h4 := ((hk.blk ho (fun f => f)).other (a := ⟨B, j + 1, none⟩) (fun e => hBO e.symm) (.int .i64 (atoiV (ws.getD (j + 1) blank).data.toList))).set 0 (.slice (some ⟨G, j + 1, none⟩) (n + 1) (n + 1))
    rw [e2]
    exact h4
  · exact (((Keep.mono (T := fun i => i = B ∨ i = O) hk (fun _ _ f => f.elim)).puts (Or.inl rfl) (j + 1) _).puts (Or.inr rfl) 0 _)

/-- What lies in memory at the loop over the kinds. -/
structure PkI (w0 : ByteArray) (B : Nat) (V : World) (i : Nat) (W : World) : Prop where
  hb : Blk W B [.int .i64 ((pk w0 i : Nat) : Int), .int .i64 0, .int .i64 0, .int .i64 0] 35
  keep : Keep (only B) V W

set_option maxRecDepth 4000 in
set_option maxHeartbeats 4000000 in
theorem parse_any (s : ByteArray) (w : World) (hs : s.size ≤ 1000) (hT : OpT w) : Calls Tryd.prog 33 #[.string s] w fun e w' => e = .returned (.tuple #[.agg (parseP s).1.cells.toArray, .int .i64 (parseP s).2]) ∧ Keep none_ w w' := by
  obtain ⟨m, hm⟩ := hT.ml
  obtain ⟨W0, hW0⟩ : ∃ W', W' = w.alloc (.cells #[.int .i64 0, .int .i64 0, .int .i64 0, .int .i64 0] 35) := ⟨_, rfl⟩
  have hk0 : Keep none_ w W0 := by rw [hW0]; exact (Keep.refl _ _).alloc _
  have HR0 : Hid (Blk W0 w.heap.size [.int .i64 0, .int .i64 0, .int .i64 0, .int .i64 0] 35) := by rw [hW0]; exact Blk.new w _ _
  have hsz0 : W0.heap.size = w.heap.size + 1 := by rw [hW0]; simp
  have HSP := Lib.hid (Tryd.strings_Split s blank m W0 (by omega) (hk0.still hm) (by decide))
  have HT := Lib.hid hT
  have HK0 := Lib.hid hk0
  have HSZ0 := Lib.hid hsz0
  unfold blank at HSP
  clear hT hk0 hm hsz0
  go_enter Tryd.func33, Tryd.ntmps33
  go_wp2_with fail
  rw [← hW0]
  clear hW0
  refine HSP.out.mono ?_
  rintro e w1 ⟨rfl, rfl⟩
  go_wp2_with fail
  obtain ⟨N, hN⟩ : ∃ N, N = Lib.countB s ⟨#[32]⟩ := ⟨_, rfl⟩
  obtain ⟨ws, hws⟩ : ∃ ws, ws = splitW s := ⟨_, rfl⟩
  have hwl : ws.length = N + 1 := by rw [hws, hN]; exact splitW_len s
  have hNs : N ≤ s.size := by rw [hN]; exact Lib.countB_le ⟨#[32]⟩ (by decide) _ s (Nat.le_refl _)
  have HWZ : Hid (∀ b ∈ ws, b.size ≤ 1000) := fun b hb => Nat.le_trans (splitW_size s (by rw [← hws]; exact hb)) hs
  have e9 : List.map Value.string (Lib.splitB ⟨#[32]⟩ 0 (Lib.countB s ⟨#[32]⟩) s) = ws.map Value.string := by rw [hws]; rfl
  rw [e9, ← hN]
  have HWS := Lib.hid hws
  have HWL := Lib.hid hwl
  obtain ⟨W1, hW1⟩ : ∃ W', W' = W0.alloc (.cells (ws.map Value.string).toArray 9) := ⟨_, rfl⟩
  have hk1 : Keep none_ W0 W1 := by rw [hW1]; exact (Keep.refl _ _).alloc _
  have hG1 : Blk W1 W0.heap.size (ws.map Value.string) 9 := by rw [hW1]; exact Blk.new _ _ _
  have hsz1 : W1.heap.size = W0.heap.size + 1 := by rw [hW1]; simp
  rw [← hW1]
  obtain ⟨W2, hW2⟩ : ∃ W', W' = W1.alloc (.cells #[.slice (some ⟨W0.heap.size, 0, none⟩) (N + 1) (N + 1)] 90) := ⟨_, rfl⟩
  have hk2 : Keep none_ W1 W2 := by rw [hW2]; exact (Keep.refl _ _).alloc _
  have hO2 : Blk W2 (W0.heap.size + 1) [.slice (some ⟨W0.heap.size, 0, none⟩) (N + 1) (N + 1)] 90 := by rw [hW2, ← hsz1]; exact Blk.new _ _ _
  have hsz2 : W2.heap.size = W0.heap.size + 1 + 1 := by rw [hW2]; simp [hsz1]
  rw [← hW2]
  obtain ⟨W3, hW3⟩ : ∃ W', W' = W2.alloc (.cells #[.int .i64 0, .int .i64 0, .int .i64 0, .int .i64 0] 35) := ⟨_, rfl⟩
  have hk3 : Keep none_ W2 W3 := by rw [hW3]; exact (Keep.refl _ _).alloc _
  have hB3 : Blk W3 (W0.heap.size + 1 + 1) [.int .i64 0, .int .i64 0, .int .i64 0, .int .i64 0] 35 := by rw [hW3, ← hsz2]; exact Blk.new _ _ _
  rw [← hW3]
  have HB3 : Hid (PkI (ws.headD blank) (W0.heap.size + 1 + 1) W3 0 W3) := ⟨hB3, Keep.refl _ _⟩
  have HO3 := Lib.hid (hk3.blk hO2 (fun f => f))
  have HG3 := Lib.hid (hk3.blk (hk2.blk hG1 (fun f => f)) (fun f => f))
  have HR3 := Lib.hid (hk3.blk (hk2.blk (hk1.blk HR0.out (fun f => f)) (fun f => f)) (fun f => f))
  have HK3 := Lib.hid (HK0.out.trans (hk1.trans (hk2.trans hk3)))
  have HTT := Lib.hid (HT.out.keep HK3.out)
  have HSZ : Hid (w.heap.size < W0.heap.size) := by have := HSZ0.out; unfold Hid; omega
  have HNL : Hid (N ≤ 1000) := Nat.le_trans hNs hs
  clear hW1 hk1 hG1 hsz1 hW2 hk2 hO2 hsz2 hW3 hk3 hB3 e9 hwl hws hN hNs HSP
  generalize W0.heap.size = G at *
  have hw0 : ws[0]? = some (ws.headD blank) := by
    have := HWL.out
    cases ws with
    | nil => simp at this
    | cons x xs => rfl
  have HW0 := Lib.hid hw0
  clear hw0
  obtain ⟨w0, hw0⟩ : ∃ w0, w0 = ws.headD blank := ⟨_, rfl⟩
  rw [← hw0] at HB3 HW0
  have HWH := Lib.hid hw0
  clear hw0
  go_loopg [11] 9 (fun g i wr => ∃ k : Nat, g + k = 9 ∧ i = .int .i64 k ∧ Hid (PkI w0 (G + 1 + 1) W3 k wr))
  case atStart => exact ⟨0, by omega, rfl, HB3⟩
  case round =>
    clear HB3
    obtain ⟨k, hg, rfl, HI⟩ := hrel
    by_cases hlt : k < 9
    · have hlt9 : (k : Int) < 9 := by omega
      have hk0 : (0 : Int) ≤ (k : Int) := by omega
      have hkl : kindL[2 * k]? = some (kindL.getD (2 * k) []) := by
        have : ∀ n, n < 9 → kindL[2 * n]? = some (kindL.getD (2 * n) []) := by decide
        exact this k hlt
      have hb0 := HI.out.hb.cell 0 rfl
      have hf0 := HI.out.hb.free 0
      have ck : wr.cell? ⟨0, k * 2, none⟩ = some (.string ⟨(kindL.getD (2 * k) []).toArray⟩) := by
        rw [Nat.mul_comm]
        exact HI.out.keep.cellv (HTT.out.tabs.kind _ _ hkl) (fun he => by unfold only at he; simp at he)
      have cO : wr.cell? ⟨G + 1, 0, none⟩ = some (.slice (some ⟨G, 0, none⟩) (N + 1) (N + 1)) := HI.out.keep.cellv (HO3.out.cell 0 rfl) (fun he => by unfold only at he; simp at he)
      have cG : wr.cell? ⟨G, 0, none⟩ = some (.string w0) := HI.out.keep.cellv (HG3.out.cell 0 (by rw [List.getElem?_map, HW0.out]; rfl)) (fun he => by unfold only at he; simp at he; omega)
      obtain ⟨wd, hwd⟩ : ∃ wd : ByteArray, wd = ⟨(kindL.getD (2 * k) []).toArray⟩ := ⟨_, rfl⟩
      rw [← hwd] at ck
      have HWD := Lib.hid hwd
      have HIS := Lib.hid (fun W => is_any (k : Int) W)
      clear hkl hwd
      cases hik : isKind (k : Int) with
      | false =>
        have HP : Hid (pk w0 (k + 1) = pk w0 k) := by unfold Hid; rw [pk, hik]; rfl
        rw [hik] at HIS
        clear hik
        go_wp2_with fail
        go_quiet (first | (go_at_call 54; exact Calls.quiet_of_same (HIS.out _)))
        go_wp2_with fail
        go_roundg (gk - 1)
        case measure => omega
        case rel => exact ⟨k + 1, by omega, by go_num, ⟨by rw [HP.out]; exact HI.out.hb, HI.out.keep.drewN _⟩⟩
      | true =>
        rw [hik] at HIS
        by_cases hq : wd = w0
        · have HP : Hid (pk w0 (k + 1) = k) := by
            unfold Hid
            rw [pk, hik, ← HWD.out, decide_eq_true hq]
            rfl
          subst hq
          clear hik
          go_wp2_with fail
          go_quiet (first | (go_at_call 54; exact Calls.quiet_of_same (HIS.out _)))
          go_wp2_with fail
          go_roundg (gk - 1)
          case measure => omega
          case rel => exact ⟨k + 1, by omega, by go_num, ⟨by rw [HP.out]; exact (show Blk (wr.drewN nq) _ _ _ from HI.out.hb).set 0 _, (HI.out.keep.drewN _).put 0 _⟩⟩
        · have HP : Hid (pk w0 (k + 1) = pk w0 k) := by
            unfold Hid
            rw [pk, hik, ← HWD.out, decide_eq_false hq]
            rfl
          have hq1 : (wd.toList == w0.toList) = false := by
            refine beq_eq_false_iff_ne.2 (fun e => hq (bytes_eq e))
          have hq2 : decide (wd = w0) = false := decide_eq_false hq
          clear hik
          go_wp2_with fail
          go_quiet (first | (go_at_call 54; exact Calls.quiet_of_same (HIS.out _)))
          go_wp2_with fail
          go_roundg (gk - 1)
          case measure => omega
          case rel => exact ⟨k + 1, by omega, by go_num, ⟨by rw [HP.out]; exact HI.out.hb, HI.out.keep.drewN _⟩⟩
    · obtain rfl : k = 9 := by omega
      have hb0 := HI.out.hb.cell 0 rfl
      have hK : pk w0 9 < 9 := by
        have key : ∀ i, 1 ≤ i → pk w0 i < i := by
          intro i
          induction i with
          | zero => intro h; omega
          | succ i ih =>
            intro _
            unfold pk
            split
            · omega
            · by_cases h0 : i = 0
              · subst h0; simp [pk]
              · have := ih (by omega); omega
        exact key 9 (by omega)
      obtain ⟨K, hKe⟩ : ∃ K, K = pk w0 9 := ⟨_, rfl⟩
      rw [← hKe] at hb0 hK
      have HU := Lib.hid (fun W (h : Tabs W) => usesN_any (K : Int) W h)
      have HTW : Hid (∀ q, Tabs (wr.drewN q)) := fun q => by
        refine ⟨fun i r hr => ?_, fun i r hr => ?_⟩
        · exact HI.out.keep.cellv (HTT.out.tabs.lim _ _ hr) (fun he => by unfold only at he; simp at he)
        · exact HI.out.keep.cellv (HTT.out.tabs.kind _ _ hr) (fun he => by unfold only at he; simp at he)
      have cO : wr.cell? ⟨G + 1, 0, none⟩ = some (.slice (some ⟨G, 0, none⟩) (N + 1) (N + 1)) := HI.out.keep.cellv (HO3.out.cell 0 rfl) (fun he => by unfold only at he; simp at he)
      have HKE := Lib.hid hKe
      have hul := useL_len (K : Int)
      obtain ⟨u, hu⟩ : ∃ u, u = (useL (K : Int)).length := ⟨_, rfl⟩
      rw [← hu] at HU hul
      have HUE := Lib.hid hu
      clear hKe hu hg
      by_cases hun : N = u
      · subst hun
        go_wp2_with fail
        go_quiet (first | (go_at_call 39; exact Calls.quiet_of_same (HU.out _ (HTW.out _))))
        go_wp2_with fail
        obtain ⟨Wd, hWd⟩ : ∃ W', W' = wr.drewN nq := ⟨_, rfl⟩
        have hkd : Keep (only (G + 1 + 1)) W3 Wd := by rw [hWd]; exact HI.out.keep.drewN _
        have hsz := HSZ.out
        have hT2 : 2 < w.heap.size := by obtain ⟨ev, h1, _⟩ := HT.out.e2; exact World.block_lt_of_cell? _ _ h1
        have hT3 : 3 < w.heap.size := by obtain ⟨ev, h1, _⟩ := HT.out.e3; exact World.block_lt_of_cell? _ _ h1
        have hBd : Blk Wd (G + 1 + 1) (pcells K ws 0) 35 := by rw [hWd]; have h := HI.out.hb; rw [← HKE.out] at h; exact h
        have hOd : Blk Wd (G + 1) [.slice (some ⟨G, 0, none⟩) (N + 1) (N + 1)] 90 := hkd.blk HO3.out (by unfold only; omega)
        have hGd : Blk Wd G (ws.map Value.string) 9 := hkd.blk HG3.out (by unfold only; omega)
        have hRd : Blk Wd w.heap.size [.int .i64 0, .int .i64 0, .int .i64 0, .int .i64 0] 35 := hkd.blk HR3.out (by unfold only; omega)
        have hTd : Tabs Wd := by rw [hWd]; exact HTW.out nq
        have h2d : ErrAt 2 Wd := HTT.out.e2.keepS hkd (by unfold only; omega)
        have h3d : ErrAt 3 Wd := HTT.out.e3.keepS hkd (by unfold only; omega)
        have HEACH := Lib.hid (each_any 56 #[.pointer (some ⟨G + 1, 0, none⟩)] (fun i => i = G + 1 + 1 ∨ i = G + 1) (PaI K ws N G (G + 1) (G + 1 + 1)) (G + 1 + 1) (K : Int) Wd hTd (hBd.cell 0 rfl) ⟨hBd, hOd⟩
          (fun args w => by simp [callFunc, Tryd.func56, go_sem]; rfl) (fun j W W' h k => ⟨k.blk h.hb (fun f => f), k.blk h.ho (fun f => f)⟩) (fun i hi => by have := hBd.lt; omega)
          (fun j l W hl h k => by
            have hjl := (List.getElem?_eq_some_iff.1 hl).1
            rw [← HUE.out] at hjl
            exact h.step hjl (by omega) HNL.out HWL.out HWZ.out (k.blk hGd (by omega)) (by omega) l (h2d.keepS k (by omega)) (h3d.keepS k (by omega))))
        rw [← HUE.out] at HEACH
        have HKD := Lib.hid hkd
        have HRD := Lib.hid hRd
        rw [← hWd]
        clear hWd hkd hBd hOd hGd hRd hTd h2d h3d hb0 cO
        refine HEACH.out.mono ?_
        rintro e W4 ⟨rfl, hI4, hk4⟩
        have hRF : Blk W4 w.heap.size [.int .i64 0, .int .i64 0, .int .i64 0, .int .i64 0] 35 := hk4.blk HRD.out (by omega)
        have hK4 : Keep none_ w W4 := (HK3.out.trans' HKD.out (fun i hi h => by unfold only at h; omega)).trans' hk4 (fun i hi h => by omega)
        have hT4 : OpT W4 := (HTT.out.keepS HT.out HKD.out (fun g hg he => by unfold only at he; omega)).keepS HT.out hk4 (fun g hg he => by omega)
        have hcells : pcells K ws N = (parseO ws).cells := by
          unfold pcells parseO OpR.cells
          rw [← HWH.out, ← HKE.out, ← HUE.out]
        have hb4 := hI4.hb
        rw [hcells] at hb4
        have HWFO := Lib.hid (parseO_wf ws)
        have hlen : ¬ (splitW s).length ≠ (useL (pk ((splitW s).headD blank) 9 : Int)).length + 1 := by
          rw [← HWS.out, ← HWH.out, ← HKE.out, ← HUE.out, HWL.out]
          simp
        have hPP : parseP s = if isKind (parseO ws).k = true ∧ lineL (parseO ws) = s.data.toList then (parseO ws, 0) else (⟨0, 0, 0, 0⟩, 2) := by
          unfold parseP
          rw [if_neg hlen, ← HWS.out]
        obtain ⟨o, ho⟩ : ∃ o, o = parseO ws := ⟨_, rfl⟩
        rw [← ho] at hb4 HWFO hPP
        have HLN := Lib.hid (line_any o W4 HWFO.out hT4.tabs hT4.tab)
        have HRF4 := Lib.hid hRF
        have HKF4 := Lib.hid hK4
        have HB4 := Lib.hid hb4
        have x0 : W4.cell? ⟨G + 1 + 1, 0, none⟩ = some (.int .i64 o.k) := hb4.cell 0 rfl
        have x1 : W4.cell? ⟨G + 1 + 1, 1, none⟩ = some (.int .i64 o.a) := hb4.cell 1 rfl
        have x2 : W4.cell? ⟨G + 1 + 1, 2, none⟩ = some (.int .i64 o.b) := hb4.cell 2 rfl
        have x3 : W4.cell? ⟨G + 1 + 1, 3, none⟩ = some (.int .i64 o.c) := hb4.cell 3 rfl
        clear hI4 hk4 hRF hK4 hT4 hcells hb4 hlen ho hT2 hT3 hsz HEACH
        go_wp2_with fail
        refine HLN.out.mono ?_
        rintro e W5 ⟨rfl, hk5⟩
        have HRF := Lib.hid (hk5.blk HRF4.out (fun f => f))
        have HKF := Lib.hid (HKF4.out.trans hk5)
        have HB5 := Lib.hid (hk5.blk HB4.out (fun f => f))
        have z0 := HRF.out.free 0; have z1 := HRF.out.free 1; have z2 := HRF.out.free 2; have z3 := HRF.out.free 3
        have y0 := HRF.out.cell 0 rfl; have y1 := HRF.out.cell 1 rfl; have y2 := HRF.out.cell 2 rfl; have y3 := HRF.out.cell 3 rfl
        clear hk5 x0 x1 x2 x3 HLN HRF4 HKF4 HB4
        cases hik : isKind o.k with
        | false =>
          have HPP : Hid (parseP s = (⟨0, 0, 0, 0⟩, 2)) := by rw [Hid, hPP, if_neg (by rw [hik]; simp)]
          simp only [Bool.false_eq_true, if_false]
          clear hPP hik
          go_wp2_with fail
          have hR2 := ((((HRF.out.set 0 (.int .i64 0)).set 1 (.int .i64 0)).set 2 (.int .i64 0)).set 3 (.int .i64 0))
          have hk2 := (((HKF.out.putNew (B := w.heap.size) (Nat.le_refl _) 0 (.int .i64 0)).putNew (B := w.heap.size) (Nat.le_refl _) 1 (.int .i64 0)).putNew (B := w.heap.size) (Nat.le_refl _) 2 (.int .i64 0)).putNew (B := w.heap.size) (Nat.le_refl _) 3 (.int .i64 0)
          have k0 := hR2.cell 0 rfl; have k1 := hR2.cell 1 rfl; have k2 := hR2.cell 2 rfl; have k3 := hR2.cell 3 rfl
          refine bodyPost_ret (v := .tuple #[.agg #[.int .i64 0, .int .i64 0, .int .i64 0, .int .i64 0], .int .i64 2]) (by simp [results, Tryd.f33, go_sem, k0, k1, k2, k3]) rfl ⟨?_, hk2⟩
          rw [HPP.out]; rfl
        | true =>
          simp only [if_true]
          obtain ⟨L, hL⟩ : ∃ L, L = lineL o := ⟨_, rfl⟩
          rw [← hL] at hPP ⊢
          clear hL
          by_cases hq : L = s.data.toList
          · have HPP : Hid (parseP s = (o, 0)) := by rw [Hid, hPP, if_pos ⟨hik, hq⟩]
            have hss : (⟨L.toArray⟩ : ByteArray) = s := ByteArray.ext (by rw [hq])
            rw [hss]
            have x0 : W5.cell? ⟨G + 1 + 1, 0, none⟩ = some (.int .i64 o.k) := HB5.out.cell 0 rfl
            have x1 : W5.cell? ⟨G + 1 + 1, 1, none⟩ = some (.int .i64 o.a) := HB5.out.cell 1 rfl
            have x2 : W5.cell? ⟨G + 1 + 1, 2, none⟩ = some (.int .i64 o.b) := HB5.out.cell 2 rfl
            have x3 : W5.cell? ⟨G + 1 + 1, 3, none⟩ = some (.int .i64 o.c) := HB5.out.cell 3 rfl
            clear hPP hik hq hss
            go_wp2_with fail
            have hR2 := ((((HRF.out.set 0 (.int .i64 o.k)).set 1 (.int .i64 o.a)).set 2 (.int .i64 o.b)).set 3 (.int .i64 o.c))
            have hk2 := (((HKF.out.putNew (B := w.heap.size) (Nat.le_refl _) 0 (.int .i64 o.k)).putNew (B := w.heap.size) (Nat.le_refl _) 1 (.int .i64 o.a)).putNew (B := w.heap.size) (Nat.le_refl _) 2 (.int .i64 o.b)).putNew (B := w.heap.size) (Nat.le_refl _) 3 (.int .i64 o.c)
            have k0 := hR2.cell 0 rfl; have k1 := hR2.cell 1 rfl; have k2 := hR2.cell 2 rfl; have k3 := hR2.cell 3 rfl
            refine bodyPost_ret (v := .tuple #[.agg #[.int .i64 o.k, .int .i64 o.a, .int .i64 o.b, .int .i64 o.c], .int .i64 0]) (by simp [results, Tryd.f33, go_sem, k0, k1, k2, k3]) rfl ⟨?_, hk2⟩
            rw [HPP.out]; rfl
          · have HPP : Hid (parseP s = (⟨0, 0, 0, 0⟩, 2)) := by rw [Hid, hPP, if_neg (fun h => hq h.2)]
            have hss : ((⟨L.toArray⟩ : ByteArray).toList == s.toList) = false := beq_eq_false_iff_ne.2 (fun e => hq (by rw [← bytes_eq e]))
            generalize (⟨L.toArray⟩ : ByteArray) = sl at *
            clear hPP hik hq
            go_wp2_with fail
            have hR2 := ((((HRF.out.set 0 (.int .i64 0)).set 1 (.int .i64 0)).set 2 (.int .i64 0)).set 3 (.int .i64 0))
            have hk2 := (((HKF.out.putNew (B := w.heap.size) (Nat.le_refl _) 0 (.int .i64 0)).putNew (B := w.heap.size) (Nat.le_refl _) 1 (.int .i64 0)).putNew (B := w.heap.size) (Nat.le_refl _) 2 (.int .i64 0)).putNew (B := w.heap.size) (Nat.le_refl _) 3 (.int .i64 0)
            have k0 := hR2.cell 0 rfl; have k1 := hR2.cell 1 rfl; have k2 := hR2.cell 2 rfl; have k3 := hR2.cell 3 rfl
            refine bodyPost_ret (v := .tuple #[.agg #[.int .i64 0, .int .i64 0, .int .i64 0, .int .i64 0], .int .i64 2]) (by simp [results, Tryd.f33, go_sem, k0, k1, k2, k3]) rfl ⟨?_, hk2⟩
            rw [HPP.out]; rfl
      · have hun1 : ((N : Int) == (u : Int)) = false := by simp; omega
        have hPP : Hid (parseP s = (⟨0, 0, 0, 0⟩, 2)) := by
          unfold Hid parseP
          rw [if_pos]
          rw [← HWS.out, ← HWH.out, ← HKE.out, ← HUE.out, HWL.out]
          omega
        have HPP := hPP
        have hsz := HSZ.out
        have HRF : Hid (Blk wr w.heap.size [.int .i64 0, .int .i64 0, .int .i64 0, .int .i64 0] 35) := HI.out.keep.blk HR3.out (by unfold only; omega)
        have HKF : Hid (Keep none_ w wr) := HK3.out.trans' HI.out.keep (fun i hi h => by unfold only at h; omega)
        have z0 := HRF.out.free 0; have z1 := HRF.out.free 1; have z2 := HRF.out.free 2; have z3 := HRF.out.free 3
        have y0 := HRF.out.cell 0 rfl; have y1 := HRF.out.cell 1 rfl; have y2 := HRF.out.cell 2 rfl; have y3 := HRF.out.cell 3 rfl
        go_wp2_with fail
        go_quiet (first | (go_at_call 39; exact Calls.quiet_of_same (HU.out _ (HTW.out _))))
        go_wp2_with fail
        have HRF' : Blk (wr.drewN nq) w.heap.size [.int .i64 0, .int .i64 0, .int .i64 0, .int .i64 0] 35 := HRF.out
        have HKF' : Keep none_ w (wr.drewN nq) := HKF.out.drewN _
        have hR2 := ((((HRF'.set 0 (.int .i64 0)).set 1 (.int .i64 0)).set 2 (.int .i64 0)).set 3 (.int .i64 0))
        have hk2 := (((HKF'.putNew (B := w.heap.size) (Nat.le_refl _) 0 (.int .i64 0)).putNew (B := w.heap.size) (Nat.le_refl _) 1 (.int .i64 0)).putNew (B := w.heap.size) (Nat.le_refl _) 2 (.int .i64 0)).putNew (B := w.heap.size) (Nat.le_refl _) 3 (.int .i64 0)
        have k0 := hR2.cell 0 rfl; have k1 := hR2.cell 1 rfl; have k2 := hR2.cell 2 rfl; have k3 := hR2.cell 3 rfl
        refine bodyPost_ret (v := .tuple #[.agg #[.int .i64 0, .int .i64 0, .int .i64 0, .int .i64 0], .int .i64 2]) (by simp [results, Tryd.f33, go_sem, k0, k1, k2, k3]) rfl ⟨?_, hk2⟩
        rw [HPP.out]; rfl
end Go.Proofs.YtdplakfmdkjfdaaDoor
