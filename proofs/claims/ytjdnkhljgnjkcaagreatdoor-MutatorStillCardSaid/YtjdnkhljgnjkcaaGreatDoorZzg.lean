/- Parts of a walk, put together by a small program of mine from texts of their own: Arena Lists Lists2 Lists3. -/
import Derived.Test.YtjdnkhljgnjkcaaGreatDoorZze
import Derived.Test.YtjdnkhljgnjkcaaGreatDoorZzfs
/- A row of words: New, Len, Load, Store. -/
namespace Go.Proofs.YtjdnkhljgnjkcaaGreatDoor
open Go.RowKit

/-- A row of words in memory. -/
structure ArenaAt (w : World) (R X : Nat) (A : List Nat) : Prop where
  blk : ∃ ld st : Int, Blk w R [.slice (some ⟨X, 0, none⟩) A.length A.length, .int .i64 ld, .int .i64 st] 181
  wds : Blk w X (wordsV A) 139
  lt : ∀ x ∈ A, x < 18446744073709551616
  len : A.length ≤ 1048576
section
variable {w w' : World} {R X : Nat} {A : List Nat}
theorem ArenaAt.keep {S : Nat → Prop} (h : ArenaAt w R X A) (k : Keep S w w') (hR : ¬ S R) (hX : ¬ S X) : ArenaAt w' R X A := by
  obtain ⟨ld, st, h1⟩ := h.blk
  exact ⟨⟨ld, st, k.blk h1 hR⟩, k.blk h.wds hX, h.lt, h.len⟩
theorem ArenaAt.still (h : ArenaAt w R X A) (k : Keep none_ w w') : ArenaAt w' R X A := h.keep k (fun f => f) (fun f => f)
theorem ArenaAt.ne (h : ArenaAt w R X A) : R ≠ X := fun e => by
  obtain ⟨ld, st, h1⟩ := h.blk
  rw [e] at h1
  exact absurd (h1.uniq h.wds).2 (by decide)
theorem wordsV_at {A : List Nat} {p : Nat} (hp : p < A.length) : (wordsV A)[p]? = some (.int .u64 (A.getD p 0 : Nat)) := by
  unfold wordsV
  rw [List.getElem?_map, List.getElem?_eq_getElem hp, List.getD_eq_getElem?_getD, List.getElem?_eq_getElem hp]; rfl
theorem wordsV_set (A : List Nat) (p x : Nat) : wordsV (A.set p x) = (wordsV A).set p (.int .u64 (x : Int)) := by
  unfold wordsV
  rw [List.map_set]

set_option maxRecDepth 4000 in
set_option maxHeartbeats 1000000 in
theorem aLen_any (h : ArenaAt w R X A) : Calls Tryz.prog 112 #[.pointer (some ⟨R, 0, none⟩)] w fun e w' => e = .returned (.int .i64 (A.length : Int)) ∧ w = w' := by
  obtain ⟨ld, st, h1⟩ := h.blk
  have y0 := h1.cell 0 rfl
  clear h h1
  go_enter Tryz.func112, Tryz.ntmps112
  go_wp2_with fail
  go_ret
  exact ⟨rfl, rfl⟩
set_option maxRecDepth 4000 in
set_option maxHeartbeats 1000000 in
theorem aNew_any (n : Nat) (h1 : 1 ≤ n) (hn : n ≤ 1048576) (w : World) : Calls Tryz.prog 88 #[.int .i64 (n : Int)] w fun e w' => ∃ R X, e = .returned (.tuple #[.pointer (some ⟨R, 0, none⟩), .int .i64 0]) ∧ ArenaAt w' R X (List.replicate n 0) ∧ w.heap.size ≤ R ∧ w.heap.size ≤ X ∧ Keep none_ w w' := by
  have hmk : ∀ w : World, (Instr.makeSlice 175 (.int .i64 (n : Int)) (.int .i64 (n : Int))).run Tryz.prog w = .ok (.slice (some ⟨w.heap.size, 0, none⟩) n n) (w.alloc (.cells (zeros (.int .u64 0) n).toArray 139)) :=
    fun w => run_mk (P := Tryz.prog) (by kernel_rfl) Tryz.infoU rfl (by decide) n (by omega) _ rfl w
  go_enter Tryz.func88, Tryz.ntmps88
  go_wp2_with fail
  obtain ⟨W1, hW1⟩ : ∃ W', W' = (w.alloc (.cells (zeros (.int .u64 0) n).toArray 139)).alloc (.cells #[.slice (some ⟨w.heap.size, 0, none⟩) n n, .int .i64 0, .int .i64 0] 181) := ⟨_, rfl⟩
  rw [← hW1]
  go_ret2
  have hz : zeros (.int .u64 0) n = wordsV (List.replicate n 0) := by simp [zeros, wordsV]
  refine ⟨w.heap.size + 1, w.heap.size, rfl, ⟨⟨0, 0, ?_⟩, ?_, fun x hx => by rw [List.eq_of_mem_replicate hx]; decide, by simpa using hn⟩, by omega, Nat.le_refl _, ?_⟩
  · rw [hW1]
    have h := Blk.new (w.alloc (.cells (zeros (.int .u64 0) n).toArray 139)) [.slice (some ⟨w.heap.size, 0, none⟩) n n, .int .i64 0, .int .i64 0] 181
    rw [World.size_alloc] at h
    simpa using h
  · rw [hW1, hz]
    exact (Blk.new w _ _).alloc _
  · rw [hW1]
    exact ((Keep.refl _ _).alloc _).alloc _
set_option maxRecDepth 4000 in
set_option maxHeartbeats 1000000 in
theorem aLoad1_any (p O Q : Nat) (x ld : Int) (v : Value) (hx : w.cell? ⟨X, p, none⟩ = some (.int .u64 x)) (hO : w.cell? ⟨O, 0, none⟩ = some v) (fO : w.frozen? ⟨O, 0, none⟩ = false) (hQ : w.cell? ⟨Q, 0, none⟩ = some (.pointer (some ⟨R, 0, none⟩))) (hR : w.cell? ⟨R, 1, none⟩ = some (.int .i64 ld)) (fR : w.frozen? ⟨R, 1, none⟩ = false) (hQO : Q ≠ O) (hRO : R ≠ O) :
    Calls Tryz.prog 120 #[.pointer (some ⟨X, p, none⟩), .pointer (some ⟨O, 0, none⟩), .pointer (some ⟨Q, 0, none⟩)] w fun e w' => e = .returned (.tuple #[]) ∧ ∃ ld' : Int, w' = (w.setCell ⟨O, 0, none⟩ (.int .u64 x)).setCell ⟨R, 1, none⟩ (.int .i64 ld') := by
  have hk : Keep (only O) w (w.setCell ⟨O, 0, none⟩ (.int .u64 x)) := (Keep.refl _ _).put 0 _
  have hQ1 := hk.cellv hQ hQO
  have hR1 := hk.cellv hR hRO
  have fR1 : (w.setCell ⟨O, 0, none⟩ (.int .u64 x)).frozen? ⟨R, 1, none⟩ = false := by rw [hk.frozen (World.block_lt_of_cell? _ _ hR) hRO]; exact fR
  clear hk hQ hR fR hQO hRO
  go_enter Tryz.func120, Tryz.ntmps120
  go_wp2_with fail
  go_end0
  exact ⟨rfl, _, rfl⟩
set_option maxRecDepth 4000 in
set_option maxHeartbeats 1000000 in
theorem aStore1_any (p O Q : Nat) (x st : Int) (v : Value) (hv : w.cell? ⟨X, p, none⟩ = some v) (fv : w.frozen? ⟨X, p, none⟩ = false) (hO : w.cell? ⟨O, 0, none⟩ = some (.int .u64 x)) (hQ : w.cell? ⟨Q, 0, none⟩ = some (.pointer (some ⟨R, 0, none⟩))) (hR : w.cell? ⟨R, 2, none⟩ = some (.int .i64 st)) (fR : w.frozen? ⟨R, 2, none⟩ = false) (hQX : Q ≠ X) (hRX : R ≠ X) :
    Calls Tryz.prog 154 #[.pointer (some ⟨X, p, none⟩), .pointer (some ⟨O, 0, none⟩), .pointer (some ⟨Q, 0, none⟩)] w fun e w' => e = .returned (.tuple #[]) ∧ ∃ st' : Int, w' = (w.setCell ⟨X, p, none⟩ (.int .u64 x)).setCell ⟨R, 2, none⟩ (.int .i64 st') := by
  have hk : Keep (only X) w (w.setCell ⟨X, p, none⟩ (.int .u64 x)) := (Keep.refl _ _).put p _
  have hQ1 := hk.cellv hQ hQX
  have hR1 := hk.cellv hR hRX
  have fR1 : (w.setCell ⟨X, p, none⟩ (.int .u64 x)).frozen? ⟨R, 2, none⟩ = false := by rw [hk.frozen (World.block_lt_of_cell? _ _ hR) hRX]; exact fR
  clear hk hQ hR fR hQX hRX
  go_enter Tryz.func154, Tryz.ntmps154
  go_wp2_with fail
  go_end0
  exact ⟨rfl, _, rfl⟩
/-- What 'at' does with a word that is there: what its function does. -/
theorem pidx (p : Nat) (hp : p ≤ 1048576) : IntKind.i64.wrap ((p : Int) + 1 - 1) = (p : Int) := by
  rw [show (p : Int) + 1 - 1 = (p : Int) by omega]; exact IntWalk.i64_in _ (by omega)
set_option maxRecDepth 4000 in
set_option maxHeartbeats 1000000 in
theorem aAt_load (h : ArenaAt w R X A) (p : Nat) (hp : p < A.length) (O Q : Nat) (Post : World → Prop) (hc : Calls Tryz.prog 120 #[.pointer (some ⟨X, p, none⟩), .pointer (some ⟨O, 0, none⟩), .pointer (some ⟨Q, 0, none⟩)] w fun e w' => e = .returned (.tuple #[]) ∧ Post w') :
    Calls Tryz.prog 119 #[.pointer (some ⟨R, 0, none⟩), .int .i64 ((p : Int) + 1), .func (.func 120) #[] #[.pointer (some ⟨O, 0, none⟩), .pointer (some ⟨Q, 0, none⟩)]] w fun e w' => e = .returned (.int .i64 0) ∧ Post w' := by
  obtain ⟨ld, st, h1⟩ := h.blk
  have y0 := h1.cell 0 rfl
  have hl := h.len
  obtain ⟨L, hL⟩ : ∃ L, L = A.length := ⟨_, rfl⟩
  rw [← hL] at y0 hl hp
  have HC := Lib.hid hc
  have hpI : (p : Int) < (L : Int) := by omega
  have hp0 : (0 : Int) ≤ (p : Int) := by omega
  have hz : ((p : Int) + 1 == 0) = false := by simp; omega
  clear h h1 hL hc
  go_enter Tryz.func119, Tryz.ntmps119
  go_wp2_with (go_at_call 120; refine HC.out.mono ?_; rintro e w1 ⟨rfl, hpost⟩; have HP := Lib.hid hpost; clear hpost)
  go_ret
  exact ⟨rfl, HP.out⟩
set_option maxRecDepth 4000 in
set_option maxHeartbeats 1000000 in
theorem aAt_store (h : ArenaAt w R X A) (p : Nat) (hp : p < A.length) (O Q : Nat) (Post : World → Prop) (hc : Calls Tryz.prog 154 #[.pointer (some ⟨X, p, none⟩), .pointer (some ⟨O, 0, none⟩), .pointer (some ⟨Q, 0, none⟩)] w fun e w' => e = .returned (.tuple #[]) ∧ Post w') :
    Calls Tryz.prog 119 #[.pointer (some ⟨R, 0, none⟩), .int .i64 ((p : Int) + 1), .func (.func 154) #[] #[.pointer (some ⟨O, 0, none⟩), .pointer (some ⟨Q, 0, none⟩)]] w fun e w' => e = .returned (.int .i64 0) ∧ Post w' := by
  obtain ⟨ld, st, h1⟩ := h.blk
  have y0 := h1.cell 0 rfl
  have hl := h.len
  obtain ⟨L, hL⟩ : ∃ L, L = A.length := ⟨_, rfl⟩
  rw [← hL] at y0 hl hp
  have HC := Lib.hid hc
  have hpI : (p : Int) < (L : Int) := by omega
  have hp0 : (0 : Int) ≤ (p : Int) := by omega
  have hz : ((p : Int) + 1 == 0) = false := by simp; omega
  clear h h1 hL hc
  go_enter Tryz.func119, Tryz.ntmps119
  go_wp2_with (go_at_call 154; refine HC.out.mono ?_; rintro e w1 ⟨rfl, hpost⟩; have HP := Lib.hid hpost; clear hpost)
  go_ret
  exact ⟨rfl, HP.out⟩
/-- Of a word that isn't there. -/
def atE (a : Int) : Int := if a = 0 then 6 else 4
set_option maxRecDepth 4000 in
set_option maxHeartbeats 1000000 in
theorem aAt_out (h : ArenaAt w R X A) (a : Int) (ha : a < 1 ∨ (A.length : Int) < a) (f : Value) : Calls Tryz.prog 119 #[.pointer (some ⟨R, 0, none⟩), .int .i64 a, f] w fun e w' => e = .returned (.int .i64 (atE a)) ∧ w = w' := by
  obtain ⟨ld, st, h1⟩ := h.blk
  have y0 := h1.cell 0 rfl
  by_cases h0 : a = 0
  · subst h0
    clear h h1 ha
    go_enter Tryz.func119, Tryz.ntmps119
    go_wp2_with fail
    go_ret
    exact ⟨rfl, rfl⟩
  · have HE : Hid (atE a = 4) := by rw [Hid, atE, if_neg h0]
    have hz : (a == 0) = false := by simpa using h0
    rw [HE.out]
    by_cases h2 : a < 0
    · have d2 : decide (a < 0) = true := decide_eq_true h2
      clear h h1 ha h0 h2 HE
      go_enter Tryz.func119, Tryz.ntmps119
      go_wp2_with fail
      go_ret
      exact ⟨rfl, rfl⟩
    · have d2 : decide (a < 0) = false := decide_eq_false h2
      have d3 : decide ((A.length : Int) < a) = true := decide_eq_true (ha.resolve_left (by omega))
      clear h h1 ha h0 h2 HE
      go_enter Tryz.func119, Tryz.ntmps119
      go_wp2_with fail
      go_ret
      exact ⟨rfl, rfl⟩
set_option maxRecDepth 4000 in
set_option maxHeartbeats 1000000 in
theorem aLoad_in (h : ArenaAt w R X A) (p : Nat) (hp : p < A.length) : Calls Tryz.prog 83 #[.pointer (some ⟨R, 0, none⟩), .int .i64 ((p : Int) + 1)] w fun e w' => e = .returned (.tuple #[.int .u64 (A.getD p 0 : Nat), .int .i64 0]) ∧ ArenaAt w' R X A ∧ Keep (only R) w w' := by
  obtain ⟨W1, hW1⟩ : ∃ W', W' = (w.alloc (.cells #[.pointer (some ⟨R, 0, none⟩)] 114)).alloc (.cells #[.int .u64 0] 139) := ⟨_, rfl⟩
  have hk1 : Keep none_ w W1 := by rw [hW1]; exact ((Keep.refl _ _).alloc _).alloc _
  have hq : Blk W1 w.heap.size [.pointer (some ⟨R, 0, none⟩)] 114 := by rw [hW1]; exact (Blk.new w _ _).alloc _
  have ho : Blk W1 (w.heap.size + 1) [.int .u64 0] 139 := by
    rw [hW1]
    have h := Blk.new (w.alloc (.cells #[.pointer (some ⟨R, 0, none⟩)] 114)) [.int .u64 0] 139
    rw [World.size_alloc] at h
    exact h
  have hA := h.still hk1
  obtain ⟨ld, st, hR⟩ := hA.blk
  have hRl : R < w.heap.size := by obtain ⟨_, _, h⟩ := h.blk; exact h.lt
  have hXl : X < w.heap.size := h.wds.lt
  have hc := aLoad1_any (w := W1) (R := R) (X := X) p (w.heap.size + 1) w.heap.size _ ld _ (hA.wds.cell p (wordsV_at hp)) (ho.cell 0 rfl) (ho.free 0) (hq.cell 0 rfl) (hR.cell 1 rfl) (hR.free 1) (by omega) (by omega)
  have HAT := Lib.hid (aAt_load hA p hp (w.heap.size + 1) w.heap.size _ hc)
  generalize hx : A.getD p 0 = x at *
  clear hc
  go_enter Tryz.func83, Tryz.ntmps83
  go_wp2_with fail
  rw [← hW1]
  refine HAT.out.mono ?_
  rintro e w2 ⟨rfl, ld', hw2⟩
  have hkO : Keep (only (w.heap.size + 1)) W1 (W1.setCell ⟨w.heap.size + 1, 0, none⟩ (.int .u64 (x : Int))) := (Keep.refl _ _).put 0 _
  have hkR : Keep (only R) (W1.setCell ⟨w.heap.size + 1, 0, none⟩ (.int .u64 (x : Int))) w2 := by rw [hw2]; exact (Keep.refl _ _).put 1 _
  have hout : w2.cell? ⟨w.heap.size + 1, 0, none⟩ = some (.int .u64 (x : Int)) := hkR.cellv ((ho.set 0 _).cell 0 rfl) (show ¬ (w.heap.size + 1 = R) by omega)
  have hR2 : Blk w2 R [.slice (some ⟨X, 0, none⟩) A.length A.length, .int .i64 ld', .int .i64 st] 181 := by
    rw [hw2]; exact (hkO.blk hR (by unfold only; omega)).set 1 _
  have hX2 : Blk w2 X (wordsV A) 139 := hkR.blk (hkO.blk hA.wds (by unfold only; omega)) (fun e => hA.ne e.symm)
  have hk12 : Keep (fun i => i = w.heap.size + 1 ∨ i = R) W1 w2 := (hkO.mono (fun i _ e => Or.inl e)).trans (hkR.mono (fun i _ e => Or.inr e))
  have HFIN : Hid (ArenaAt w2 R X A ∧ Keep (only R) w w2) := ⟨⟨⟨ld', st, hR2⟩, hX2, hA.lt, hA.len⟩,
    (Keep.mono (T := only R) hk1 (fun _ _ f => f.elim)).trans' hk12 (fun i hi e => by rcases e with e | e; (omega); exact e)⟩
  clear hkO hkR hk12 hR2 hX2 hw2 hA hR ho hq hk1 hW1 HAT
  go_wp2_with fail
  go_ret2
  exact ⟨rfl, HFIN.out⟩
set_option maxRecDepth 4000 in
set_option maxHeartbeats 1000000 in
theorem aLoad_out (h : ArenaAt w R X A) (a : Int) (ha : a < 1 ∨ (A.length : Int) < a) : Calls Tryz.prog 83 #[.pointer (some ⟨R, 0, none⟩), .int .i64 a] w fun e w' => e = .returned (.tuple #[.int .u64 0, .int .i64 (atE a)]) ∧ Keep none_ w w' := by
  obtain ⟨W1, hW1⟩ : ∃ W', W' = (w.alloc (.cells #[.pointer (some ⟨R, 0, none⟩)] 114)).alloc (.cells #[.int .u64 0] 139) := ⟨_, rfl⟩
  have hk1 : Keep none_ w W1 := by rw [hW1]; exact ((Keep.refl _ _).alloc _).alloc _
  have ho : Blk W1 (w.heap.size + 1) [.int .u64 0] 139 := by
    rw [hW1]
    have h := Blk.new (w.alloc (.cells #[.pointer (some ⟨R, 0, none⟩)] 114)) [.int .u64 0] 139
    rw [World.size_alloc] at h
    exact h
  have HAT := Lib.hid (fun f => aAt_out (h.still hk1) a ha f)
  have hout := ho.cell 0 rfl
  have HK1 := Lib.hid hk1
  generalize atE a = ae at *
  clear ho hk1 ha h
  go_enter Tryz.func83, Tryz.ntmps83
  go_wp2_with fail
  rw [← hW1]
  clear hW1
  refine (HAT.out _).mono ?_
  rintro e w2 ⟨rfl, rfl⟩
  go_wp2_with fail
  go_ret2
  exact ⟨rfl, HK1.out⟩
set_option maxRecDepth 4000 in
set_option maxHeartbeats 1000000 in
theorem aStore_in (h : ArenaAt w R X A) (p : Nat) (hp : p < A.length) (x : Nat) (hx : x < 18446744073709551616) : Calls Tryz.prog 108 #[.pointer (some ⟨R, 0, none⟩), .int .i64 ((p : Int) + 1), .int .u64 (x : Int)] w fun e w' => e = .returned (.int .i64 0) ∧ ArenaAt w' R X (A.set p x) ∧ Keep (fun i => i = R ∨ i = X) w w' := by
  obtain ⟨W1, hW1⟩ : ∃ W', W' = (w.alloc (.cells #[.pointer (some ⟨R, 0, none⟩)] 114)).alloc (.cells #[.int .u64 (x : Int)] 139) := ⟨_, rfl⟩
  have hk1 : Keep none_ w W1 := by rw [hW1]; exact ((Keep.refl _ _).alloc _).alloc _
  have hq : Blk W1 w.heap.size [.pointer (some ⟨R, 0, none⟩)] 114 := by rw [hW1]; exact (Blk.new w _ _).alloc _
  have ho : Blk W1 (w.heap.size + 1) [.int .u64 (x : Int)] 139 := by
    rw [hW1]
    have h := Blk.new (w.alloc (.cells #[.pointer (some ⟨R, 0, none⟩)] 114)) [.int .u64 (x : Int)] 139
    rw [World.size_alloc] at h
    exact h
  have hA := h.still hk1
  obtain ⟨ld, st, hR⟩ := hA.blk
  have hRl : R < w.heap.size := by obtain ⟨_, _, h⟩ := h.blk; exact h.lt
  have hXl : X < w.heap.size := h.wds.lt
  have hRX := h.ne
  have hc := aStore1_any (w := W1) (R := R) (X := X) p (w.heap.size + 1) w.heap.size (x : Int) st _ (hA.wds.cell p (wordsV_at hp)) (hA.wds.free p) (ho.cell 0 rfl) (hq.cell 0 rfl) (hR.cell 2 rfl) (hR.free 2) (by omega) hRX
  have HAT := Lib.hid (aAt_store hA p hp (w.heap.size + 1) w.heap.size _ hc)
  have HX := Lib.hid hx
  clear hc hx
  go_enter Tryz.func108, Tryz.ntmps108
  go_wp2_with fail
  rw [← hW1]
  refine HAT.out.mono ?_
  rintro e w2 ⟨rfl, st', hw2⟩
  have hkX : Keep (only X) W1 (W1.setCell ⟨X, p, none⟩ (.int .u64 (x : Int))) := (Keep.refl _ _).put p _
  have hkR : Keep (only R) (W1.setCell ⟨X, p, none⟩ (.int .u64 (x : Int))) w2 := by rw [hw2]; exact (Keep.refl _ _).put 2 _
  have hR2 : Blk w2 R [.slice (some ⟨X, 0, none⟩) A.length A.length, .int .i64 ld, .int .i64 st'] 181 := by
    rw [hw2]; exact (hkX.blk hR hRX).set 2 _
  have hX2 : Blk w2 X ((wordsV A).set p (.int .u64 (x : Int))) 139 := hkR.blk (hA.wds.set p _) (fun e => hRX e.symm)
  have hk12 : Keep (fun i => i = R ∨ i = X) W1 w2 := (hkX.mono (fun i _ e => Or.inr e)).trans (hkR.mono (fun i _ e => Or.inl e))
  have HFIN : Hid (ArenaAt w2 R X (A.set p x) ∧ Keep (fun i => i = R ∨ i = X) w w2) := by
    refine ⟨⟨⟨ld, st', by rw [List.length_set]; exact hR2⟩, by rw [wordsV_set]; exact hX2, fun y hy => ?_, by rw [List.length_set]; exact hA.len⟩, (Keep.mono hk1 (fun _ _ f => f.elim)).trans hk12⟩
    rcases List.mem_or_eq_of_mem_set hy with h | rfl
    · exact hA.lt y h
    · exact HX.out
  clear hkX hkR hk12 hR2 hX2 hw2 hA hR ho hq hk1 hW1 HAT
  go_wp2_with fail
  go_ret
  exact ⟨rfl, HFIN.out⟩
end
end Go.Proofs.YtjdnkhljgnjkcaaGreatDoor

/- The free slots of each class: Has, next, Put, Take, New. -/
namespace Go.Proofs.YtjdnkhljgnjkcaaGreatDoor
open Go.RowKit
attribute [local go_sem] Oper.semAt_some

theorem len4 {α : Type} {F : List α} (h : F.length = 4) : ∃ a b c d, F = [a, b, c, d] := by
  match F, h with
  | [a, b, c, d], _ => exact ⟨a, b, c, d, rfl⟩
/-- Lists in memory. -/
structure ListsAt (w : World) (L iR iX aR tR sz : Nat) (In F : List Nat) : Prop where
  blk : ∃ M : List Int, M.length = 4 ∧ Blk w L (([.pointer (some ⟨aR, 0, none⟩), .pointer (some ⟨tR, 0, none⟩), .pointer (some ⟨iR, 0, none⟩)] ++ tabV F) ++ M.map (Value.int .i64)) 186
  set : SetAt w iR iX sz In
  flen : F.length = 4
  fle : ∀ x ∈ F, x ≤ 1048576
theorem lists_put {P F : List Value} {M : List Int} (hP : P.length = 3) (k : Nat) (hk : k < F.length) (v : Value) : ((P ++ F) ++ M.map (Value.int .i64)).set (3 + k) v = (P ++ F.set k v) ++ M.map (Value.int .i64) := by
  rw [List.set_append_left _ _ (by simp; omega), List.set_append_right _ _ (by omega), hP, Nat.add_sub_cancel_left]
theorem lists_many {P F : List Value} {M : List Int} (hP : P.length = 3) (hF : F.length = 4) (k : Nat) (x : Int) : ((P ++ F) ++ M.map (Value.int .i64)).set (7 + k) (.int .i64 x) = (P ++ F) ++ (M.set k x).map (Value.int .i64) := by
  rw [List.set_append_right _ _ (by simp; omega), List.map_set]
  congr 1
  simp [hP, hF]
section
variable {w w' : World} {L iR iX aR tR sz : Nat} {In F : List Nat}
theorem ListsAt.keep {S : Nat → Prop} (h : ListsAt w L iR iX aR tR sz In F) (k : Keep S w w') (hL : ¬ S L) (hR : ¬ S iR) (hX : ¬ S iX) : ListsAt w' L iR iX aR tR sz In F := by
  obtain ⟨M, hM, hb⟩ := h.blk
  exact ⟨⟨M, hM, k.blk hb hL⟩, h.set.keep k hR hX, h.flen, h.fle⟩
theorem ListsAt.still (h : ListsAt w L iR iX aR tR sz In F) (k : Keep none_ w w') : ListsAt w' L iR iX aR tR sz In F := h.keep k (fun f => f) (fun f => f) (fun f => f)
theorem ListsAt.ptrs (h : ListsAt w L iR iX aR tR sz In F) : w.cell? ⟨L, 0, none⟩ = some (.pointer (some ⟨aR, 0, none⟩)) ∧ w.cell? ⟨L, 1, none⟩ = some (.pointer (some ⟨tR, 0, none⟩)) ∧ w.cell? ⟨L, 2, none⟩ = some (.pointer (some ⟨iR, 0, none⟩)) := by
  obtain ⟨M, hM, hb⟩ := h.blk
  exact ⟨hb.cell 0 rfl, hb.cell 1 rfl, hb.cell 2 rfl⟩
theorem ListsAt.first (h : ListsAt w L iR iX aR tR sz In F) {k : Nat} (hk : k < 4) : w.cell? ⟨L, 3 + k, none⟩ = some (.int .i64 (F.getD k 0 : Nat)) ∧ F.getD k 0 ≤ 1048576 := by
  obtain ⟨M, hM, hb⟩ := h.blk
  have hl := h.flen
  refine ⟨hb.cell (3 + k) ?_, ?_⟩
  · rw [List.getElem?_append_left (by simp [tabV]; omega), List.getElem?_append_right (by simp)]
    simp only [List.length_cons, List.length_nil, Nat.zero_add]
    rw [Nat.add_sub_cancel_left]
    exact tabV_at (by omega)
  · rw [List.getD_eq_getElem?_getD, List.getElem?_eq_getElem (by omega)]
    exact h.fle _ (List.getElem_mem _)
theorem ListsAt.many (h : ListsAt w L iR iX aR tR sz In F) {k : Nat} (hk : k < 4) : ∃ m : Int, w.cell? ⟨L, 7 + k, none⟩ = some (.int .i64 m) := by
  obtain ⟨M, hM, hb⟩ := h.blk
  have hl := h.flen
  refine ⟨M.getD k 0, hb.cell (7 + k) ?_⟩
  rw [List.getElem?_append_right (by simp [tabV]; omega)]
  have e : 7 + k - (([.pointer (some ⟨aR, 0, none⟩), .pointer (some ⟨tR, 0, none⟩), .pointer (some ⟨iR, 0, none⟩)] : List Value) ++ tabV F).length = k := by simp [tabV, hl]
  rw [e, List.getElem?_map, List.getElem?_eq_getElem (by omega), List.getD_eq_getElem?_getD, List.getElem?_eq_getElem (by omega)]; rfl
theorem ListsAt.free (h : ListsAt w L iR iX aR tR sz In F) (j : Nat) : w.frozen? ⟨L, j, none⟩ = false := by
  obtain ⟨M, hM, hb⟩ := h.blk
  exact hb.free j
theorem ListsAt.lt (h : ListsAt w L iR iX aR tR sz In F) : L < w.heap.size := by
  obtain ⟨M, hM, hb⟩ := h.blk
  exact hb.lt
theorem ListsAt.ne (h : ListsAt w L iR iX aR tR sz In F) : L ≠ iR ∧ L ≠ iX := by
  obtain ⟨M, hM, hb⟩ := h.blk
  obtain ⟨cap, h1⟩ := h.set.blk
  obtain ⟨cur, h2, _⟩ := h.set.wds
  refine ⟨fun e => ?_, fun e => ?_⟩
  · rw [e] at hb; exact absurd (hb.uniq h1).2 (by decide)
  · rw [e] at hb; exact absurd (hb.uniq h2).2 (by decide)
/-- One first slot laid anew. -/
theorem ListsAt.setF (h : ListsAt w L iR iX aR tR sz In F) {k x : Nat} (hk : k < 4) (hx : x ≤ 1048576) : ListsAt (w.setCell ⟨L, 3 + k, none⟩ (.int .i64 (x : Int))) L iR iX aR tR sz In (F.set k x) := by
  obtain ⟨M, hM, hb⟩ := h.blk
  have hl := h.flen
  have hkp : Keep (only L) w (w.setCell ⟨L, 3 + k, none⟩ (.int .i64 (x : Int))) := (Keep.refl _ _).put _ _
  have hn := h.ne
  refine ⟨⟨M, hM, ?_⟩, h.set.keep hkp (fun e => hn.1 e.symm) (fun e => hn.2 e.symm), by simpa using hl, fun y hy => ?_⟩
  · have h9 := hb.set (3 + k) (.int .i64 (x : Int))
    rw [lists_put rfl k (by simp [tabV]; omega)] at h9
    rw [tabV_set]
    exact h9
  · rcases List.mem_or_eq_of_mem_set hy with h1 | rfl
    · exact h.fle y h1
    · exact hx
theorem ListsAt.setM (h : ListsAt w L iR iX aR tR sz In F) (k : Nat) (x : Int) : ListsAt (w.setCell ⟨L, 7 + k, none⟩ (.int .i64 x)) L iR iX aR tR sz In F := by
  obtain ⟨M, hM, hb⟩ := h.blk
  have hl := h.flen
  have hkp : Keep (only L) w (w.setCell ⟨L, 7 + k, none⟩ (.int .i64 x)) := (Keep.refl _ _).put _ _
  have hn := h.ne
  refine ⟨⟨M.set k x, by simpa using hM, ?_⟩, h.set.keep hkp (fun e => hn.1 e.symm) (fun e => hn.2 e.symm), hl, h.fle⟩
  have h9 := hb.set (7 + k) (.int .i64 x)
  rw [lists_many rfl (by simp [tabV, hl]) k x] at h9
  exact h9
theorem ListsAt.newSet (h : ListsAt w L iR iX aR tR sz In F) {In' : List Nat} {S : Nat → Prop} (hk : Keep S w w') (hS : ¬ S L) (hs : SetAt w' iR iX sz In') : ListsAt w' L iR iX aR tR sz In' F := by
  obtain ⟨M, hM, hb⟩ := h.blk
  exact ⟨⟨M, hM, hk.blk hb hS⟩, hs, h.flen, h.fle⟩
set_option maxRecDepth 4000 in
set_option maxHeartbeats 1000000 in
theorem lHas_any (h : ListsAt w L iR iX aR tR sz In F) (n : Int) : Calls Tryz.prog 151 #[.pointer (some ⟨L, 0, none⟩), .int .i64 n] w fun e w' => e = .returned (.bool (hasP sz In n)) ∧ w = w' := by
  have y2 := h.ptrs.2.2
  have HH := Lib.hid (bHas_any h.set n)
  generalize hasP sz In n = hb at *
  clear h
  go_enter Tryz.func151, Tryz.ntmps151
  go_wp2_with (go_at_call 79; refine HH.out.mono ?_; rintro e w1 ⟨rfl, rfl⟩)
  go_ret
  exact ⟨rfl, rfl⟩
/-- The slot behind a slot: what its word says. -/
theorem lNext_in {aX : Nat} {A : List Nat} (h : ListsAt w L iR iX aR tR sz In F) (hA : ArenaAt w aR aX A) (p nx : Nat) (hp : p < A.length) (hw : A.getD p 0 = linkW nx) (hn : nx ≤ 1048576) : Calls Tryz.prog 117 #[.pointer (some ⟨L, 0, none⟩), .int .i64 ((p : Int) + 1)] w fun e w' => e = .returned (.int .i64 (nx : Int)) ∧ ArenaAt w' aR aX A ∧ Keep (only aR) w w' := by
  have y0 := h.ptrs.1
  have HL := Lib.hid (aLoad_in hA p hp)
  rw [hw] at HL
  have HN := Lib.hid (fun W => hdNext_link nx hn W)
  generalize linkW nx = lw at *
  clear h hA hw hp
  go_enter Tryz.func117, Tryz.ntmps117
  go_wp2_with (first
    | (go_at_call 83; refine HL.out.mono ?_; rintro e w1 ⟨rfl, hA1, hk1⟩; have HA1 := Lib.hid hA1; have HK1 := Lib.hid hk1; clear hA1 hk1)
    | (go_at_call 156; refine (HN.out _).mono ?_; rintro e w2 ⟨rfl, rfl⟩))
  go_ret
  exact ⟨rfl, HA1.out, HK1.out⟩
end
end Go.Proofs.YtjdnkhljgnjkcaaGreatDoor

/- The free slots of each class: Put. -/
namespace Go.Proofs.YtjdnkhljgnjkcaaGreatDoor
open Go.RowKit
attribute [local go_sem] Oper.semAt_some

def put4 (L iX aR aX : Nat) : Nat → Prop := fun i => i = L ∨ i = iX ∨ i = aR ∨ i = aX
section
variable {w w' : World} {L iR iX aR aX tR sz : Nat} {In F A : List Nat}
set_option maxRecDepth 4000 in
set_option maxHeartbeats 2000000 in
theorem lPut1_any (h : ListsAt w L iR iX aR tR sz In F) (hA : ArenaAt w aR aX A) (hne : iX ≠ aX) (p k b1 b2 : Nat) (hp : p < A.length) (hps : p + 1 < sz) (hin : hasP sz In ((p : Int) + 1) = false) (hk : k < 4) (hb1 : Blk w b1 [.pointer (some ⟨L, 0, none⟩)] 115) (hb2 : Blk w b2 [.int .i64 ((p : Int) + 1)] 3) :
    Calls Tryz.prog 187 #[.int .i64 (k : Int), .pointer (some ⟨b1, 0, none⟩), .pointer (some ⟨b2, 0, none⟩)] w fun e w' => e = .returned (.int .i64 0) ∧ ListsAt w' L iR iX aR tR sz (putL sz In ((p : Int) + 1) true) (F.set k (p + 1)) ∧ ArenaAt w' aR aX (A.set p (linkW (F.getD k 0))) ∧ Keep (put4 L iX aR aX) w w' := by
  obtain ⟨pp, hpp⟩ : ∃ pp : Int, pp = (p : Int) + 1 := ⟨_, rfl⟩
  rw [← hpp] at hb2 hin ⊢
  have hps2 : putP sz In pp true = true := by
    unfold putP
    rw [hin, decide_eq_true (by omega)]; rfl
  obtain ⟨q0, q1, q2⟩ := h.ptrs
  have HBP := Lib.hid (bPut_any (h.set.still (k := (Keep.refl none_ w).drew)) pp true)
  rw [hps2] at HBP
  obtain ⟨qf, hfk⟩ := h.first hk
  have hpl : p < 1048576 := Nat.lt_of_lt_of_le hp hA.len
  -- which blocks are apart
  have hLn := h.ne
  obtain ⟨M0, hM0, hbL⟩ := h.blk
  obtain ⟨cap0, hbi⟩ := h.set.blk
  obtain ⟨cur0, hbx, _⟩ := h.set.wds
  obtain ⟨ld, st, hbr⟩ := hA.blk
  have hbax := hA.wds
  have n1 : b1 ≠ iX := fun e => by rw [e] at hb1; exact absurd (hb1.uniq hbx).2 (by decide)
  have n2 : b2 ≠ iX := fun e => by rw [e] at hb2; exact absurd (hb2.uniq hbx).2 (by decide)
  have n3 : b1 ≠ L := fun e => by rw [e] at hb1; exact absurd (hb1.uniq hbL).2 (by decide)
  have n4 : b2 ≠ L := fun e => by rw [e] at hb2; exact absurd (hb2.uniq hbL).2 (by decide)
  have n5 : aR ≠ iX := fun e => by rw [e] at hbr; exact absurd (hbr.uniq hbx).2 (by decide)
  have n6 : aR ≠ L := fun e => by rw [e] at hbr; exact absurd (hbr.uniq hbL).2 (by decide)
  have n7 : aX ≠ L := fun e => by rw [e] at hbax; exact absurd (hbax.uniq hbL).2 (by decide)
  have n8 : aR ≠ iR := fun e => by rw [e] at hbr; exact absurd (hbr.uniq hbi).2 (by decide)
  have n9 : aX ≠ iR := fun e => by rw [e] at hbax; exact absurd (hbax.uniq hbi).2 (by decide)
  have y1 := hb1.cell 0 rfl
  have y2 := hb2.cell 0 rfl
  have HN : Hid (b1 ≠ iX ∧ b2 ≠ iX ∧ b1 ≠ L ∧ b2 ≠ L ∧ aR ≠ iX ∧ aR ≠ L ∧ aX ≠ L ∧ L ≠ iR ∧ L ≠ iX ∧ aR ≠ iR ∧ aX ≠ iR ∧ iX ≠ aX) := ⟨n1, n2, n3, n4, n5, n6, n7, hLn.1, hLn.2, n8, n9, hne⟩
  have H := Lib.hid h
  have HA := Lib.hid hA
  have HB1 := Lib.hid hb1
  have HB2 := Lib.hid hb2
  have HLK := Lib.hid (fun W => hdLink_any (F.getD k 0) (by omega) W)
  rw [if_pos hfk, decide_eq_true hfk] at HLK
  have HFK : Hid (F.getD k 0 ≤ 1048576) := hfk
  have HPL : Hid (p < 1048576) := hpl
  have HP : Hid (p < A.length) := hp
  have HK4 : Hid (k < 4) := hk
  have hkI : (k : Int) < 4 := by omega
  generalize hf : F.getD k 0 = fk at *
  have HF := Lib.hid hf
  have HLW : Hid (linkW fk < 18446744073709551616) := by have := (linkW_facts hfk).1; unfold Hid; omega
  generalize linkW fk = lw at *
  have HPP := Lib.hid hpp
  clear h hA hb1 hb2 hbL hbi hbx hbr hbax hps hin hk hp hpl n1 n2 n3 n4 n5 n6 n7 n8 n9 hLn hne hps2 hfk hf hpp hM0
  go_enter Tryz.func187, Tryz.ntmps187
  go_wp2_with fail
  refine wp_region_still_mid 5 rfl (by kernel_rfl) (by kernel_rfl) (fun K hK => ?_)
  change wpStill _ _ (World.drew _) _ _ _
  simp only [List.take_succ_cons, List.take_zero, List.drop_succ_cons, List.drop_zero] at hK ⊢
  repeat still_step
  refine wpStill_nil ?_
  change ite _ (Oper.wp _ _ _ w.drew _ _) _
  go_simp
  refine HBP.out.mono ?_
  rintro e w1 ⟨rfl, hs1, hk1⟩
  refine hK _ _ ?_
  clear hK K
  have hk01 : Keep (only iX) w w1 := (Keep.refl _ _).drew.trans hk1
  have HS1 := Lib.hid (H.out.newSet hk01 (HN.out.2.2.2.2.2.2.2.2.1) hs1)
  have HK1 := Lib.hid hk01
  have HA1 := Lib.hid (HA.out.keep hk01 (HN.out.2.2.2.2.1) (fun e => HN.out.2.2.2.2.2.2.2.2.2.2.2 e.symm))
  have HB11 := Lib.hid (hk01.blk HB1.out HN.out.1)
  have HB21 := Lib.hid (hk01.blk HB2.out HN.out.2.1)
  clear hs1 hk1 hk01 y1 y2 q0 q1 q2 qf HBP
  have y1 := HB11.out.cell 0 rfl
  have y2 := HB21.out.cell 0 rfl
  obtain ⟨q0, q1, q2⟩ := HS1.out.ptrs
  have qf := (HS1.out.first HK4.out).1
  rw [HF.out] at qf
  repeat still_step
  refine wpStill_nil ?_
  go_wp2_with (go_at_call 188; refine (HLK.out _).mono ?_; rintro e w2 ⟨rfl, rfl⟩)
  have fF := HS1.out.free (3 + k)
  go_region
  obtain ⟨W2, hW2⟩ : ∃ W', W' = (w1.setCell ⟨L, 3 + k, none⟩ (.int .i64 pp)).drew := ⟨_, rfl⟩
  rw [← hW2]
  have hk12 : Keep (only L) w1 W2 := by rw [hW2]; exact ((Keep.refl _ _).put _ _).drew
  have HS2 : Hid (ListsAt W2 L iR iX aR tR sz (putL sz In pp true) (F.set k (p + 1))) := by
    have h1 := HS1.out.setF HK4.out (x := p + 1) (by have := HPL.out; omega)
    rw [show (((p + 1 : Nat) : Nat) : Int) = pp by have := HPP.out; omega] at h1
    rw [hW2]
    exact h1.still (k := (Keep.refl none_ _).drew)
  have HA2 := Lib.hid (HA1.out.keep hk12 HN.out.2.2.2.2.2.1 HN.out.2.2.2.2.2.2.1)
  have HB12 := Lib.hid (hk12.blk HB11.out HN.out.2.2.1)
  have HB22 := Lib.hid (hk12.blk HB21.out HN.out.2.2.2.1)
  have HK2 : Hid (Keep (put4 L iX aR aX) w W2) := (HK1.out.mono (fun i _ e => Or.inr (Or.inl e))).trans (hk12.mono (fun i _ e => Or.inl e))
  clear hW2 hk12 fF HS1 HA1 HB11 HB21 HK1 y1 y2 q0 q1 q2 qf
  have y1 := HB12.out.cell 0 rfl
  have y2 := HB22.out.cell 0 rfl
  obtain ⟨q0, q1, q2⟩ := HS2.out.ptrs
  obtain ⟨mm, qm⟩ := HS2.out.many HK4.out
  have fM := HS2.out.free (7 + k)
  go_wp2_with fail
  go_region
  obtain ⟨W3, hW3⟩ : ∃ W', W' = (W2.setCell ⟨L, 7 + k, none⟩ (.int .i64 (wrap64 (mm + 1)))).drew := ⟨_, rfl⟩
  rw [← hW3]
  have hk23 : Keep (only L) W2 W3 := by rw [hW3]; exact ((Keep.refl _ _).put _ _).drew
  have HS3 : Hid (ListsAt W3 L iR iX aR tR sz (putL sz In pp true) (F.set k (p + 1))) := by
    rw [hW3]
    exact (HS2.out.setM k _).still (k := (Keep.refl none_ _).drew)
  have HA3 := Lib.hid (HA2.out.keep hk23 HN.out.2.2.2.2.2.1 HN.out.2.2.2.2.2.2.1)
  have HB13 := Lib.hid (hk23.blk HB12.out HN.out.2.2.1)
  have HB23 := Lib.hid (hk23.blk HB22.out HN.out.2.2.2.1)
  have HK3 : Hid (Keep (put4 L iX aR aX) w W3) := HK2.out.trans (hk23.mono (fun i _ e => Or.inl e))
  clear hW3 hk23 fM qm HS2 HA2 HB12 HB22 HK2 y1 y2 q0 q1 q2
  have y1 := HB13.out.cell 0 rfl
  have y2 := HB23.out.cell 0 rfl
  obtain ⟨q0, q1, q2⟩ := HS3.out.ptrs
  have HST := Lib.hid (aStore_in (HA3.out.still (k := (Keep.refl none_ W3).drew)) p HP.out lw HLW.out)
  rw [← HPP.out] at HST
  go_wp2_with fail
  refine wp_region_still_mid 6 rfl (by kernel_rfl) (by kernel_rfl) (fun K hK => ?_)
  change wpStill _ _ (World.drew _) _ _ _
  simp only [List.take_succ_cons, List.take_zero, List.drop_succ_cons, List.drop_zero] at hK ⊢
  repeat still_step
  refine wpStill_nil ?_
  change ite _ (Oper.wp _ _ _ W3.drew _ _) _
  go_simp
  refine HST.out.mono ?_
  rintro e w4 ⟨rfl, ha4, hk4⟩
  refine hK _ _ ?_
  clear hK K y1 y2 q0 q1 q2
  have hk34 := (Keep.refl _ W3).drew.trans hk4
  have HS4 := Lib.hid (HS3.out.keep hk34 (fun e => e.elim (fun e => HN.out.2.2.2.2.2.1 e.symm) (fun e => HN.out.2.2.2.2.2.2.1 e.symm)) (fun e => e.elim (fun e => HN.out.2.2.2.2.2.2.2.2.2.1 e.symm) (fun e => HN.out.2.2.2.2.2.2.2.2.2.2.1 e.symm)) (fun e => e.elim (fun e => HN.out.2.2.2.2.1 e.symm) (fun e => HN.out.2.2.2.2.2.2.2.2.2.2.2 e)))
  have HA4 := Lib.hid ha4
  have HK4' := Lib.hid (HK3.out.trans (hk34.mono (T := put4 L iX aR aX) (fun i _ e => Or.inr (Or.inr e))))
  clear ha4 hk4 hk34
  repeat still_step
  refine wpStill_nil ?_
  go_wp2_with fail
  go_ret
  exact ⟨rfl, HS4.out, HA4.out, HK4'.out⟩
set_option maxRecDepth 4000 in
set_option maxHeartbeats 2000000 in
theorem lPut_any (h : ListsAt w L iR iX aR tR sz In F) (hA : ArenaAt w aR aX A) (hne : iX ≠ aX) (p k : Nat) (B0 : Int) (hp : p < A.length) (hps : p + 1 < sz) (hin : hasP sz In ((p : Int) + 1) = false) (hk : k < 4)
    (hO : ∀ W, Keep none_ w W → Calls Tryz.prog 150 #[.pointer (some ⟨tR, 0, none⟩), .int .i64 ((p : Int) + 1)] W fun e w' => e = .returned (.tuple #[.int .i64 B0, .int .i64 (k : Int), .bool true]) ∧ Keep none_ W w') :
    Calls Tryz.prog 149 #[.pointer (some ⟨L, 0, none⟩), .int .i64 ((p : Int) + 1)] w fun e w' => e = .returned (.int .i64 0) ∧ ListsAt w' L iR iX aR tR sz (putL sz In ((p : Int) + 1) true) (F.set k (p + 1)) ∧ ArenaAt w' aR aX (A.set p (linkW (F.getD k 0))) ∧ Keep (put4 L iX aR aX) w w' := by
  obtain ⟨W0, hW0⟩ : ∃ W', W' = (w.alloc (.cells #[.pointer (some ⟨L, 0, none⟩)] 115)).alloc (.cells #[.int .i64 ((p : Int) + 1)] 3) := ⟨_, rfl⟩
  have hk0 : Keep none_ w W0 := by rw [hW0]; exact ((Keep.refl _ _).alloc _).alloc _
  have hb1 : Blk W0 w.heap.size [.pointer (some ⟨L, 0, none⟩)] 115 := by rw [hW0]; exact (Blk.new w _ _).alloc _
  have hb2 : Blk W0 (w.heap.size + 1) [.int .i64 ((p : Int) + 1)] 3 := by
    rw [hW0]
    have h := Blk.new (w.alloc (.cells #[.pointer (some ⟨L, 0, none⟩)] 115)) [.int .i64 ((p : Int) + 1)] 3
    rw [World.size_alloc] at h
    exact h
  have HSL : Hid (Calls Tryz.prog 186 #[.pointer (some ⟨L, 0, none⟩), .int .i64 ((p : Int) + 1), .func (.func 187) #[] #[.pointer (some ⟨w.heap.size, 0, none⟩), .pointer (some ⟨w.heap.size + 1, 0, none⟩)]] W0 fun e w' => e = .returned (.int .i64 0) ∧ ListsAt w' L iR iX aR tR sz (putL sz In ((p : Int) + 1) true) (F.set k (p + 1)) ∧ ArenaAt w' aR aX (A.set p (linkW (F.getD k 0))) ∧ Keep (put4 L iX aR aX) w w') := by
    have HC : Hid (∀ W, Keep none_ W0 W → Calls Tryz.prog 187 #[.int .i64 (k : Int), .pointer (some ⟨w.heap.size, 0, none⟩), .pointer (some ⟨w.heap.size + 1, 0, none⟩)] W fun e w' => e = .returned (.int .i64 0) ∧ ListsAt w' L iR iX aR tR sz (putL sz In ((p : Int) + 1) true) (F.set k (p + 1)) ∧ ArenaAt w' aR aX (A.set p (linkW (F.getD k 0))) ∧ Keep (put4 L iX aR aX) W w') := fun W hW =>
      lPut1_any ((h.still hk0).still hW) ((hA.still hk0).still hW) hne p k _ _ hp hps hin hk (hW.blk hb1 (fun f => f)) (hW.blk hb2 (fun f => f))
    have HO := Lib.hid (hO W0 hk0)
    obtain ⟨q0, q1, q2⟩ := (h.still hk0).ptrs
    have HK0 := Lib.hid hk0
    generalize putL sz In ((p : Int) + 1) true = In' at *
    generalize F.set k (p + 1) = F' at *
    generalize A.set p (linkW (F.getD k 0)) = A' at *
    generalize ((p : Int) + 1) = pp at *
    clear h hA hne hp hps hin hk hO hW0 hk0 hb1 hb2
    unfold Hid
    go_enter Tryz.func186, Tryz.ntmps186
    go_wp2_with (first
      | (go_at_call 150; refine HO.out.mono ?_; rintro e w1 ⟨rfl, hk1⟩; have HK1 := Lib.hid hk1; clear hk1)
      | (go_at_call 187; refine (HC.out _ HK1.out).mono ?_; rintro e w2 ⟨rfl, h1, h2, h3⟩; have H1 := Lib.hid h1; have H2 := Lib.hid h2; have H3 := Lib.hid h3; clear h1 h2 h3))
    go_ret
    exact ⟨rfl, H1.out, H2.out, (HK0.out.mono (fun _ _ f => f.elim)).trans ((HK1.out.mono (fun _ _ f => f.elim)).trans H3.out)⟩
  have hmf : ∀ (fn : Fn) (first cap : Array Value) (w : World), (Instr.makeFunc fn first cap).run Tryz.prog w = .ok (.func fn first cap) w := fun _ _ _ _ => rfl
  generalize putL sz In ((p : Int) + 1) true = In' at *
  generalize F.set k (p + 1) = F' at *
  generalize A.set p (linkW (F.getD k 0)) = A' at *
  generalize ((p : Int) + 1) = pp at *
  clear h hA hne hp hps hin hk hO hb1 hb2 hk0
  go_enter Tryz.func149, Tryz.ntmps149
  go_wp2_with fail
  rw [← hW0]
  clear hW0
  refine HSL.out.mono ?_
  rintro e w1 ⟨rfl, h1, h2, h3⟩
  have H1 := Lib.hid h1; have H2 := Lib.hid h2; have H3 := Lib.hid h3
  clear h1 h2 h3
  go_wp2_with fail
  go_ret
  exact ⟨rfl, H1.out, H2.out, H3.out⟩
end
end Go.Proofs.YtjdnkhljgnjkcaaGreatDoor

/- The free slots of each class: Take, New. -/
namespace Go.Proofs.YtjdnkhljgnjkcaaGreatDoor
open Go.RowKit
attribute [local go_sem] Oper.semAt_some

section
variable {w w' : World} {L iR iX aR aX tR sz : Nat} {In F A : List Nat}
set_option maxRecDepth 4000 in
set_option maxHeartbeats 1000000 in
theorem lTake_none (h : ListsAt w L iR iX aR tR sz In F) (k : Nat) (hk : k < 4) (hf : F.getD k 0 = 0) : Calls Tryz.prog 146 #[.pointer (some ⟨L, 0, none⟩), .int .i64 (k : Int)] w fun e w' => e = .returned (.tuple #[.int .i64 0, .int .i64 12]) ∧ w = w' := by
  have HI := Lib.hid (clIs_any (k : Int) w)
  rw [decide_eq_true (by omega)] at HI
  have qf := (h.first hk).1
  rw [hf] at qf
  have hkI : (k : Int) < 4 := by omega
  clear h hk hf
  go_enter Tryz.func146, Tryz.ntmps146
  go_wp2_with (go_at_call 152; refine HI.out.mono ?_; rintro e w1 ⟨rfl, rfl⟩)
  go_ret2
  exact ⟨rfl, rfl⟩
def take3 (L iX aR : Nat) : Nat → Prop := fun i => i = L ∨ i = iX ∨ i = aR
set_option maxRecDepth 4000 in
set_option maxHeartbeats 2000000 in
theorem lTake_ok (h : ListsAt w L iR iX aR tR sz In F) (hA : ArenaAt w aR aX A) (hne : iX ≠ aX) (p k nx : Nat) (hk : k < 4) (hf : F.getD k 0 = p + 1) (hp : p < A.length) (hw : A.getD p 0 = linkW nx) (hn : nx ≤ 1048576) :
    Calls Tryz.prog 146 #[.pointer (some ⟨L, 0, none⟩), .int .i64 (k : Int)] w fun e w' => e = .returned (.tuple #[.int .i64 ((p : Int) + 1), .int .i64 0]) ∧ ListsAt w' L iR iX aR tR sz (putL sz In ((p : Int) + 1) false) (F.set k nx) ∧ ArenaAt w' aR aX A ∧ Keep (take3 L iX aR) w w' := by
  have HI := Lib.hid (fun W => clIs_any (k : Int) W)
  have hI := fun W => clIs_any (k : Int) W
  simp only [decide_eq_true (show (0 ≤ (k : Int) ∧ (k : Int) < 4) by omega)] at hI
  have HI := Lib.hid hI
  have qf := (h.first hk).1
  rw [hf] at qf
  have qe : (((p + 1 : Nat) : Nat) : Int) = (p : Int) + 1 := by omega
  rw [qe] at qf
  have hkI : (k : Int) < 4 := by omega
  have HNX := Lib.hid (lNext_in (h.still (k := (Keep.refl none_ w).drew)) (hA.still (k := (Keep.refl none_ w).drew)) p nx hp hw hn)
  have fF := h.free (3 + k)
  have hLn := h.ne
  obtain ⟨M0, hM0, hbL⟩ := h.blk
  obtain ⟨cap0, hbi⟩ := h.set.blk
  obtain ⟨cur0, hbx, _⟩ := h.set.wds
  obtain ⟨ld, st, hbr⟩ := hA.blk
  have hbax := hA.wds
  have n5 : aR ≠ iX := fun e => by rw [e] at hbr; exact absurd (hbr.uniq hbx).2 (by decide)
  have n6 : aR ≠ L := fun e => by rw [e] at hbr; exact absurd (hbr.uniq hbL).2 (by decide)
  have n7 : aX ≠ L := fun e => by rw [e] at hbax; exact absurd (hbax.uniq hbL).2 (by decide)
  have n8 : aR ≠ iR := fun e => by rw [e] at hbr; exact absurd (hbr.uniq hbi).2 (by decide)
  have HN : Hid (aR ≠ iX ∧ aR ≠ L ∧ aX ≠ L ∧ L ≠ iR ∧ L ≠ iX ∧ aR ≠ iR ∧ iX ≠ aX ∧ aX ≠ aR) := ⟨n5, n6, n7, hLn.1, hLn.2, n8, hne, fun e => hA.ne e.symm⟩
  have H := Lib.hid h
  have HA := Lib.hid hA
  have HK4 : Hid (k < 4) := hk
  have HNB : Hid (nx ≤ 1048576) := hn
  have hz : ((p : Int) + 1 == 0) = false := by simp; omega
  obtain ⟨pp, hpp⟩ : ∃ pp : Int, pp = (p : Int) + 1 := ⟨_, rfl⟩
  rw [← hpp] at qf hz HNX ⊢
  clear h hA hbL hbi hbx hbr hbax hk hp hf hw n5 n6 n7 n8 hLn hne hpp hM0 hI hn qe
  go_enter Tryz.func146, Tryz.ntmps146
  go_wp2_with (go_at_call 152; refine (HI.out _).mono ?_; rintro e w1 ⟨rfl, rfl⟩)
  go_region_held3 (fun _ => True)
    (first | exact trivial | fail "SFAIL")
    ((go_at_call 117
      refine HNX.out.mono ?_
      rintro e w1 ⟨rfl, ha1, hk1⟩
      have hk01 : Keep (only aR) w w1 := (Keep.refl _ _).drew.trans hk1
      have HS1 := Lib.hid (H.out.keep hk01 (fun e => HN.out.2.1 e.symm) (fun e => HN.out.2.2.2.2.2.1 e.symm) (fun e => HN.out.1 e.symm))
      have HA1 := Lib.hid ha1
      have HK1 := Lib.hid hk01
      have qf1 := hk01.cellv qf (fun e => HN.out.2.1 e.symm)
      have fF1 := HS1.out.free (3 + k)
      have HKN : Hid (w1.cell? ⟨L, 3 + k, none⟩ = some (.int .i64 pp) ∧ w1.frozen? ⟨L, 3 + k, none⟩ = false) := ⟨qf1, fF1⟩
      clear ha1 hk1 hk01))
  obtain ⟨W2, hW2⟩ : ∃ W', W' = w1.setCell ⟨L, 3 + k, none⟩ (.int .i64 (nx : Int)) := ⟨_, rfl⟩
  rw [← hW2]
  have hk12 : Keep (only L) w1 W2 := by rw [hW2]; exact (Keep.refl _ _).put _ _
  have HS2 : Hid (ListsAt W2 L iR iX aR tR sz In (F.set k nx)) := by
    rw [hW2]
    exact HS1.out.setF HK4.out HNB.out
  have HA2 := Lib.hid (HA1.out.keep hk12 HN.out.2.1 HN.out.2.2.1)
  have HK2 : Hid (Keep (take3 L iX aR) w W2) := (HK1.out.mono (fun i _ e => Or.inr (Or.inr e))).trans (hk12.mono (fun i _ e => Or.inl e))
  clear hW2 hk12 qf fF qf1 fF1 HKN HS1 HA1 HK1 HNX
  obtain ⟨mm, qm⟩ := HS2.out.many HK4.out
  have fM := HS2.out.free (7 + k)
  go_wp2_with fail
  go_region
  obtain ⟨W3, hW3⟩ : ∃ W', W' = (W2.setCell ⟨L, 7 + k, none⟩ (.int .i64 (wrap64 (mm - 1)))).drew := ⟨_, rfl⟩
  rw [← hW3]
  have hk23 : Keep (only L) W2 W3 := by rw [hW3]; exact ((Keep.refl _ _).put _ _).drew
  have HS3 : Hid (ListsAt W3 L iR iX aR tR sz In (F.set k nx)) := by
    rw [hW3]
    exact (HS2.out.setM k _).still (k := (Keep.refl none_ _).drew)
  have HA3 := Lib.hid (HA2.out.keep hk23 HN.out.2.1 HN.out.2.2.1)
  have HK3 : Hid (Keep (take3 L iX aR) w W3) := HK2.out.trans (hk23.mono (fun i _ e => Or.inl e))
  clear hW3 hk23 fM qm HS2 HA2 HK2
  obtain ⟨q0, q1, q2⟩ := HS3.out.ptrs
  have HBP := Lib.hid (bPut_any HS3.out.set pp false)
  generalize putP sz In pp false = pb at *
  go_wp2_with (go_at_call 111; refine HBP.out.mono ?_; rintro e w4 ⟨rfl, hs4, hk4⟩; have HS4 := Lib.hid hs4; have HK4' := Lib.hid hk4; clear hs4 hk4)
  go_ret2
  exact ⟨rfl, HS3.out.newSet HK4'.out HN.out.2.2.2.2.1 HS4.out, HA3.out.keep HK4'.out HN.out.1 (fun e => HN.out.2.2.2.2.2.2.1 e.symm), HK3.out.trans (HK4'.out.mono (fun i _ e => Or.inr (Or.inl e)))⟩
set_option maxRecDepth 4000 in
set_option maxHeartbeats 2000000 in
theorem lNew_ok {tX b ww : Nat} {c : Conf} {K : List Nat} (hA : ArenaAt w aR aX A) (hTb : TableAt w tR tX c K) (hb : c.b = b) (hw : c.w = ww) (hlen : A.length = b * ww) (hT : Tabs w) : Calls Tryz.prog 89 #[.pointer (some ⟨aR, 0, none⟩), .pointer (some ⟨tR, 0, none⟩)] w fun e w' => ∃ L iR iX, e = .returned (.tuple #[.pointer (some ⟨L, 0, none⟩), .int .i64 0]) ∧ ListsAt w' L iR iX aR tR (b * ww + 1) (List.replicate ((b * ww + 1 + 63) / 64) 0) [0, 0, 0, 0] ∧ w.heap.size ≤ L ∧ w.heap.size ≤ iR ∧ w.heap.size ≤ iX ∧ Keep none_ w w' := by
  have hn := ok_nat hTb.ok hb hw
  have HC := Lib.hid (tConfig_any hTb)
  have HW : Hid (∀ W, Keep none_ w W → Calls Tryz.prog 87 #[.agg c.cells.toArray] W fun e w' => e = .returned (.int .i64 ((b * ww : Nat) : Int)) ∧ Keep none_ W w') := fun W hW => cWords_any hTb.ok hb hw W (hT.keep hW)
  have HL : Hid (∀ W, Keep none_ w W → Calls Tryz.prog 112 #[.pointer (some ⟨aR, 0, none⟩)] W fun e w' => e = .returned (.int .i64 ((b * ww : Nat) : Int)) ∧ W = w') := fun W hW => by
    have h9 := aLen_any (hA.still hW)
    rw [hlen] at h9
    exact h9
  have HB : Hid (∀ W, Calls Tryz.prog 90 #[.int .i64 (((b * ww : Nat) : Int) + 1)] W fun e w' => ∃ B X, e = .returned (.tuple #[.pointer (some ⟨B, 0, none⟩), .int .i64 0]) ∧ SetAt w' B X (b * ww + 1) (List.replicate ((b * ww + 1 + 63) / 64) 0) ∧ W.heap.size ≤ B ∧ W.heap.size ≤ X ∧ Keep none_ W w') := fun W => by
    have h9 := bNew_any (b * ww + 1) (by omega) W
    rw [show (((b * ww + 1 : Nat) : Nat) : Int) = ((b * ww : Nat) : Int) + 1 by omega] at h9
    exact h9
  generalize b * ww = N at *
  have hwr : IntKind.i64.wrap ((N : Int) + 1) = (N : Int) + 1 := IntWalk.i64_in _ (by omega)
  generalize (List.replicate ((N + 1 + 63) / 64) 0) = In' at *
  obtain ⟨c0, c1, c2, c3, c4, c5, c6⟩ := c
  simp only [Conf.cells] at *
  clear hA hTb hb hw hlen hT hn
  go_enter Tryz.func89, Tryz.ntmps89
  go_wp2_with (first
    | (go_at_call 92; refine HC.out.mono ?_; rintro e w1 ⟨rfl, hk1⟩; have HK1 := Lib.hid hk1; clear hk1)
    | (go_at_call 87; refine (HW.out _ HK1.out).mono ?_; rintro e w2 ⟨rfl, hk2⟩; have HK2 := Lib.hid (HK1.out.trans hk2); clear hk2)
    | (go_at_call 112; refine (HL.out _ HK2.out).mono ?_; rintro e w3 ⟨rfl, rfl⟩)
    | (go_at_call 90; refine (HB.out _).mono ?_; rintro e w4 ⟨iR, iX, rfl, hs, h1, h2, hk4⟩; have HS := Lib.hid hs; have HK4 := Lib.hid (HK2.out.trans hk4); have HLE : Hid (w.heap.size ≤ iR ∧ w.heap.size ≤ iX) := ⟨Nat.le_trans HK2.out.size h1, Nat.le_trans HK2.out.size h2⟩; clear hs h1 h2 hk4))
  obtain ⟨W5, hW5⟩ : ∃ W', W' = w4.alloc (.cells #[.pointer (some ⟨aR, 0, none⟩), .pointer (some ⟨tR, 0, none⟩), .pointer (some ⟨iR, 0, none⟩), .int .i64 0, .int .i64 0, .int .i64 0, .int .i64 0, .int .i64 0, .int .i64 0, .int .i64 0, .int .i64 0] 186) := ⟨_, rfl⟩
  rw [← hW5]
  go_ret2
  have hk5 : Keep none_ w4 W5 := by rw [hW5]; exact (Keep.refl _ _).alloc _
  refine ⟨w4.heap.size, iR, iX, rfl, ⟨⟨[0, 0, 0, 0], rfl, ?_⟩, HS.out.still hk5, rfl, by decide⟩, HK4.out.size, HLE.out.1, HLE.out.2, HK4.out.trans hk5⟩
  rw [hW5]
  exact Blk.new w4 _ _
end
end Go.Proofs.YtjdnkhljgnjkcaaGreatDoor
