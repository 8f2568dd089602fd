/- What queue's functions do with a queue that is there. -/
import Derived.Test.YtcdmlinaebnbcaaQueue
import Derived.RegionTactic
import Derived.Laws.CopyOwn
namespace Go.Proofs.Ytcdmlinaebnbcaa
open Go.RowKit

def Qu.row (q : Qu) (k : Int) : List Int := q.rows.getD k.toNat []
def Qu.len (q : Qu) (k : Int) : Int := if cls k then (q.row k).length else 0

/-- The class's row, as it lies. -/
theorem QuAt.at_ {w B q} (h : QuAt w B q) {k : Int} (hk : cls k = true) : ∃ a n c, w.cell? ⟨B, k.toNat, none⟩ = some (.slice a n c) ∧ RowV w 3 (.slice a n c) ((q.row k).map (Value.int .i64)) ∧ n = (q.row k).length := by
  obtain ⟨hl, vs, hv, hb, hr⟩ := h
  have hk' : k.toNat < 4 := by simp [cls] at hk; omega
  have h1 : vs[k.toNat]? = some (vs[k.toNat]'(by omega)) := List.getElem?_eq_getElem _
  have h2 : q.rows[k.toNat]? = some (q.row k) := by
    rw [Qu.row, List.getD_eq_getElem?_getD, List.getElem?_eq_getElem (by omega)]; rfl
  have hrow := hr _ _ _ h1 h2
  obtain ⟨a, c, e, h3⟩ := id hrow
  refine ⟨a, _, c, ?_, e ▸ hrow, by simp⟩
  rw [← e]
  refine hb.cell _ ?_
  rw [List.getElem?_append_left (by omega)]; exact h1

set_option maxHeartbeats 400000 in
theorem qLen_any (B : Nat) (q : Qu) (k : Int) (w : World) (h : QuAt w B q) : Calls Try.prog 34 #[.pointer (some ⟨B, 0, none⟩), .int .i64 k] w fun e w' => e = .returned (.int .i64 (q.len k)) ∧ w = w' := by
  cases hk : cls k with
  | false =>
    have HE : Hid (q.len k = 0) := by simp [Hid, Qu.len, hk]
    go_enter Try.func34, Try.ntmps34
    go_wp2_with (go_at_call 47; refine (cIs_is hk).mono ?_; rintro e w' ⟨rfl, rfl⟩)
    go_ret
    rw [HE.out]
    exact ⟨rfl, rfl⟩
  | true =>
    obtain ⟨a, n, c, hc, hr, hn⟩ := h.at_ hk
    have HE : Hid (q.len k = n) := by simp [Hid, Qu.len, hk, hn]
    have h0 : 0 ≤ k := by simp [cls] at hk; omega
    have h4 : k < 4 := by simp [cls] at hk; omega
    clear hr hn
    go_enter Try.func34, Try.ntmps34
    go_wp2_with (go_at_call 47; refine (cIs_is hk).mono ?_; rintro e w' ⟨rfl, rfl⟩)
    go_ret
    rw [HE.out]
    exact ⟨rfl, rfl⟩

theorem QuAt.open_ {w B q} (h : QuAt w B q) : w.cell? ⟨B, 4, none⟩ = some (.int .i64 q.opn) := by
  obtain ⟨hl, vs, hv, hb, hr⟩ := h
  refine hb.cell _ ?_
  rw [List.getElem?_append_right (by omega), hv]; rfl
theorem QuAt.free {w B q} (h : QuAt w B q) (i : Nat) : w.frozen? ⟨B, i, none⟩ = false := by
  obtain ⟨hl, vs, hv, hb, hr⟩ := h
  exact hb.free i

set_option maxHeartbeats 400000 in
theorem qOpen_any (B : Nat) (q : Qu) (w : World) (h : QuAt w B q) : Calls Try.prog 35 #[.pointer (some ⟨B, 0, none⟩)] w fun e w' => e = .returned (.int .i64 q.opn) ∧ w = w' := by
  have hc := h.open_
  clear h
  go_enter Try.func35, Try.ntmps35
  go_wp2
  go_ret
  exact ⟨rfl, rfl⟩

def Qu.setOpn (q : Qu) (n : Nat) : Qu := { q with opn := n }
theorem QuAt.setOpn {w B q} (h : QuAt w B q) (n : Nat) : QuAt (w.setCell ⟨B, 4, none⟩ (.int .i64 n)) B (q.setOpn n) := by
  obtain ⟨hl, vs, hv, hb, hr⟩ := h
  refine ⟨hl, vs, hv, ?_, fun i v zs h1 h2 => (hr i v zs h1 h2).only ((Keep.refl (only B) _).put _ _) hb (by decide)⟩
  have := hb.set 4 (.int .i64 n)
  rw [List.set_append_right _ _ (by omega), hv] at this
  exact this
def Qu.doneE (q : Qu) : Int := if q.opn = 0 then 11 else 0
def Qu.doneQ (q : Qu) : Qu := q.setOpn (q.opn - 1)

set_option maxHeartbeats 400000 in
theorem qDone_any (B : Nat) (q : Qu) (w : World) (h : QuAt w B q) (hm : q.opn ≤ 1000000000) : Calls Try.prog 32 #[.pointer (some ⟨B, 0, none⟩)] w fun e w' => e = .returned (.int .i64 q.doneE) ∧ QuAt w' B q.doneQ ∧ Keep (only B) w w' := by
  have hc := h.open_
  have hf := h.free 4
  by_cases h0 : q.opn = 0
  · have HE : Hid (q.doneE = 11 ∧ q.doneQ = q) := by
      refine ⟨by simp [Qu.doneE, h0], ?_⟩
      obtain ⟨r, o⟩ := q
      simp at h0; subst h0; rfl
    rw [h0] at hc
    clear h0
    go_enter Try.func32, Try.ntmps32
    go_wp2
    go_ret
    rw [HE.out.1, HE.out.2]
    exact ⟨rfl, h, Keep.refl _ _⟩
  · have HE : Hid (q.doneE = 0) := by simp [Hid, Qu.doneE, h0]
    have hne : ((q.opn : Int) == 0) = false := by simp; omega
    have h1 : (1 : Int) ≤ q.opn := by omega
    have hs := h.setOpn (q.opn - 1)
    have e : ((q.opn - 1 : Nat) : Int) = (q.opn : Int) - 1 := by omega
    rw [e] at hs
    have HS := Lib.hid hs
    clear hs e h0
    go_enter Try.func32, Try.ntmps32
    go_wp2
    go_ret
    rw [HE.out]
    exact ⟨rfl, HS.out, (Keep.refl (only B) _).put _ _⟩

/-! Put -/
def Qu.put (q : Qu) (k b : Int) : Qu := { q with rows := q.rows.set k.toNat (q.row k ++ [b]) }
def putOk (k b : Int) : Bool := cls k && decide (0 ≤ b)

theorem QuAt.setRow {w B q} (h : QuAt w B q) {k : Int} (hk : cls k = true) {v : Value} {zs : List Int} (hv : RowV w 3 v (zs.map (Value.int .i64))) :
    QuAt (w.setCell ⟨B, k.toNat, none⟩ v) B { q with rows := q.rows.set k.toNat zs } := by
  obtain ⟨hl, vs, hvl, hb, hr⟩ := h
  have hk' : k.toNat < 4 := by simp [cls] at hk; omega
  have hkeep : ∀ u, Keep (only B) w (w.setCell ⟨B, k.toNat, none⟩ u) := fun u => (Keep.refl (only B) _).put _ _
  refine ⟨by simpa using hl, vs.set k.toNat v, by simpa using hvl, ?_, fun i u zs' h1 h2 => ?_⟩
  · have := hb.set k.toNat v
    rw [List.set_append_left _ _ (by omega)] at this
    exact this
  · by_cases e : k.toNat = i
    · subst e
      rw [List.getElem?_set_self (by omega)] at h1 h2
      simp at h1 h2
      subst h1 h2
      exact hv.only (hkeep _) hb (by decide)
    · rw [List.getElem?_set_ne e] at h1 h2
      exact (hr i u zs' h1 h2).only (hkeep _) hb (by decide)
theorem QuAt.still {w w' B q} (h : QuAt w B q) (k : Keep none_ w w') : QuAt w' B q := by
  obtain ⟨hl, vs, hv, hb, hr⟩ := h
  exact ⟨hl, vs, hv, k.blk hb (fun f => f), fun i v zs h1 h2 => (hr i v zs h1 h2).still k⟩

set_option maxHeartbeats 400000 in
theorem qPut_no (B : Nat) (k b : Int) (w : World) (h : putOk k b = false) : Calls Try.prog 33 #[.pointer (some ⟨B, 0, none⟩), .int .i64 k, .int .i64 b] w fun e w' => e = .returned (.int .i64 1) ∧ w = w' := by
  cases hk : cls k with
  | false =>
    go_enter Try.func33, Try.ntmps33
    go_wp2_with (go_at_call 47; refine (cIs_is hk).mono ?_; rintro e w' ⟨rfl, rfl⟩)
    go_ret
    exact ⟨rfl, rfl⟩
  | true =>
    have hb : b < 0 := by simp [putOk, hk] at h; omega
    go_enter Try.func33, Try.ntmps33
    go_wp2_with (go_at_call 47; refine (cIs_is hk).mono ?_; rintro e w' ⟨rfl, rfl⟩)
    go_ret
    exact ⟨rfl, rfl⟩

theorem Try.infoInt : (Try.prog.info? 3).map (fun i => (i.zero, i.size, i.bytes)) = some (some (.int .i64 0), 1, 8) := by kernel_rfl
theorem Try.sizeInt : (Try.prog.info? 3).map (·.size) = some 1 := by kernel_rfl

set_option maxHeartbeats 400000 in
theorem qPut_yes (B : Nat) (q : Qu) (k b : Int) (w : World) (h : QuAt w B q) (hok : putOk k b = true) (hm : (q.row k).length ≤ 1000000000) :
    Calls Try.prog 33 #[.pointer (some ⟨B, 0, none⟩), .int .i64 k, .int .i64 b] w fun e w' => e = .returned (.int .i64 0) ∧ QuAt w' B (q.put k b) ∧ Keep (only B) w w' := by
  have hk : cls k = true := by simp [putOk] at hok; exact hok.1
  have hb0 : ¬ b < 0 := by simp [putOk] at hok; omega
  obtain ⟨a, n, c, hc, hr, hn⟩ := h.at_ hk
  have h0 : 0 ≤ k := by simp [cls] at hk; omega
  have h4 : k < 4 := by simp [cls] at hk; omega
  have hmk := run_mk (P := Try.prog) Try.underlying22 Try.infoInt rfl (by decide) (n + 1) (by omega) ((n : Int) + 1) (by omega)
  have hlt : B < w.heap.size := World.block_lt_of_cell? _ _ hc
  have hc1 : ∀ o, (w.alloc o).cell? ⟨B, k.toNat, none⟩ = some (.slice a n c) := fun o => by rw [World.cell?_alloc_lt _ _ _ hlt]; exact hc
  have hn1 : n ≤ 1000000000 := by omega
  have hxs : ((q.row k).map (Value.int .i64)).length = n := by simp [hn]
  have HX := Lib.hid hxs
  have HL := Lib.hid (show (q.row k).length = n from hn.symm)
  have HR := Lib.hid hr.cells
  have HN := Lib.hid hn
  have HC3 : Hid (0 < ((q.row k).map (Value.int .i64)).length → ∃ ad, a = some ad ∧ ∀ (j : Nat) (v : Value), ((q.row k).map (Value.int .i64))[j]? = some v → (w.alloc (.cells (zeros (.int .i64 0) (n + 1)).toArray 3)).cell? (ad.add j) = some v) := by
    intro h0
    rw [HX.out] at h0
    obtain ⟨b', off', rfl, hcs⟩ := HR.out.2.2.2 h0
    refine ⟨_, rfl, fun j v hj => ?_⟩
    have hcj := hcs j v hj
    have ea : (⟨b', off', none⟩ : Addr).add j = ⟨b', off' + j, none⟩ := by simp only [Addr.add]; split <;> simp_all
    rw [ea, World.cell?_alloc_lt _ _ _ (World.block_lt_of_cell? _ _ hcj)]
    exact hcj
  clear hr hn hok hxs
  go_enter Try.func33, Try.ntmps33
  go_wp2_with first | (go_at_call 47; refine (cIs_is hk).mono ?_; rintro e w' ⟨rfl, rfl⟩) | (refine wpList_copy_splice rfl (.tmp 29) (.tmp 35) 22 22 rfl 3 Try.underlying22 Try.sizeInt _ _ (n + 1) (n + 1) n c rfl rfl w.heap.size 0 (zeros (.int .i64 0) (n + 1)) 3 ?c1 ((q.row k).map (Value.int .i64)) ?c2 (fun h0 => ⟨rfl, HC3.out h0⟩) ?c4 ?c5 w.heap.size w ?c6 ?c7 ?_)
  case c1 => exact Blk.new w (zeros (.int .i64 0) (n + 1)) 3
  case c2 => rw [HX.out]; simp
  case c4 => rw [HX.out, zeros_len]; omega
  case c5 => simp; exact fun _ _ => rfl
  case c6 => exact (Below.refl _ _).alloc (Nat.le_refl _) _
  case c7 => exact Nat.le_refl _
  intro w2 hg2 hb2
  have hg3 : Blk w2 w.heap.size ((q.row k).map (Value.int .i64) ++ [.int .i64 0]) 3 := by
    have := hg2.out
    unfold Blk
    rw [this]
    congr 3
    simp only [splice, List.take_zero, List.nil_append, Nat.zero_add]
    rw [HX.out]
    simp [zeros]
  clear hg2
  rw [HL.out]
  have hkp2 : Keep none_ w w2 := Keep.ofBelow hb2 none_
  have hkp3 := hkp2.putNew (B := w.heap.size) (Nat.le_refl _) n (.int .i64 b)
  have hg4 : Blk (w2.setCell ⟨w.heap.size, n, none⟩ (.int .i64 b)) w.heap.size ((q.row k ++ [b]).map (Value.int .i64)) 3 := by
    have := hg3.set n (.int .i64 b)
    rw [List.set_append_right _ _ (by rw [HX.out]; exact Nat.le_refl _), HX.out] at this
    simpa using this
  have hQ := (h.still hkp3).setRow hk (RowV.ofBlk hg4 (n := n + 1) (by simp [HL.out]) (by omega))
  have HQ := Lib.hid hQ
  have e0 : w2.cell? ⟨w.heap.size, n, none⟩ = some (.int .i64 0) := hg3.cell n (by rw [List.getElem?_append_right (by rw [HX.out]; exact Nat.le_refl _), HX.out]; simp)
  have f0 := hg3.free n
  have e1 : (w2.setCell ⟨w.heap.size, n, none⟩ (.int .i64 b)).cell? ⟨B, k.toNat, none⟩ = some (.slice a n c) := hkp3.still hc
  have f1 : w2.frozen? ⟨B, k.toNat, none⟩ = false := by rw [hkp2.frozen hlt (fun f => f)]; exact h.free _
  have hkf : Keep (only B) w (w2.setCell ⟨w.heap.size, n, none⟩ (.int .i64 b)) := hkp3.mono (fun _ _ f => f.elim)
  clear hg3 hg4 hQ hb2 hc1 hmk hkp2 hkp3
  go_wp2_with fail
  go_ret
  refine ⟨rfl, HQ.out, hkf.put _ _⟩

end Go.Proofs.Ytcdmlinaebnbcaa
