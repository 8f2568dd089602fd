/- Append of a row to a row of the call's own. -/
import Derived.Test.YtkjplkkjdlanhaaGreatDoorGRep
import Derived.Laws.OwnMore
namespace Go.Proofs.YtkjplkkjdlanhaaGreatDoor
open Go.RowKit Go.Sort
attribute [local go_sem ↓] app9_of

theorem own_high {w : World} {s : Nat} {e : TypeId} {v : Value} {n : Nat} {xs : List Value} (h : w.ownsRow 0 e 1 v n xs) (hs : ∀ k, v.ownBlock = some k → s ≤ k) : w.ownsRow s e 1 v n xs := by
  refine ⟨h.1, ?_⟩
  rcases h.2 with h1 | ⟨g, cap, cur, rfl, _, h1⟩
  · exact .inl h1
  · exact .inr ⟨g, cap, cur, rfl, hs g rfl, h1⟩
theorem own_above {w : World} {s : Nat} {e : TypeId} {v : Value} {n : Nat} {xs : List Value} (h : w.ownsRow s e 1 v n xs) : ∀ k, v.ownBlock = some k → s ≤ k := fun k hk => (World.ownsRow.lt h k hk).1
/-- 'append(v, u...)', v a row of the call's own, u a row. -/
theorem app_own {w : World} {s : Nat} {v : Value} {n : Nat} {xs : List Value} (hown : w.ownsRow s 3 1 v n xs) {u : Value} {ys : List Int} (hu : w.ownsRow 0 3 1 u ys.length (ys.map (Value.int .i64))) (hn : n + ys.length ≤ 100000000) (hs : s ≤ w.heap.size) :
    ∃ v' w', (app9 #[46, 46] 46 #[v, u]).run Tryz.prog w = .ok v' w' ∧ w'.ownsRow s 3 1 v' (n + ys.length) (xs ++ ys.map (Value.int .i64)) ∧ w.grownBy w' v.ownBlock := by
  obtain ⟨i, hi1, hi2, hi3, hi4⟩ := info_parts Tryz.infoInt
  obtain ⟨a, cap, rfl, hl, hnc, hnil, hc⟩ := own_form hu
  cases a with
  | none =>
    obtain rfl := hnil rfl
    have h0 : ys = [] := by
      cases ys with
      | nil => rfl
      | cons y ys => obtain ⟨g, e, _⟩ := hc 0 (.int .i64 y) rfl; cases e
    subst h0
    refine ⟨v, w, run_append_owned_none (P := Tryz.prog) (w := w) s 46 46 3 i 1 Tryz.underlying46 hi1 v n xs hown, by simpa using hown, ⟨rfl, rfl, rfl, Nat.le_refl _, fun _ _ _ => rfl⟩⟩
  | some ad =>
    have hb : (n + ys.length) * 8 ≤ 140737488355328 := by omega
    obtain ⟨v', w', h1, h2, h3, _⟩ := run_append_own (P := Tryz.prog) (w := w) s 46 46 3 i (.int .i64 0) 1 8 Tryz.underlying46 hi1 hi2 hi3 hi4 rfl (by decide) v n xs hown ad ys.length cap (ys.map (Value.int .i64)) (by simp)
      (fun j u hj => by obtain ⟨g, e, _⟩ := hc j u hj; cases e; exact hu.cells (g := g) rfl j u hj) (fun u hu => by obtain ⟨z, _, rfl⟩ := List.mem_map.1 hu; rfl) (by unfold maxLen; omega) hb hs
    exact ⟨v', w', h1, h2, h3⟩
theorem keep_grown {w w' : World} {row : Option Nat} (h : w.grownBy w' row) {w0 : World} (hk : Keep none_ w0 w) (hr : ∀ k, row = some k → w0.heap.size ≤ k) : Keep none_ w0 w' :=
  ⟨h.os.trans hk.os, h.tape.trans hk.tape, h.output.trans hk.output, Nat.le_trans hk.size h.size, fun k hk1 _ => (h.block k (Nat.lt_of_lt_of_le hk1 hk.size) (fun e => by have := hr k e.symm; omega)).trans (hk.block k hk1 (fun f => f))⟩

/-- 'append(v, u...)': where the grown row lies. -/
theorem app_at {w : World} {s : Nat} {v : Value} {n : Nat} {xs : List Value} (hown : w.ownsRow s 3 1 v n xs) {u : Value} {ys : List Int} (hu : w.ownsRow 0 3 1 u ys.length (ys.map (Value.int .i64))) (hn : n + ys.length ≤ 100000000) (hs : s ≤ w.heap.size) :
    ∃ v' w', (app9 #[46, 46] 46 #[v, u]).run Tryz.prog w = .ok v' w' ∧ w'.ownsRow s 3 1 v' (n + ys.length) (xs ++ ys.map (Value.int .i64)) ∧ w.grownBy w' v.ownBlock ∧ (∀ k, v'.ownBlock = some k → v.ownBlock = some k ∨ w.heap.size ≤ k) := by
  obtain ⟨i, hi1, hi2, hi3, hi4⟩ := info_parts Tryz.infoInt
  obtain ⟨a, cap, rfl, hl, hnc, hnil, hc⟩ := own_form hu
  cases a with
  | none =>
    obtain rfl := hnil rfl
    have h0 : ys = [] := by
      cases ys with
      | nil => rfl
      | cons y ys => obtain ⟨g, e, _⟩ := hc 0 (.int .i64 y) rfl; cases e
    subst h0
    exact ⟨v, w, run_append_owned_none (P := Tryz.prog) (w := w) s 46 46 3 i 1 Tryz.underlying46 hi1 v n xs hown, by simpa using hown, ⟨rfl, rfl, rfl, Nat.le_refl _, fun _ _ _ => rfl⟩, fun k hk => .inl hk⟩
  | some ad =>
    have hb : (n + ys.length) * 8 ≤ 140737488355328 := by omega
    have hnews : ∀ j u, (ys.map (Value.int .i64))[j]? = some u → w.cell? (ad.add j) = some u := fun j u hj => by obtain ⟨g, e, _⟩ := hc j u hj; cases e; exact hu.cells (g := g) rfl j u hj
    have hone : ∀ u ∈ ys.map (Value.int .i64), u.oneCell' = true := fun u hu => by obtain ⟨z, _, rfl⟩ := List.mem_map.1 hu; rfl
    rcases hown.2 with ⟨rfl, rfl⟩ | ⟨g, capv, cur, rfl, hbg, hg, hnc2, hcm, hcs, htake⟩
    · have hown' : w.ownsRow w.heap.size 3 1 (.slice none 0 0) 0 xs := ⟨hown.1, .inl ⟨rfl, rfl⟩⟩
      obtain ⟨v', w', h1, h2, h3, _⟩ := run_append_own (P := Tryz.prog) (w := w) w.heap.size 46 46 3 i (.int .i64 0) 1 8 Tryz.underlying46 hi1 hi2 hi3 hi4 rfl (by decide) _ 0 xs hown' ad ys.length cap (ys.map (Value.int .i64)) (by simp) hnews hone (by unfold maxLen; omega) hb (Nat.le_refl _)
      exact ⟨v', w', h1, own_high (own_low h2 (Nat.zero_le _)) (fun k hk => Nat.le_trans hs (own_above h2 k hk)), h3, fun k hk => .inr (own_above h2 k hk)⟩
    · by_cases hroom : n + ys.length ≤ capv
      · obtain ⟨w', hr, h2, h3⟩ := run_append_own_spare (P := Tryz.prog) w s 46 46 3 i 1 Tryz.underlying46 hi1 hi3 g n capv xs hown ad ys.length cap (ys.map (Value.int .i64)) (by simp) hnews hone hroom
        exact ⟨_, w', hr, h2, h3, fun k hk => .inl hk⟩
      · have holds : ∀ j x, xs[j]? = some x → w.cell? ((⟨g, 0, none⟩ : Addr).add j) = some x := hown.cells (g := g) rfl
        obtain ⟨v', w', hr, h2, h3⟩ := run_append_arg_grows (P := Tryz.prog) w 46 46 3 i (.int .i64 0) 1 8 Tryz.underlying46 hi1 hi2 hi3 hi4 rfl (by decide) ⟨g, 0, none⟩ n capv xs hown.1 holds ad ys.length cap (ys.map (Value.int .i64)) (by simp) hnews (by omega) (by unfold maxLen; omega) hb
        exact ⟨v', w', hr, own_high (own_low h2 (Nat.zero_le _)) (fun k hk => Nat.le_trans hs (own_above h2 k hk)), ⟨h3.os, h3.tape, h3.output, h3.size, fun k hk _ => h3.block k hk (by simp)⟩, fun k hk => .inr (own_above h2 k hk)⟩

theorem own_oneI (w : World) (x : Int) : (w.alloc (.cells #[.int .i64 x] 3)).ownsRow 0 3 1 (.slice (some ⟨w.heap.size, 0, none⟩) 1 1) 1 [.int .i64 x] := by
  refine ⟨rfl, .inr ⟨w.heap.size, 1, #[.int .i64 x], rfl, Nat.zero_le _, ?_, Nat.le_refl _, by decide, rfl, rfl⟩⟩
  show (w.heap.push _)[w.heap.size]? = _
  simp

end Go.Proofs.YtkjplkkjdlanhaaGreatDoor
