/- Programs that came in, read as data: rows of operations. -/
import Derived.Test.YtcopkhhgcgfelaaDoorStats6a
import Derived.OpenShut
namespace Go.Proofs.YtcopkhhgcgfelaaDoor
open Go.RowKit Go.ChangeShapes Go.WideShapes Go.Deep

def kindOf (r : List Value) : Int := match r[0]? with
  | some (Value.int _ k) => k
  | _ => 0
section
variable {H : Type} {enc : TypeId × Value → H} {P : Program} {w : World} {base : Nat} {spare : Nat → Bool} {held : Bool}
theorem slice_nil {t e : TypeId} {fuel : Nat} {a : Option Addr} {len cap : Nat} {x : DataW H × List MemPlace} (ht : P.underlying t = some (.slice e)) (h : DataW.trod enc P w base spare held fuel t [.slice a len cap] = some x) : a = none → len = 0 ∧ cap = 0 := by
  rcases open_slice ht h with ⟨e0, _⟩ | ⟨ad, l, c, q, n, D, Pl, e0, _⟩
  · simp at e0
    obtain ⟨rfl, rfl, rfl⟩ := e0
    exact fun _ => ⟨rfl, rfl⟩
  · simp at e0
    obtain ⟨rfl, _⟩ := e0
    intro h; cases h
theorem progs_of {m : Nat} {t s e : TypeId} {fuel : Nat} {a : Option Addr} {len cap : Nat} {x : DataW H × List MemPlace} (ht : P.underlying t = some (.slice s)) (hs : P.underlying s = some (.slice e)) (hk : flat P m e = some [.int .i64, .int .i64, .int .i64, .int .i64])
    (hc : P.cellsOf e = 4) (hc1 : P.cellsOf s = 1) (h : DataW.trod enc P w base spare held fuel t [.slice a len cap] = some x) : ∃ pp, Progs w a len pp ∧ len ≤ maxLen := by
  rcases open_slice ht h with ⟨e0, _⟩ | ⟨ad, l, c, q, n, D, Pl, e0, hb, hl, hm, hq, _, hel⟩
  · simp at e0
    obtain ⟨rfl, rfl, rfl⟩ := e0
    exact ⟨[], ⟨rfl, fun h => absurd h (Nat.lt_irrefl 0)⟩, Nat.zero_le _⟩
  · simp at e0
    obtain ⟨rfl, rfl, rfl⟩ := e0
    have hql : len ≤ q := by rw [hq]; split <;> omega
    have row : ∀ i, i < len → ∃ (ks : List Int) (ra : Option Addr) (rc : Nat), w.cell? (ad.add i) = some (.slice ra ks.length rc) ∧ ks.length ≤ 9223372036854775807 ∧
        (0 < ks.length → ∃ rb roff, ra = some ⟨rb, roff, none⟩ ∧ ∀ j k, ks[j]? = some k → w.cell? ⟨rb, roff + j * 4, none⟩ = some (.int .i64 k)) := fun i hi => by
      obtain ⟨cs, h1, h2⟩ := hel i (by omega)
      rw [hc1, Nat.mul_one] at h1
      obtain ⟨_, hl2, hcell⟩ := World.cells?_some h1
      have hv : ∃ v, cs = [v] := by
        match cs, hl2 with
        | [v], _ => exact ⟨v, rfl⟩
      obtain ⟨v, rfl⟩ := hv
      have hcv : w.cell? (ad.add i) = some v := by
        have := hcell 0 (by omega)
        simpa [add_add] using this
      obtain ⟨ra, rl, rc, rfl⟩ : ∃ ra rl rc, v = .slice ra rl rc := by
        rcases open_slice hs h2 with ⟨e1, _⟩ | ⟨a1, l1, c1, _, _, _, _, e1, _⟩
        · simp at e1; exact ⟨_, _, _, e1⟩
        · simp at e1; exact ⟨_, _, _, e1⟩
      obtain ⟨rs, hf, hrm⟩ := flats_of (ks := [.int .i64, .int .i64, .int .i64, .int .i64]) hs hk (by rw [hc]; rfl) (by decide) h2
      have hrl := hf.len
      have kind : ∀ r ∈ rs, ∃ k : Int, r[0]? = some (.int .i64 k) := fun r hr => by
        obtain ⟨v, h0, k, rfl, _⟩ := (hf.ok r hr).at_ 0 (.int .i64) rfl
        exact ⟨k, h0⟩
      let ks : List Int := rs.map kindOf
      have hkl : ks.length = rl := by simp [ks, hrl]
      refine ⟨ks, ra, rc, by rw [hkl]; exact hcv, by rw [hkl]; unfold maxLen at hrm; omega, fun h0 => ?_⟩
      rw [hkl] at h0
      obtain ⟨rb, roff, e2, hcc⟩ := hf.at_ h0
      refine ⟨rb, roff, e2, fun j k hj => ?_⟩
      have hjl : j < rs.length := by
        have := (List.getElem?_eq_some_iff.1 hj).1
        simpa [ks] using this
      obtain ⟨k', hk'⟩ := kind rs[j] (List.getElem_mem _)
      have := hcc j rs[j] (List.getElem?_eq_getElem hjl) 0 _ hk'
      have ek : k' = k := by
        simp [ks, List.getElem?_eq_getElem hjl, kindOf, hk'] at hj
        exact hj
      subst ek
      simpa using this
    rcases Nat.eq_zero_or_pos len with h0 | h0
    · subst h0
      exact ⟨[], ⟨rfl, fun h => absurd h (Nat.lt_irrefl 0)⟩, Nat.zero_le _⟩
    · obtain ⟨R, hR⟩ := choose_lt row
      obtain ⟨b, off, sp⟩ := ad
      obtain ⟨ra0, rc0, hc0, _⟩ := hR 0 h0
      have hsp : sp = none := by simpa [Addr.add] using World.cell?_spot hc0
      subst hsp
      refine ⟨(List.range len).map R, ⟨by simp, fun _ => ⟨b, off, rfl, fun i ks hi => ?_⟩⟩, Nat.le_trans hl hm⟩
      have hil : i < len := by
        have := (List.getElem?_eq_some_iff.1 hi).1
        simpa using this
      simp [hil] at hi
      subst hi
      obtain ⟨ra, rc, g1, g2, g3⟩ := hR i hil
      rw [add_plain] at g1
      exact ⟨ra, rc, g1, g2, g3⟩
end
end Go.Proofs.YtcopkhhgcgfelaaDoor
