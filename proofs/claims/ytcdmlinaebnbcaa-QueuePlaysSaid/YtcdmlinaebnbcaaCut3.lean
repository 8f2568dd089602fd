/- s[:n:n]. Of no program. -/
import Derived.Test.YtcdmlinaebnbcaaRowV
namespace Go.Proofs.Ytcdmlinaebnbcaa
open Go.RowKit
theorem run_cut3 {P : Program} {T e : TypeId} (ht : P.underlying T = some (.slice e)) (hi : (P.info? e).map (·.size) = some 1) (a : Option Addr) (n c m : Nat) (hm : m ≤ c) (w : World) :
    (Instr.slice T (.slice a n c) none (some (.int .i64 (m : Int))) (some (.int .i64 (m : Int)))).run P w = .ok (.slice (cutA a m 0) m m) w := by
  obtain ⟨i, hi1, _⟩ := Option.map_eq_some_iff.1 hi
  have hb2 : ∀ k, m ≤ k → ∀ x, (Instr.sliceBound (.int .i64 (m : Int)) k x).run P w = .ok m w := fun k hk x => by
    have := run_sliceBound (P := P) (w := w) .i64 (m : Int) k x (by omega) (by omega)
    simpa using this
  simp [Instr.slice, run_underlying ht, sizeOf, typeInfo, hi1, cutA, Instr.sliceBounds, hb2 c hm, hb2 m (Nat.le_refl _), Sem.run_bind, Result.andThen]
end Go.Proofs.Ytcdmlinaebnbcaa
