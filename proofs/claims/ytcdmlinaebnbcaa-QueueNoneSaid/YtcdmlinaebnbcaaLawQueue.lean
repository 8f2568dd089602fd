/- The walk of QueueNone. -/
import Derived.Test.YtcdmlinaebnbcaaQueue4
namespace Go.Proofs.Ytcdmlinaebnbcaa
open Go.RowKit

set_option maxHeartbeats 400000 in
theorem queueNone_any (n b : Int) (w : World) (_ : (Lit.int .i64 n).wf = true) (_ : (Lit.int .i64 b).wf = true) :
    Calls Try.prog 9 #[.int .i64 n, .int .i64 b] w fun e w' => e = .returned (.bool true) ∧ Keep none_ w w' := by
  go_enter Try.func9, Try.ntmps9
  go_wp2_with first | (go_at_call 30; refine (qTake_nil _ _).mono ?_; rintro e w1 ⟨rfl, rfl⟩) | (go_at_call 31; refine (qAny_nil _).mono ?_; rintro e w1 ⟨rfl, rfl⟩) | (go_at_call 33; refine (qPut_nil _ _ _).mono ?_; rintro e w1 ⟨rfl, rfl⟩) | (go_at_call 32; refine (qDone_nil _).mono ?_; rintro e w1 ⟨rfl, rfl⟩) | (go_at_call 34; refine (qLen_nil _ _).mono ?_; rintro e w1 ⟨rfl, rfl⟩) | (go_at_call 35; refine (qOpen_nil _).mono ?_; rintro e w1 ⟨rfl, rfl⟩) | (go_at_call 36; refine (qRests_nil _).mono ?_; rintro e w1 ⟨rfl, rfl⟩) | (go_at_call 28; refine (awake14_any _).mono ?_; rintro e w1 ⟨rfl, hk⟩)
  go_ret
  exact ⟨rfl, hk⟩
end Go.Proofs.Ytcdmlinaebnbcaa
