/- WALK of the law CtxSigns: the nine rows of signs. No condition. -/
import Derived.Test.YtfdnhdcfbndjdaaWithin7
namespace Go.Proofs.Ytfdnhdcfbndjdaa
open Go.RowKit
set_option maxHeartbeats 1000000

theorem ctxSigns_walk (a : Int) (w : World) :
    Calls Try.prog 3 #[.int .i64 a] w fun e w' => e = .returned (.bool true) ∧ Below w.heap.size w w' := by
  go_enter Try.func3, Try.ntmps3
  go_wp2_with fail
  go_in
  go_wp2_with (first | (go_at_call 6; go_in) | (go_at_call 8; go_in))
  refine (within7e _ _ (by omega) (by omega) _).mono ?_
  rintro e w' ⟨k, hk0, hk1, rfl, rfl⟩
  obtain rfl | rfl | rfl | rfl | rfl | rfl | rfl | rfl | rfl : k = 0 ∨ k = 1 ∨ k = 2 ∨ k = 3 ∨ k = 4 ∨ k = 5 ∨ k = 6 ∨ k = 7 ∨ k = 8 := by omega
  all_goals
    go_wp2_with (go_in)
    go_ret
    exact ⟨rfl, by repeat (first | exact Below.refl _ _ | apply Below.drew | apply below_drewN | refine Below.alloc ?_ (by simp) _)⟩
end Go.Proofs.Ytfdnhdcfbndjdaa
