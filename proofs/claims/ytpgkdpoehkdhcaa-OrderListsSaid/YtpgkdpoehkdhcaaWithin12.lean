/- CONTRACT of waveletlaw12.within: at modulo n, not negative. Conditions: 1 <= n <= 2^62. -/
import Derived.Test.YtpgkdpoehkdhcaaBase
namespace Go.Proofs.Ytpgkdpoehkdhcaa
open Go.RowKit
set_option maxHeartbeats 400000

theorem within12 (a n : Int) (h1 : 1 ≤ n) (h2 : n ≤ 4611686018427387904) (w : World) :
    Calls Try.prog 20 #[.int .i64 a, .int .i64 n] w fun e w' => e = .returned (.int .i64 (a % n)) ∧ w = w' := by
  have e1 : -n < a.tmod n := Int.lt_tmod_of_pos a (by omega)
  have e2 : a.tmod n < n := Int.tmod_lt_of_pos a (by omega)
  by_cases h : a.tmod n < 0
  · go_enter Try.func20, Try.ntmps20
    go_wp2
    go_ret
    exact ⟨ret_int (tmod_lt h1 h), rfl⟩
  · go_enter Try.func20, Try.ntmps20
    go_wp2
    go_ret
    exact ⟨ret_int (tmod_ge h1 (by omega)), rfl⟩
theorem within12e (a n : Int) (h1 : 1 ≤ n) (h2 : n ≤ 4611686018427387904) (w : World) :
    Calls Try.prog 20 #[.int .i64 a, .int .i64 n] w fun e w' => ∃ v : Int, 0 ≤ v ∧ v < n ∧ e = .returned (.int .i64 v) ∧ w = w' :=
  (within12 a n h1 h2 w).mono fun _ _ ⟨he, hw⟩ => ⟨a % n, Int.emod_nonneg a (by omega), Int.emod_lt_of_pos a (by omega), he, hw⟩
end Go.Proofs.Ytpgkdpoehkdhcaa
