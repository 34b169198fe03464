import Derived.Test.YtmghnfblmoibhaaBase
import Derived.Test.YtmghnfblmoibhaaScanLaw
namespace Go.Proofs.Ytmghnfblmoibhaa
open Go.RowKit
set_option maxHeartbeats 400000

theorem within6 (a n : Int) (h1 : 1 ≤ n) (h2 : n ≤ 1000000) (w : World) :
    Calls Try.prog 8 #[.int .i64 a, .int .i64 n] w fun e w' => e = .returned (.int .i64 (a % n)) ∧ w = w' := by
  have e1 : -n < a.tmod n := Int.lt_tmod_of_pos a (by omega)
  have e2 : a.tmod n < n := Int.tmod_lt_of_pos a (by omega)
  by_cases h : a.tmod n < 0
  · go_enter Try.func8, Try.ntmps8
    go_wp2
    go_ret
    exact ⟨ret_int (tmod_lt h1 h), rfl⟩
  · go_enter Try.func8, Try.ntmps8
    go_wp2
    go_ret
    exact ⟨ret_int (tmod_ge h1 (by omega)), rfl⟩

theorem at_no (a b k : Int) (h : a < 1 ∨ b < 1 ∨ k < 0) (w : World) :
    Calls Try.prog 9 #[.int .i64 a, .int .i64 b, .int .i64 k] w fun e w' => e = .returned (.tuple #[.int .i64 (atM a b k).1, .int .i64 (atM a b k).2]) ∧ ∃ n, w' = w.drewN n := by
  have e : atM a b k = (-1, -1) := by unfold atM; rw [if_pos h]
  rw [e]; clear e
  rcases h with h | h | h
  · go_enter Try.func9, Try.ntmps9
    go_wp2
    go_ret2
    exact ⟨rfl, 0, rfl⟩
  · by_cases g : a < 1
    all_goals
      go_enter Try.func9, Try.ntmps9
      go_wp2
      go_ret2
      exact ⟨rfl, 0, rfl⟩
  · by_cases g : a < 1
    all_goals by_cases g' : b < 1
    all_goals
      go_enter Try.func9, Try.ntmps9
      go_wp2
      go_ret2
      exact ⟨rfl, 0, rfl⟩

theorem at_yes (a b k : Int) (hk : k ≤ 9223372036854775807) (hb : b ≤ 9223372036854775807) (hk0 : 1 ≤ a) (hb0 : 1 ≤ b) (hkk : 0 ≤ k) (w : World) :
    Calls Try.prog 9 #[.int .i64 a, .int .i64 b, .int .i64 k] w fun e w' => e = .returned (.tuple #[.int .i64 (atM a b k).1, .int .i64 (atM a b k).2]) ∧ ∃ n, w' = w.drewN n := by
  have q0 : 0 ≤ k / a := Int.ediv_nonneg (by omega) (by omega)
  have q1 : k / a / 4 * 4 * a ≤ k := by
    have h := Int.ediv_mul_le k (b := a) (by omega)
    have h2 : k / a / 4 * 4 ≤ k / a := by omega
    exact Int.le_trans (Int.mul_le_mul_of_nonneg_right h2 (by omega)) h
  have q2 : 0 ≤ k / a / 4 * 4 * a := Int.mul_nonneg (by omega) (by omega)
  have q3 : k / a ≤ k := Int.ediv_le_self _ (by omega)
  have g : ¬ (a < 1 ∨ b < 1 ∨ k < 0) := by omega
  by_cases c1 : b ≤ k / a / 4 * 4
  · have e : atM a b k = (-1, -1) := by unfold atM; rw [if_neg g, if_pos c1]
    rw [e]; clear e g
    go_enter Try.func9, Try.ntmps9
    go_wp2
    go_ret2
    exact ⟨rfl, 0, rfl⟩
  · by_cases c2 : b - k / a / 4 * 4 < 4
    · have m : min 4 (b - k / a / 4 * 4) = b - k / a / 4 * 4 := by omega
      by_cases c3 : a ≤ (k - k / a / 4 * 4 * a) / (b - k / a / 4 * 4)
      · have e : atM a b k = (-1, -1) := by unfold atM; rw [if_neg g, if_neg c1, m, if_pos c3]
        rw [e]; clear e g m
        go_enter Try.func9, Try.ntmps9
        go_wp2
        go_ret2
        exact ⟨rfl, 0, rfl⟩
      · have e : atM a b k = ((k - k / a / 4 * 4 * a) / (b - k / a / 4 * 4), k / a / 4 * 4 + (k - k / a / 4 * 4 * a) % (b - k / a / 4 * 4)) := by unfold atM; rw [if_neg g, if_neg c1, m, if_neg c3]
        rw [e]; clear e g m
        have r1 := Int.emod_nonneg (k - k / a / 4 * 4 * a) (b := (b - k / a / 4 * 4)) (by omega)
        have r2 := Int.emod_lt_of_pos (k - k / a / 4 * 4 * a) (b := (b - k / a / 4 * 4)) (by omega)
        go_enter Try.func9, Try.ntmps9
        go_wp2
        go_quiet (fail)
        go_wp2
        go_ret2
        exact ⟨rfl, _, rfl⟩
    · have m : min 4 (b - k / a / 4 * 4) = 4 := by omega
      by_cases c3 : a ≤ (k - k / a / 4 * 4 * a) / 4
      · have e : atM a b k = (-1, -1) := by unfold atM; rw [if_neg g, if_neg c1, m, if_pos c3]
        rw [e]; clear e g m
        go_enter Try.func9, Try.ntmps9
        go_wp2
        go_ret2
        exact ⟨rfl, 0, rfl⟩
      · have e : atM a b k = ((k - k / a / 4 * 4 * a) / 4, k / a / 4 * 4 + (k - k / a / 4 * 4 * a) % 4) := by unfold atM; rw [if_neg g, if_neg c1, m, if_neg c3]
        rw [e]; clear e g m
        go_enter Try.func9, Try.ntmps9
        go_wp2
        go_quiet (fail)
        go_wp2
        go_ret2
        exact ⟨rfl, _, rfl⟩
end Go.Proofs.Ytmghnfblmoibhaa
