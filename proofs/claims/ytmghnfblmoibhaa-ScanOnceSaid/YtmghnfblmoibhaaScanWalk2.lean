import Derived.Test.YtmghnfblmoibhaaScanWalk
namespace Go.Proofs.Ytmghnfblmoibhaa
open Go.RowKit
set_option maxHeartbeats 400000

theorem at_any (a b k : Int) (hk : k ≤ 9223372036854775807) (hb : b ≤ 9223372036854775807) (w : World) :
    Calls Try.prog 9 #[.int .i64 a, .int .i64 b, .int .i64 k] w fun e w' => e = .returned (.tuple #[.int .i64 (atM a b k).1, .int .i64 (atM a b k).2]) ∧ ∃ n, w' = w.drewN n := by
  by_cases h : a < 1 ∨ b < 1 ∨ k < 0
  · exact at_no a b k h w
  · exact at_yes a b k hk hb (by omega) (by omega) (by omega) w

theorem ref_no (a b k : Int) (h : a < 1 ∨ b < 1 ∨ k < 0) (w : World) :
    Calls Try.prog 10 #[.int .i64 a, .int .i64 b, .int .i64 k] w fun e w' => e = .returned (.tuple #[.int .i64 (atM a b k).1, .int .i64 (atM a b k).2]) ∧ ∃ n, w' = w.drewN n := by
  rw [at_none h]
  rcases h with h | h | h
  · go_enter Try.func10, Try.ntmps10
    go_wp2
    go_ret2
    exact ⟨rfl, 0, rfl⟩
  · by_cases g : a < 1
    all_goals
      go_enter Try.func10, Try.ntmps10
      go_wp2
      go_ret2
      exact ⟨rfl, 0, rfl⟩
  · by_cases g : a < 1
    all_goals by_cases g' : b < 1
    all_goals
      go_enter Try.func10, Try.ntmps10
      go_wp2
      go_ret2
      exact ⟨rfl, 0, rfl⟩

theorem ref_yes (a b k : Int) (hk : k ≤ 9223372036854775807) (hb : b ≤ 9223372036854775807) (ha : a ≤ 9223372036854775807) (hk0 : 1 ≤ a) (hb0 : 1 ≤ b) (hkk : 0 ≤ k) (w : World) :
    Calls Try.prog 10 #[.int .i64 a, .int .i64 b, .int .i64 k] w fun e w' => e = .returned (.tuple #[.int .i64 (atM a b k).1, .int .i64 (atM a b k).2]) ∧ ∃ n, w' = w.drewN n := by
  have q0 : 0 ≤ k / a := Int.ediv_nonneg (by omega) (by omega)
  have q3 : k / a ≤ k := Int.ediv_le_self _ (by omega)
  have g : ¬ (a < 1 ∨ b < 1 ∨ k < 0 ∨ b ≤ k / a) ∨ b ≤ k / a := by omega
  rw [at_eq]
  by_cases c1 : b ≤ k / a
  · have e : refM a b k = (-1, -1) := by unfold refM; rw [if_pos (by omega)]
    rw [e]; clear e g
    have f1 : ¬ a < 1 := by omega
    have f2 : ¬ b < 1 := by omega
    have f3 : ¬ k < 0 := by omega
    go_enter Try.func10, Try.ntmps10
    go_wp2
    go_ret2
    exact ⟨rfl, 0, rfl⟩
  · have f1 : ¬ a < 1 := by omega
    have f2 : ¬ b < 1 := by omega
    have f3 : ¬ k < 0 := by omega
    have g' : ¬ (a < 1 ∨ b < 1 ∨ k < 0 ∨ b ≤ k / a) := by omega
    rcases Int.lt_or_le (k / a) 4 with c | c
    · have z : k / a / 4 = 0 := by omega
      by_cases c2 : b < 4
      · have m : min 4 (b - 4 * 0) = b := by omega
        have r1 := Int.emod_nonneg k (b := b) (by omega)
        have r2 := Int.emod_lt_of_pos k (b := b) (by omega)
        have e : refM a b k = (k / b, k % b) := by unfold refM; rw [if_neg g', z, m]; simp
        rw [e]; clear e g m g'
        go_enter Try.func10, Try.ntmps10
        go_wp2
        go_quiet (fail)
        go_wp2
        go_ret2
        exact ⟨rfl, _, rfl⟩
      · have m : min 4 (b - 4 * 0) = 4 := by omega
        have e : refM a b k = (k / 4, k % 4) := by unfold refM; rw [if_neg g', z, m]; simp
        rw [e]; clear e g m g'
        go_enter Try.func10, Try.ntmps10
        go_wp2
        go_quiet (fail)
        go_wp2
        go_ret2
        exact ⟨rfl, _, rfl⟩
    · have h1 : 4 * a ≤ k := by
        have h := Int.ediv_mul_le k (b := a) (by omega)
        have : 4 * a ≤ k / a * a := Int.mul_le_mul_of_nonneg_right c (by omega)
        omega
      have q5 : 0 ≤ 4 * a * (k / a / 4) := Int.mul_nonneg (by omega) (by omega)
      have q6 : 4 * a * (k / a / 4) ≤ k := by
        have h := Int.ediv_mul_le k (b := a) (by omega)
        have h2 : 4 * a * (k / a / 4) = (k / a / 4 * 4) * a := by
          rw [Int.mul_comm (k / a / 4 * 4) a, Int.mul_comm 4 a, Int.mul_assoc, Int.mul_comm 4]
        have h3 : (k / a / 4 * 4) * a ≤ k / a * a := Int.mul_le_mul_of_nonneg_right (by omega) (by omega)
        omega
      by_cases c2 : b - 4 * (k / a / 4) < 4
      · have m : min 4 (b - 4 * (k / a / 4)) = b - 4 * (k / a / 4) := by omega
        have e : refM a b k = ((k - 4 * a * (k / a / 4)) / (b - 4 * (k / a / 4)), 4 * (k / a / 4) + (k - 4 * a * (k / a / 4)) % (b - 4 * (k / a / 4))) := by unfold refM; rw [if_neg g', m]
        rw [e]; clear e m g g'
        have r1 := Int.emod_nonneg (k - 4 * a * (k / a / 4)) (b := b - 4 * (k / a / 4)) (by omega)
        have r2 := Int.emod_lt_of_pos (k - 4 * a * (k / a / 4)) (b := b - 4 * (k / a / 4)) (by omega)
        go_enter Try.func10, Try.ntmps10
        go_wp2
        go_quiet (fail)
        go_wp2
        go_ret2
        exact ⟨rfl, _, rfl⟩
      · have m : min 4 (b - 4 * (k / a / 4)) = 4 := by omega
        have e : refM a b k = ((k - 4 * a * (k / a / 4)) / 4, 4 * (k / a / 4) + (k - 4 * a * (k / a / 4)) % 4) := by unfold refM; rw [if_neg g', m]
        rw [e]; clear e m g g'
        go_enter Try.func10, Try.ntmps10
        go_wp2
        go_quiet (fail)
        go_wp2
        go_ret2
        exact ⟨rfl, _, rfl⟩

theorem ref_any (a b k : Int) (ha : a ≤ 9223372036854775807) (hk : k ≤ 9223372036854775807) (hb : b ≤ 9223372036854775807) (w : World) :
    Calls Try.prog 10 #[.int .i64 a, .int .i64 b, .int .i64 k] w fun e w' => e = .returned (.tuple #[.int .i64 (atM a b k).1, .int .i64 (atM a b k).2]) ∧ ∃ n, w' = w.drewN n := by
  by_cases h : a < 1 ∨ b < 1 ∨ k < 0
  · exact ref_no a b k h w
  · exact ref_yes a b k hk hb ha (by omega) (by omega) (by omega) w

/-- 'within' answers some number within its bounds. -/
theorem within6e (a n : Int) (h1 : 1 ≤ n) (h2 : n ≤ 1000000) (w : World) :
    Calls Try.prog 8 #[.int .i64 a, .int .i64 n] w fun e w' => ∃ v : Int, 0 ≤ v ∧ v < n ∧ e = .returned (.int .i64 v) ∧ w = w' :=
  (within6 a n h1 h2 w).mono fun _ _ ⟨he, hw⟩ => ⟨a % n, Int.emod_nonneg a (by omega), Int.emod_lt_of_pos a (by omega), he, hw⟩

theorem known6 (w : World) : Calls Try.prog 7 #[] w fun e w' => e = .returned (.bool true) ∧ ∃ n, w' = w.drewN n := by
  have e1 : (atM 3 5 4).1 = 1 ∧ (atM 3 5 4).2 = 0 := by decide
  have e2 : (atM 3 5 12).1 = 0 ∧ (atM 3 5 12).2 = 4 := by decide
  go_enter Try.func7, Try.ntmps7
  go_wp2_with fail
  refine (at_any _ _ _ (by omega) (by omega) _).mono ?_
  rintro e w' ⟨rfl, n, rfl⟩
  rw [e1.1, e1.2]
  go_wp2_with fail
  refine (at_any _ _ _ (by omega) (by omega) _).mono ?_
  rintro e w' ⟨rfl, n', rfl⟩
  rw [e2.1, e2.2]
  go_wp2
  go_ret
  exact ⟨rfl, _, rfl⟩
end Go.Proofs.Ytmghnfblmoibhaa
