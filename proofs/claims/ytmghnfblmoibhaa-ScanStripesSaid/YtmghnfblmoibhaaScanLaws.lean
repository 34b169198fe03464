import Derived.Test.YtmghnfblmoibhaaScanWalk2
namespace Go.Proofs.Ytmghnfblmoibhaa
open Go.RowKit
set_option maxHeartbeats 400000

theorem scanAt_walk (a b k : Int) (ha : a ≤ 9223372036854775807) (hb : b ≤ 9223372036854775807) (hk : k ≤ 9223372036854775807) (w : World) :
    Calls Try.prog 3 #[.int .i64 a, .int .i64 b, .int .i64 k] w fun e w' => e = .returned (.bool true) ∧ ∃ n, w' = w.drewN n := by
  have b1 := Int.emod_nonneg a (b := 70) (by omega)
  have b2 := Int.emod_lt_of_pos a (b := 70) (by omega)
  have b3 := Int.emod_nonneg b (b := 70) (by omega)
  have b4 := Int.emod_lt_of_pos b (b := 70) (by omega)
  have b5 := Int.emod_nonneg k (b := 5000) (by omega)
  have b6 := Int.emod_lt_of_pos k (b := 5000) (by omega)
  go_enter Try.func3, Try.ntmps3
  go_wp2_with fail
  refine (known6 _).mono ?_
  rintro e w' ⟨rfl, n, rfl⟩
  go_wp2_with (first
    | (go_at_call 8; refine (within6 _ _ (by omega) (by omega) _).mono ?_; rintro e w' ⟨rfl, rfl⟩)
    | (go_at_call 9; refine (at_any _ _ _ (by omega) (by omega) _).mono ?_; rintro e w' ⟨rfl, n, rfl⟩)
    | (go_at_call 10; refine (ref_any _ _ _ (by omega) (by omega) (by omega) _).mono ?_; rintro e w' ⟨rfl, n, rfl⟩))
  go_ret
  exact ⟨rfl, _, rfl⟩

theorem scanStripes_walk (a b k : Int) (w : World) :
    Calls Try.prog 5 #[.int .i64 a, .int .i64 b, .int .i64 k] w fun e w' => e = .returned (.bool true) ∧ ∃ n, w' = w.drewN n := by
  go_enter Try.func5, Try.ntmps5
  go_wp2_with fail
  refine (known6 _).mono ?_
  rintro e w' ⟨rfl, n, rfl⟩
  go_wp2_with fail
  refine (within6e _ _ (by omega) (by omega) _).mono ?_
  rintro e w' ⟨W, hW0, hW1, rfl, rfl⟩
  go_wp2_with fail
  refine (within6e _ _ (by omega) (by omega) _).mono ?_
  rintro e w' ⟨H, hH0, hH1, rfl, rfl⟩
  go_wp2_with fail
  refine (within6e _ _ (by omega) (by omega) _).mono ?_
  rintro e w' ⟨S, hS0, hS1, rfl, rfl⟩
  have p1 : 0 ≤ 4 * (1 + W) * S := Int.mul_nonneg (by omega) (by omega)
  have p2 : 4 * (1 + W) * S ≤ 256 * 16 := Int.mul_le_mul (by omega) (by omega) (by omega) (by omega)
  have e0 : 4 * S * (1 + W) = 4 * (1 + W) * S := by rw [Int.mul_assoc, Int.mul_comm S, ← Int.mul_assoc]
  have e1 : atM (1 + W) (1 + H) (4 * (1 + W) * S) = (0, 4 * S) := by
    have := at_of (w := 1 + W) (h := 1 + H) (s := S) (x := 0) (t := 0) (by omega) (by omega) (by omega) (by omega) (by omega) (by omega)
    rw [Int.zero_mul, e0] at this
    simpa using this
  have e2 : atM (1 + W) (1 + H) (4 * (1 + W) * S + min 4 (1 + H - 4 * S) * (1 + W) - 1) = (1 + W - 1, 4 * S + min 4 (1 + H - 4 * S) - 1) := by
    have := at_of (w := 1 + W) (h := 1 + H) (s := S) (x := W) (t := min 4 (1 + H - 4 * S) - 1) (by omega) (by omega) (by omega) (by omega) (by omega) (by omega)
    rw [e0] at this
    have e3 : min 4 (1 + H - 4 * S) * (1 + W) = W * min 4 (1 + H - 4 * S) + min 4 (1 + H - 4 * S) := by
      rw [Int.mul_add, Int.mul_comm W]; omega
    have e4 : 4 * (1 + W) * S + min 4 (1 + H - 4 * S) * (1 + W) - 1 = 4 * (1 + W) * S + (W * min 4 (1 + H - 4 * S) + (min 4 (1 + H - 4 * S) - 1)) := by omega
    rw [e4, this]
    congr 1
    · omega
    · omega
  have E1 := Lib.hid e1
  have E2 := Lib.hid e2
  clear e0 e1 e2
  by_cases c : 1 + H - 4 * S < 4
  · have p3 : 0 ≤ (1 + H - 4 * S) * (1 + W) := Int.mul_nonneg (by omega) (by omega)
    have p4 : (1 + H - 4 * S) * (1 + W) ≤ 4 * 64 := Int.mul_le_mul (by omega) (by omega) (by omega) (by omega)
    have m : min 4 (1 + H - 4 * S) = 1 + H - 4 * S := by omega
    rw [m] at E2; clear m
    go_wp2_with fail
    refine (at_any _ _ _ (by omega) (by omega) _).mono ?_
    rintro e w' ⟨rfl, n, rfl⟩
    rw [E1.out]
    go_wp2_with fail
    refine (at_any _ _ _ (by omega) (by omega) _).mono ?_
    rintro e w' ⟨rfl, n, rfl⟩
    rw [E2.out]
    go_wp2
    go_ret
    exact ⟨rfl, _, rfl⟩
  · have p3 : 0 ≤ 4 * (1 + W) := Int.mul_nonneg (by omega) (by omega)
    have m : min 4 (1 + H - 4 * S) = 4 := by omega
    rw [m] at E2; clear m
    go_wp2_with fail
    refine (at_any _ _ _ (by omega) (by omega) _).mono ?_
    rintro e w' ⟨rfl, n, rfl⟩
    rw [E1.out]
    go_wp2_with fail
    refine (at_any _ _ _ (by omega) (by omega) _).mono ?_
    rintro e w' ⟨rfl, n, rfl⟩
    rw [E2.out]
    go_wp2
    go_ret
    exact ⟨rfl, _, rfl⟩

theorem scanNone_walk (a b k : Int) (hb : b ≤ 9223372036854775807) (hk : k ≤ 9223372036854775807) (w : World) :
    Calls Try.prog 6 #[.int .i64 a, .int .i64 b, .int .i64 k] w fun e w' => e = .returned (.bool true) ∧ ∃ n, w' = w.drewN n := by
  have key : ∀ v : Int, 0 ≤ v → v < 100 → atM 3 3 (9 + v) = (-1, -1) := fun v _ _ => at_beyond (by omega) (by omega) (by omega)
  have K := Lib.hid key
  clear key
  have tail : ∀ (b' : Int), (a < 1 ∨ b' < 1 ∨ k < 0) → Hid (atM a b' k = (-1, -1)) := fun b' h => Lib.hid (at_none h)
  by_cases c1 : 0 < a
  · by_cases c2 : 0 < b
    · have T := tail 0 (by omega)
      clear tail
      go_enter Try.func6, Try.ntmps6
      go_wp2_with fail
      refine (known6 _).mono ?_
      rintro e w' ⟨rfl, n, rfl⟩
      go_wp2_with fail
      refine (at_any _ _ _ (by omega) (by omega) _).mono ?_
      rintro e w' ⟨rfl, n, rfl⟩
      rw [T.out]
      go_wp2_with fail
      refine (within6e _ _ (by omega) (by omega) _).mono ?_
      rintro e w' ⟨V, hV0, hV1, rfl, rfl⟩
      go_wp2_with fail
      refine (at_any _ _ _ (by omega) (by omega) _).mono ?_
      rintro e w' ⟨rfl, n, rfl⟩
      rw [K.out V hV0 hV1]
      go_wp2
      go_ret
      exact ⟨rfl, _, rfl⟩
    · have T := tail b (by omega)
      clear tail
      go_enter Try.func6, Try.ntmps6
      go_wp2_with fail
      refine (known6 _).mono ?_
      rintro e w' ⟨rfl, n, rfl⟩
      go_wp2_with fail
      refine (at_any _ _ _ (by omega) (by omega) _).mono ?_
      rintro e w' ⟨rfl, n, rfl⟩
      rw [T.out]
      go_wp2_with fail
      refine (within6e _ _ (by omega) (by omega) _).mono ?_
      rintro e w' ⟨V, hV0, hV1, rfl, rfl⟩
      go_wp2_with fail
      refine (at_any _ _ _ (by omega) (by omega) _).mono ?_
      rintro e w' ⟨rfl, n, rfl⟩
      rw [K.out V hV0 hV1]
      go_wp2
      go_ret
      exact ⟨rfl, _, rfl⟩
  · have T := tail b (by omega)
    clear tail
    go_enter Try.func6, Try.ntmps6
    go_wp2_with fail
    refine (known6 _).mono ?_
    rintro e w' ⟨rfl, n, rfl⟩
    go_wp2_with fail
    refine (at_any _ _ _ (by omega) (by omega) _).mono ?_
    rintro e w' ⟨rfl, n, rfl⟩
    rw [T.out]
    go_wp2_with fail
    refine (within6e _ _ (by omega) (by omega) _).mono ?_
    rintro e w' ⟨V, hV0, hV1, rfl, rfl⟩
    go_wp2_with fail
    refine (at_any _ _ _ (by omega) (by omega) _).mono ?_
    rintro e w' ⟨rfl, n, rfl⟩
    rw [K.out V hV0 hV1]
    go_wp2
    go_ret
    exact ⟨rfl, _, rfl⟩
end Go.Proofs.Ytmghnfblmoibhaa
