/- CONTRACTS of canvas.within, by, ways. -/
import Derived.Test.YtpgkdpoehkdhcaaWithin12
import Derived.Test.YtpgkdpoehkdhcaaMem3
namespace Go.Proofs.Ytpgkdpoehkdhcaa
open Go.RowKit
set_option maxHeartbeats 8000000
set_option linter.unusedVariables false
set_option linter.unusedSimpArgs false

def inB (n l m : Int) : Bool := decide (l ≤ n) && decide (n ≤ m)
theorem inB_true {n l m : Int} : inB n l m = true ↔ l ≤ n ∧ n ≤ m := by unfold inB; simp
theorem inB_false {n l m : Int} : inB n l m = false ↔ ¬ (l ≤ n ∧ n ≤ m) := by unfold inB; simp

theorem in_any (n l m : Int) (w : World) :
    Calls Try.prog 39 #[.int .i64 n, .int .i64 l, .int .i64 m] w fun e w' => e = .returned (.bool (inB n l m)) ∧ w' = w := by
  by_cases h1 : l ≤ n
  · by_cases h2 : n ≤ m
    · have h3 : inB n l m = true := inB_true.2 ⟨h1, h2⟩
      rw [h3]
      go_enter Try.func39, Try.ntmps39
      go_wp2_with fail
      go_ret
      exact ⟨rfl, rfl⟩
    · have h3 : inB n l m = false := inB_false.2 (by omega)
      rw [h3]
      go_enter Try.func39, Try.ntmps39
      go_wp2_with fail
      go_ret
      exact ⟨rfl, rfl⟩
  · have h3 : inB n l m = false := inB_false.2 (by omega)
    rw [h3]
    go_enter Try.func39, Try.ntmps39
    go_wp2_with fail
    go_ret
    exact ⟨rfl, rfl⟩

/-- n by d, up -/
def byN (n d : Nat) : Nat := (n + d - 1) / d
theorem byN_rem {n d : Nat} (hd : 1 ≤ d) (h : 0 < n % d) : byN n d = n / d + 1 := by
  unfold byN
  have h1 := Nat.div_add_mod n d
  have h2 := Nat.mod_lt n (show d > 0 by omega)
  rw [show n + d - 1 = (n % d - 1) + d * (n / d + 1) by rw [Nat.mul_add, Nat.mul_one]; omega, Nat.add_mul_div_left _ _ (by omega), Nat.div_eq_of_lt (by omega), Nat.zero_add]
theorem byN_even {n d : Nat} (hd : 1 ≤ d) (h : n % d = 0) : byN n d = n / d := by
  unfold byN
  have h1 := Nat.div_add_mod n d
  rw [show n + d - 1 = (d - 1) + d * (n / d) by omega, Nat.add_mul_div_left _ _ (by omega), Nat.div_eq_of_lt (by omega), Nat.zero_add]
theorem byN_le {n d : Nat} (hd : 1 ≤ d) : byN n d ≤ n := by
  unfold byN
  rcases Nat.eq_zero_or_pos n with h | h
  · subst h; rw [Nat.zero_add, Nat.div_eq_of_lt (by omega)]; exact Nat.le_refl _
  · apply Nat.div_le_of_le_mul
    have : d * n = d * (n - 1) + d := by rw [show d * n = d * (n - 1 + 1) by rw [Nat.sub_add_cancel h], Nat.mul_add, Nat.mul_one]
    have h2 : n - 1 ≤ d * (n - 1) := Nat.le_mul_of_pos_left _ (by omega)
    omega

theorem by_any (n d : Nat) (hn : n ≤ 4611686018427387904) (hd : 1 ≤ d) (hd2 : d ≤ 4611686018427387904) (w : World) :
    Calls Try.prog 40 #[.int .i64 n, .int .i64 d] w fun e w' => e = .returned (.int .i64 (byN n d : Nat)) ∧ w' = w := by
  have e1 : (n : Int).tdiv d = ((n / d : Nat) : Int) := by simp [Int.ofNat_tdiv]
  have e2 : (n : Int).tmod d = ((n % d : Nat) : Int) := (Int.ofNat_tmod n d).symm
  have e3 : n / d ≤ n := Nat.div_le_self _ _
  have e4 : ¬ ((d : Int) < 1) := by omega
  have e5 : ((d : Int) = 0) = False := eq_false (by omega)
  rcases Nat.eq_zero_or_pos (n % d) with h | h
  · have hb := byN_even hd h
    have HB := Lib.hid hb
    clear hb
    generalize n / d = q at *
    generalize n % d = r at *
    go_enter Try.func40, Try.ntmps40
    go_wp2_with fail
    go_ret
    exact ⟨by rw [HB.out]; rfl, rfl⟩
  · have hb := byN_rem hd h
    have HB := Lib.hid hb
    clear hb
    generalize n / d = q at *
    generalize n % d = r at *
    go_enter Try.func40, Try.ntmps40
    go_wp2_with fail
    go_ret
    exact ⟨by rw [HB.out]; simp, rfl⟩

def parV (tx ty lv cw ch pr st od ly : Int) (rct sop eph : Bool) : Value := .agg #[.int .i64 tx, .int .i64 ty, .int .i64 lv, .int .i64 cw, .int .i64 ch, .int .i64 pr, .int .i64 st, .int .i64 od, .int .i64 ly, .bool rct, .bool sop, .bool eph]
def waysB (lv cw ch pr st od ly : Int) : Bool := inB lv 0 5 && (inB cw 2 6 && (inB ch 2 6 && (inB pr 1 15 && (inB st 0 63 && (inB od 0 4 && inB ly 1 8)))))

theorem ways_any (tx ty lv cw ch pr st od ly : Int) (rct sop eph : Bool) (w : World) :
    Calls Try.prog 41 #[parV tx ty lv cw ch pr st od ly rct sop eph] w fun e w' => e = .returned (.bool (waysB lv cw ch pr st od ly)) ∧ Below w.heap.size w w' := by
  unfold parV
  have W1 := fun v => in_any lv 0 5 v
  have W2 := fun v => in_any cw 2 6 v
  have W3 := fun v => in_any ch 2 6 v
  have W4 := fun v => in_any pr 1 15 v
  have W5 := fun v => in_any st 0 63 v
  have W6 := fun v => in_any od 0 4 v
  have W7 := fun v => in_any ly 1 8 v
  unfold waysB
  generalize inB lv 0 5 = b1 at *
  generalize inB cw 2 6 = b2 at *
  generalize inB ch 2 6 = b3 at *
  generalize inB pr 1 15 = b4 at *
  generalize inB st 0 63 = b5 at *
  generalize inB od 0 4 = b6 at *
  generalize inB ly 1 8 = b7 at *
  have hb := below_alloc (Below.refl w.heap.size w) (.cells #[.int .i64 tx, .int .i64 ty, .int .i64 lv, .int .i64 cw, .int .i64 ch, .int .i64 pr, .int .i64 st, .int .i64 od, .int .i64 ly, .bool rct, .bool sop, .bool eph] 30)
  have W1 := Lib.hid W1
  have W2 := Lib.hid W2
  have W3 := Lib.hid W3
  have W4 := Lib.hid W4
  have W5 := Lib.hid W5
  have W6 := Lib.hid W6
  have W7 := Lib.hid W7
  rcases b1 with _ | _
  · simp only [Bool.false_and, Bool.true_and]
    go_enter Try.func41, Try.ntmps41
    go_wp2_with (first | (go_at_call 39; first | ((with_reducible refine (W1.out _).mono ?_); rintro e w' ⟨rfl, rfl⟩; dsimp only) | ((with_reducible refine (W2.out _).mono ?_); rintro e w' ⟨rfl, rfl⟩; dsimp only) | ((with_reducible refine (W3.out _).mono ?_); rintro e w' ⟨rfl, rfl⟩; dsimp only) | ((with_reducible refine (W4.out _).mono ?_); rintro e w' ⟨rfl, rfl⟩; dsimp only) | ((with_reducible refine (W5.out _).mono ?_); rintro e w' ⟨rfl, rfl⟩; dsimp only) | ((with_reducible refine (W6.out _).mono ?_); rintro e w' ⟨rfl, rfl⟩; dsimp only) | ((with_reducible refine (W7.out _).mono ?_); rintro e w' ⟨rfl, rfl⟩; dsimp only) | fail))
    go_ret
    exact ⟨rfl, hb⟩
  rcases b2 with _ | _
  · simp only [Bool.false_and, Bool.true_and]
    go_enter Try.func41, Try.ntmps41
    go_wp2_with (first | (go_at_call 39; first | ((with_reducible refine (W1.out _).mono ?_); rintro e w' ⟨rfl, rfl⟩; dsimp only) | ((with_reducible refine (W2.out _).mono ?_); rintro e w' ⟨rfl, rfl⟩; dsimp only) | ((with_reducible refine (W3.out _).mono ?_); rintro e w' ⟨rfl, rfl⟩; dsimp only) | ((with_reducible refine (W4.out _).mono ?_); rintro e w' ⟨rfl, rfl⟩; dsimp only) | ((with_reducible refine (W5.out _).mono ?_); rintro e w' ⟨rfl, rfl⟩; dsimp only) | ((with_reducible refine (W6.out _).mono ?_); rintro e w' ⟨rfl, rfl⟩; dsimp only) | ((with_reducible refine (W7.out _).mono ?_); rintro e w' ⟨rfl, rfl⟩; dsimp only) | fail))
    go_ret
    exact ⟨rfl, hb⟩
  rcases b3 with _ | _
  · simp only [Bool.false_and, Bool.true_and]
    go_enter Try.func41, Try.ntmps41
    go_wp2_with (first | (go_at_call 39; first | ((with_reducible refine (W1.out _).mono ?_); rintro e w' ⟨rfl, rfl⟩; dsimp only) | ((with_reducible refine (W2.out _).mono ?_); rintro e w' ⟨rfl, rfl⟩; dsimp only) | ((with_reducible refine (W3.out _).mono ?_); rintro e w' ⟨rfl, rfl⟩; dsimp only) | ((with_reducible refine (W4.out _).mono ?_); rintro e w' ⟨rfl, rfl⟩; dsimp only) | ((with_reducible refine (W5.out _).mono ?_); rintro e w' ⟨rfl, rfl⟩; dsimp only) | ((with_reducible refine (W6.out _).mono ?_); rintro e w' ⟨rfl, rfl⟩; dsimp only) | ((with_reducible refine (W7.out _).mono ?_); rintro e w' ⟨rfl, rfl⟩; dsimp only) | fail))
    go_ret
    exact ⟨rfl, hb⟩
  rcases b4 with _ | _
  · simp only [Bool.false_and, Bool.true_and]
    go_enter Try.func41, Try.ntmps41
    go_wp2_with (first | (go_at_call 39; first | ((with_reducible refine (W1.out _).mono ?_); rintro e w' ⟨rfl, rfl⟩; dsimp only) | ((with_reducible refine (W2.out _).mono ?_); rintro e w' ⟨rfl, rfl⟩; dsimp only) | ((with_reducible refine (W3.out _).mono ?_); rintro e w' ⟨rfl, rfl⟩; dsimp only) | ((with_reducible refine (W4.out _).mono ?_); rintro e w' ⟨rfl, rfl⟩; dsimp only) | ((with_reducible refine (W5.out _).mono ?_); rintro e w' ⟨rfl, rfl⟩; dsimp only) | ((with_reducible refine (W6.out _).mono ?_); rintro e w' ⟨rfl, rfl⟩; dsimp only) | ((with_reducible refine (W7.out _).mono ?_); rintro e w' ⟨rfl, rfl⟩; dsimp only) | fail))
    go_ret
    exact ⟨rfl, hb⟩
  rcases b5 with _ | _
  · simp only [Bool.false_and, Bool.true_and]
    go_enter Try.func41, Try.ntmps41
    go_wp2_with (first | (go_at_call 39; first | ((with_reducible refine (W1.out _).mono ?_); rintro e w' ⟨rfl, rfl⟩; dsimp only) | ((with_reducible refine (W2.out _).mono ?_); rintro e w' ⟨rfl, rfl⟩; dsimp only) | ((with_reducible refine (W3.out _).mono ?_); rintro e w' ⟨rfl, rfl⟩; dsimp only) | ((with_reducible refine (W4.out _).mono ?_); rintro e w' ⟨rfl, rfl⟩; dsimp only) | ((with_reducible refine (W5.out _).mono ?_); rintro e w' ⟨rfl, rfl⟩; dsimp only) | ((with_reducible refine (W6.out _).mono ?_); rintro e w' ⟨rfl, rfl⟩; dsimp only) | ((with_reducible refine (W7.out _).mono ?_); rintro e w' ⟨rfl, rfl⟩; dsimp only) | fail))
    go_ret
    exact ⟨rfl, hb⟩
  rcases b6 with _ | _
  · simp only [Bool.false_and, Bool.true_and]
    go_enter Try.func41, Try.ntmps41
    go_wp2_with (first | (go_at_call 39; first | ((with_reducible refine (W1.out _).mono ?_); rintro e w' ⟨rfl, rfl⟩; dsimp only) | ((with_reducible refine (W2.out _).mono ?_); rintro e w' ⟨rfl, rfl⟩; dsimp only) | ((with_reducible refine (W3.out _).mono ?_); rintro e w' ⟨rfl, rfl⟩; dsimp only) | ((with_reducible refine (W4.out _).mono ?_); rintro e w' ⟨rfl, rfl⟩; dsimp only) | ((with_reducible refine (W5.out _).mono ?_); rintro e w' ⟨rfl, rfl⟩; dsimp only) | ((with_reducible refine (W6.out _).mono ?_); rintro e w' ⟨rfl, rfl⟩; dsimp only) | ((with_reducible refine (W7.out _).mono ?_); rintro e w' ⟨rfl, rfl⟩; dsimp only) | fail))
    go_ret
    exact ⟨rfl, hb⟩
  rcases b7 with _ | _
  · simp only [Bool.false_and, Bool.true_and]
    go_enter Try.func41, Try.ntmps41
    go_wp2_with (first | (go_at_call 39; first | ((with_reducible refine (W1.out _).mono ?_); rintro e w' ⟨rfl, rfl⟩; dsimp only) | ((with_reducible refine (W2.out _).mono ?_); rintro e w' ⟨rfl, rfl⟩; dsimp only) | ((with_reducible refine (W3.out _).mono ?_); rintro e w' ⟨rfl, rfl⟩; dsimp only) | ((with_reducible refine (W4.out _).mono ?_); rintro e w' ⟨rfl, rfl⟩; dsimp only) | ((with_reducible refine (W5.out _).mono ?_); rintro e w' ⟨rfl, rfl⟩; dsimp only) | ((with_reducible refine (W6.out _).mono ?_); rintro e w' ⟨rfl, rfl⟩; dsimp only) | ((with_reducible refine (W7.out _).mono ?_); rintro e w' ⟨rfl, rfl⟩; dsimp only) | fail))
    go_ret
    exact ⟨rfl, hb⟩
  simp only [Bool.false_and, Bool.true_and]
  go_enter Try.func41, Try.ntmps41
  go_wp2_with (first | (go_at_call 39; first | ((with_reducible refine (W1.out _).mono ?_); rintro e w' ⟨rfl, rfl⟩; dsimp only) | ((with_reducible refine (W2.out _).mono ?_); rintro e w' ⟨rfl, rfl⟩; dsimp only) | ((with_reducible refine (W3.out _).mono ?_); rintro e w' ⟨rfl, rfl⟩; dsimp only) | ((with_reducible refine (W4.out _).mono ?_); rintro e w' ⟨rfl, rfl⟩; dsimp only) | ((with_reducible refine (W5.out _).mono ?_); rintro e w' ⟨rfl, rfl⟩; dsimp only) | ((with_reducible refine (W6.out _).mono ?_); rintro e w' ⟨rfl, rfl⟩; dsimp only) | ((with_reducible refine (W7.out _).mono ?_); rintro e w' ⟨rfl, rfl⟩; dsimp only) | fail))
  go_ret
  exact ⟨rfl, hb⟩
end Go.Proofs.Ytpgkdpoehkdhcaa
