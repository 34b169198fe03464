/- LAW: the document's way of cutting by powers of two is the program's. -/
import Derived.Test.YtpgkdpoehkdhcaaBands12
import Derived.Test.YtpgkdpoehkdhcaaRef12b
namespace Go.Proofs.Ytpgkdpoehkdhcaa
open Go.RowKit
set_option maxHeartbeats 1000000
set_option linter.unusedVariables false
set_option linter.unusedSimpArgs false

theorem pow_cast (k : Nat) : ((2 ^ k : Nat) : Int) = (2 : Int) ^ k := by simp
theorem clI_any {a : Int} {b : Nat} (hb : 1 ≤ b) : (a + b - 1) / (b : Int) = clI a b := by
  unfold clI
  have hb' : (0 : Int) < b := by omega
  have h1 : (a + b - 1) / (b : Int) = (a - 1) / b + 1 := by
    rw [show a + (b : Int) - 1 = (a - 1) + b * 1 by omega, Int.add_mul_ediv_left _ _ (by omega)]
  rw [h1]
  have e1 := Int.mul_ediv_add_emod (a - 1) b
  have e2 := Int.emod_nonneg (a - 1) (show (b : Int) ≠ 0 by omega)
  have e3 := Int.emod_lt_of_pos (a - 1) hb'
  have f1 := Int.mul_ediv_add_emod (-a) b
  have f2 := Int.emod_nonneg (-a) (show (b : Int) ≠ 0 by omega)
  have f3 := Int.emod_lt_of_pos (-a) hb'
  generalize (a - 1) / (b : Int) = x at *
  generalize (a - 1) % (b : Int) = r at *
  generalize (-a) / (b : Int) = y at *
  generalize (-a) % (b : Int) = s at *
  have h2 : (b : Int) * (x + y + 1) = b - 1 - r - s := by rw [Int.mul_add, Int.mul_add, Int.mul_one]; omega
  have h3 : x + y + 1 < 1 := by
    rcases Int.lt_or_le (x + y + 1) 1 with h | h
    · exact h
    · have := Int.mul_le_mul_of_nonneg_left h (Int.le_of_lt hb'); omega
  have h4 : -1 < x + y + 1 := by
    rcases Int.lt_or_le (-1) (x + y + 1) with h | h
    · exact h
    · have := Int.mul_le_mul_of_nonneg_left h (Int.le_of_lt hb'); omega
  omega
theorem clI_ce (a : Int) (k : Nat) : clI a (2 ^ k) = ceI a k := by
  rw [← clI_any (a := a) (b := 2 ^ k) Nat.one_le_two_pow]
  unfold ceI
  rw [pow_cast]
theorem clI_hf (x : Int) (n : Nat) (odd : Bool) : clI (x - (if odd then ((2 ^ (n - 1) : Nat) : Int) else 0)) (2 ^ n) = hfI x n odd := by
  unfold hfI
  exact clI_ce _ _
theorem area0 (r : Rc) : areaR r = 0 ↔ emptyB r = true := by
  unfold areaR emptyB
  rw [Nat.mul_eq_zero]
  simp only [Bool.or_eq_true, decide_eq_true_eq]
  omega
theorem line_in (b a : Int) (k : Nat) : b * 2 ^ k < a ↔ b < ceI a k := by
  unfold ceI
  have hp : (0 : Int) < 2 ^ k := by rw [← pow_cast]; have := @Nat.one_le_two_pow k; omega
  generalize (2 : Int) ^ k = d at *
  constructor
  · intro h
    have : b + 1 ≤ (a + d - 1) / d := by
      rw [Int.le_ediv_iff_mul_le hp, Int.add_mul, Int.one_mul]; omega
    omega
  · intro h
    have h1 : b + 1 ≤ (a + d - 1) / d := by omega
    rw [Int.le_ediv_iff_mul_le hp, Int.add_mul, Int.one_mul] at h1
    omega
end Go.Proofs.Ytpgkdpoehkdhcaa
