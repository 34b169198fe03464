/- CONTRACT of canvas.part. -/
import Derived.Test.YtpgkdpoehkdhcaaBands12
namespace Go.Proofs.Ytpgkdpoehkdhcaa
open Go.RowKit
set_option maxHeartbeats 4000000
set_option linter.unusedVariables false
set_option linter.unusedSimpArgs false
set_option maxRecDepth 100000

/-- a precinct's part of a band -/
def cutR (x y : Int) (sd : Nat) : Rc := ⟨x * 2 ^ sd, y * 2 ^ sd, (x + 1) * 2 ^ sd, (y + 1) * 2 ^ sd⟩
def partR (band res : Rc) (pr sd k : Nat) : Rc :=
  if preW res pr * preH res pr ≤ k then ⟨0, 0, 0, 0⟩ else bothR band (cutR (flI res.x0 pr + (k : Int) % preW res pr) (flI res.y0 pr + (k : Int) / preW res pr) sd)
theorem mul_bd {a b A B : Int} (h1 : 0 ≤ a) (h2 : a ≤ A) (h3 : 0 ≤ b) (h4 : b ≤ B) : 0 ≤ a * b ∧ a * b ≤ A * B := ⟨Int.mul_nonneg h1 h3, Int.mul_le_mul h2 h4 h3 (Int.le_trans h1 h2)⟩
theorem pow_bd15 {k : Nat} (hk : k ≤ 15) : (1 : Int) ≤ 2 ^ k ∧ (2 : Int) ^ k ≤ 32768 := by
  have h1 : 1 ≤ 2 ^ k := Nat.one_le_two_pow
  have h2 : 2 ^ k ≤ 2 ^ 15 := Nat.pow_le_pow_right (by omega) hk
  have h3 : (2 : Int) ^ k = ((2 ^ k : Nat) : Int) := by simp
  rw [h3]
  generalize 2 ^ k = d at *
  omega
theorem flI_nn {a : Int} {k : Nat} (h0 : 0 ≤ a) (h1 : a ≤ 1048576) (hk : k ≤ 40) : 0 ≤ flI a k ∧ flI a k ≤ 1048576 := by
  obtain ⟨p1, p2⟩ := pow_bd hk
  unfold flI
  generalize (2 : Int) ^ k = d at *
  refine ⟨Int.ediv_nonneg h0 (by omega), ?_⟩
  apply Int.le_of_lt_add_one
  apply Int.ediv_lt_of_lt_mul (by omega)
  have h4 : (1048576 + 1) * 1 ≤ (1048576 + 1) * d := Int.mul_le_mul_of_nonneg_left p1 (by omega)
  omega
theorem pre_bd {R : Rc} {pr : Nat} (hp : pr ≤ 40) (hR : okR R) (hP : placeR R) : 0 ≤ preW R pr ∧ preW R pr ≤ 1048576 ∧ 0 ≤ preH R pr ∧ preH R pr ≤ 1048576 := by
  obtain ⟨x0, y0, x1, y1⟩ := R
  obtain ⟨h0, h1, h2, h3⟩ := hR
  obtain ⟨g0, g1, g2, g3⟩ := hP
  simp only at h0 h1 h2 h3 g0 g1 g2 g3
  unfold preW preH
  rcases he : emptyB ⟨x0, y0, x1, y1⟩ with _ | _
  · simp only [Bool.false_eq_true, if_false]
    unfold emptyB at he
    simp only [Bool.or_eq_false_iff, decide_eq_false_iff_not] at he
    obtain ⟨p1, p2⟩ := pow_bd hp
    unfold ceI flI
    generalize (2 : Int) ^ pr = d at *
    have k : ∀ a b : Int, 0 ≤ a → a < b → b ≤ 1048576 → 0 ≤ (b + d - 1) / d - a / d ∧ (b + d - 1) / d - a / d ≤ 1048576 := fun a b ha hab hb => by
      have k1 : a / d ≤ (b + d - 1) / d := Int.ediv_le_ediv (by omega) (by omega)
      have k2 : 0 ≤ a / d := Int.ediv_nonneg ha (by omega)
      have k3 : (b + d - 1) / d ≤ b := by
        apply Int.le_of_lt_add_one
        apply Int.ediv_lt_of_lt_mul (by omega)
        have : (b + 1) * d = b * d + d := by rw [Int.add_mul, Int.one_mul]
        have h4 : b * 1 ≤ b * d := Int.mul_le_mul_of_nonneg_left p1 (by omega)
        omega
      omega
    have a1 := k x0 x1 g0 (by omega) g2
    have a2 := k y0 y1 g1 (by omega) g3
    omega
  · simp
theorem pre_pos {R : Rc} {pr k : Nat} (h : ¬ preW R pr * preH R pr ≤ k) : emptyB R = false := by
  rcases he : emptyB R with _ | _
  · rfl
  · unfold preW preH at h; rw [he] at h; simp at h
end Go.Proofs.Ytpgkdpoehkdhcaa
