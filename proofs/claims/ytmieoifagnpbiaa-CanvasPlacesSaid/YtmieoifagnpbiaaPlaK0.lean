/- LAWS for waveletref12.Blocks. -/
import Derived.Test.YtmieoifagnpbiaaPlaR
import Derived.Test.YtmieoifagnpbiaaBlk12
import Derived.Test.YtmieoifagnpbiaaRTiles
import Derived.Test.YtmieoifagnpbiaaLoad
import Derived.Test.YtmieoifagnpbiaaBlkLaw
import Derived.Deep.CutBlock
namespace Go.Proofs.Ytmieoifagnpbiaa
open Go.RowKit
set_option maxHeartbeats 4000000
set_option linter.unusedVariables false
set_option linter.unusedSimpArgs false
set_option maxRecDepth 100000

theorem pow_le15 {k m : Nat} (h : 2 ^ k = m) (hk : k ≤ 15) : 1 ≤ m ∧ m ≤ 32768 := by
  subst h
  exact ⟨Nat.one_le_two_pow, Nat.le_trans (Nat.pow_le_pow_right (by omega) hk) (by decide)⟩
theorem shl_nat {k m : Nat} (h : 2 ^ k = m) (hk : k ≤ 15) : wrap64 (2 ^ k) = (m : Int) := by
  have := pow_le15 h hk
  rw [show (2 : Int) ^ k = ((2 ^ k : Nat) : Int) by simp, h]; exact IntWalk.wrap64_in _ (by omega)
theorem mul_in {a b A B : Int} (ha : 0 ≤ a) (ha' : a ≤ A) (hb : 0 ≤ b) (hb' : b ≤ B) (hAB : A * B ≤ 9223372036854775807) : IntKind.i64.wrap (a * b) = a * b ∧ 0 ≤ a * b ∧ a * b ≤ A * B := by
  obtain ⟨h1, h2⟩ := mul_bd ha ha' hb hb'
  exact ⟨wr (by omega), h1, h2⟩

theorem part_mid {band res : Rc} {pr sd k : Nat} (hb : midR band) (hs : sd ≤ pr) (hp : pr ≤ 15) (hR : okR res) (hP : placeR res) : midR (partR band res pr sd k) := by
  unfold partR
  split
  · unfold midR; simp only; omega
  · rename_i hne
    have he := pre_pos hne
    have hpb := pre_bd (show pr ≤ 40 by omega) hR hP
    have eW : preW res pr = ceI res.x1 pr - flI res.x0 pr := by unfold preW; rw [he]; rfl
    have eH : preH res pr = ceI res.y1 pr - flI res.y0 pr := by unfold preH; rw [he]; rfl
    obtain ⟨W, hW⟩ : ∃ z, preW res pr = z := ⟨_, rfl⟩
    obtain ⟨H, hH⟩ : ∃ z, preH res pr = z := ⟨_, rfl⟩
    rw [hW, hH] at hne hpb
    rw [hW] at eW
    rw [hH] at eH
    rw [hW]
    have hWp : 0 < W := by
      rcases Int.lt_or_le 0 W with h | h
      · exact h
      · have : W = 0 := by omega
        subst this
        rw [Int.zero_mul] at hne
        omega
    have m0 := Int.emod_nonneg (k : Int) (show W ≠ 0 by omega)
    have m1 := Int.emod_lt_of_pos (k : Int) hWp
    have d0 : 0 ≤ (k : Int) / W := Int.ediv_nonneg (by omega) (by omega)
    have d1 : (k : Int) / W < H := Int.ediv_lt_of_lt_mul hWp (by rw [Int.mul_comm]; omega)
    obtain ⟨g0, g1, g2, g3⟩ := hP
    have f0 : 0 ≤ flI res.x0 pr := by unfold flI; exact Int.ediv_nonneg g0 (by rw [← pow_cast]; exact Int.natCast_nonneg _)
    have f1 : 0 ≤ flI res.y0 pr := by unfold flI; exact Int.ediv_nonneg g1 (by rw [← pow_cast]; exact Int.natCast_nonneg _)
    have li := (line_in (flI res.x0 pr + (k : Int) % W) res.x1 pr).2 (by omega)
    have lj := (line_in (flI res.y0 pr + (k : Int) / W) res.y1 pr).2 (by omega)
    have i0 : 0 ≤ flI res.x0 pr + (k : Int) % W := by omega
    have j0 : 0 ≤ flI res.y0 pr + (k : Int) / W := by omega
    generalize flI res.x0 pr + (k : Int) % W = i at *
    generalize flI res.y0 pr + (k : Int) / W = j at *
    have hd : (0 : Int) < 2 ^ sd ∧ (2 : Int) ^ sd ≤ 2 ^ pr := by
      rw [← pow_cast, ← pow_cast]
      have h1 : 2 ^ sd ≤ 2 ^ pr := Nat.pow_le_pow_right (by omega) hs
      have h2 := @Nat.one_le_two_pow sd
      omega
    have q0 : i * 2 ^ sd ≤ i * 2 ^ pr := Int.mul_le_mul_of_nonneg_left hd.2 i0
    have q1 : j * 2 ^ sd ≤ j * 2 ^ pr := Int.mul_le_mul_of_nonneg_left hd.2 j0
    have q2 : 0 ≤ i * 2 ^ sd := Int.mul_nonneg i0 (by omega)
    have q3 : 0 ≤ j * 2 ^ sd := Int.mul_nonneg j0 (by omega)
    have q4 : 0 ≤ (i + 1) * 2 ^ sd := Int.mul_nonneg (by omega) (by omega)
    have q5 : 0 ≤ (j + 1) * 2 ^ sd := Int.mul_nonneg (by omega) (by omega)
    obtain ⟨b0, b1, b2, b3⟩ := hb
    unfold midR bothR cutR mxI mnI
    simp only
    generalize i * 2 ^ sd = u0 at *
    generalize j * 2 ^ sd = u1 at *
    generalize (i + 1) * 2 ^ sd = u2 at *
    generalize (j + 1) * 2 ^ sd = u3 at *
    refine ⟨?_, ?_, ?_, ?_⟩ <;> split <;> omega

end Go.Proofs.Ytmieoifagnpbiaa
