/- PLAIN LAW: the blocks of a precinct's part, in their order. -/
import Derived.Test.YtmieoifagnpbiaaMadeLaw
import Derived.Test.YtmieoifagnpbiaaBlk12
namespace Go.Proofs.Ytmieoifagnpbiaa
open Go.RowKit
set_option linter.unusedVariables false
set_option linter.unusedSimpArgs false
set_option maxHeartbeats 1000000

theorem blkR_lo (a : Rc) (w h : Nat) (c : Nat × Nat) : blkR a w h c = ⟨loI a.x0 w c.1, loI a.y0 h c.2, hiI a.x0 a.x1 w c.1, hiI a.y0 a.y1 h c.2⟩ := rfl
/-- a nonempty rectangle within 1024 -/
def fullR (a : Rc) : Prop := 0 ≤ a.x0 ∧ a.x0 < a.x1 ∧ a.x1 ≤ 1024 ∧ 0 ≤ a.y0 ∧ a.y0 < a.y1 ∧ a.y1 ≤ 1024
theorem sub_one_mod {i W : Nat} (hW : 0 < W) (h : 0 < i % W) : (i - 1) % W = i % W - 1 ∧ (i - 1) / W = i / W := by
  have e := Nat.div_add_mod i W
  have l := Nat.mod_lt i hW
  generalize i / W = a at *
  generalize i % W = b at *
  have e2 : i - 1 = W * a + (b - 1) := by omega
  rw [e2]
  constructor
  · rw [Nat.mul_add_mod, Nat.mod_eq_of_lt (by omega)]
  · rw [Nat.mul_add_div hW, Nat.div_eq_of_lt (by omega), Nat.add_zero]
theorem blk_law {a : Rc} {w h W i : Nat} (hf : fullR a) (hw : w ≤ 15) (hh : h ≤ 15) (hW : bW a w = W) (hi : i < W * bH a h) :
    let R := blkR a w h (gridAt W i)
    0 ≤ R.x0 ∧ R.x0 < R.x1 ∧ R.x1 ≤ 1024 ∧ 0 ≤ R.y0 ∧ R.y0 < R.y1 ∧ R.y1 ≤ 1024 ∧ R.x0 / 2 ^ w = (R.x1 - 1) / 2 ^ w ∧ R.y0 / 2 ^ h = (R.y1 - 1) / 2 ^ h ∧
    (0 < i % W → R.x0 = (blkR a w h (gridAt W (i - 1))).x1 ∧ R.y0 = (blkR a w h (gridAt W (i - 1))).y0) ∧
    (W ≤ i → R.y0 = (blkR a w h (gridAt W (i - W))).y1) := by
  obtain ⟨f1, f2, f3, f4, f5, f6⟩ := hf
  have hW0 : 0 < W := by
    rcases Nat.eq_zero_or_pos W with h0 | h0
    · subst h0; simp at hi
    · exact h0
  have hc := Nat.mod_lt i hW0
  have hr : i / W < bH a h := by rw [Nat.div_lt_iff_lt_mul hW0, Nat.mul_comm]; exact hi
  have cx : ∀ m : Nat, m < W → (m : Int) < ceI a.x1 w - flI a.x0 w := fun m hm => by unfold bW at hW; omega
  have cy : ∀ m : Nat, m < bH a h → (m : Int) < ceI a.y1 h - flI a.y0 h := fun m hm => by unfold bH at hm; omega
  have bx := block_way (c := ((i % W : Nat) : Int)) hw f1 f2 f3 (Int.natCast_nonneg _) (cx _ hc)
  have b_y := block_way (c := ((i / W : Nat) : Int)) hh f4 f5 f6 (Int.natCast_nonneg _) (cy _ hr)
  obtain ⟨x1, x2, x3, x4, x5, x6, x7⟩ := bx
  obtain ⟨y1, y2, y3, y4, y5, y6, y7⟩ := b_y
  simp only [blkR_lo, gridAt]
  refine ⟨x1, x2, Int.le_trans x3 f3, y1, y2, Int.le_trans y3 f6, by rw [x5, x6], by rw [y5, y6], fun hp => ?_, fun hp => ?_⟩
  · obtain ⟨m1, m2⟩ := sub_one_mod hW0 hp
    rw [m1, m2]
    refine ⟨?_, rfl⟩
    generalize i % W = m at *
    have := x7 (by omega)
    rw [this]
    congr 1
    omega
  · have m1 : (i - W) % W = i % W := (Nat.mod_eq_sub_mod hp).symm
    have m2 : (i - W) / W = i / W - 1 := by
      have := Nat.add_div_right (i - W) hW0
      rw [Nat.sub_add_cancel hp] at this
      rw [this, Nat.add_sub_cancel]
    have m3 : 1 ≤ i / W := (Nat.le_div_iff_mul_le hW0).2 (by omega)
    rw [m2]
    generalize i / W = m at *
    have := y7 (by omega)
    rw [this]
    congr 1
    omega
end Go.Proofs.Ytmieoifagnpbiaa
