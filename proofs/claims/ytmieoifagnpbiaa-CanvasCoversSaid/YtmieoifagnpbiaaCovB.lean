/- LAWS for CanvasCovers: each place of a band lies in one block of one precinct; the bands' areas add up; the tiles' areas add up. -/
import Derived.Test.YtmieoifagnpbiaaCovA
namespace Go.Proofs.Ytmieoifagnpbiaa
open Go.RowKit
set_option maxHeartbeats 1000000
set_option linter.unusedVariables false
set_option linter.unusedSimpArgs false

theorem pow_pos_i (k : Nat) : (0 : Int) < 2 ^ k := by
  rw [← pow_cast]; have := @Nat.one_le_two_pow k; omega
/-- x lies in cell c of the grid of 2^k -/
theorem cell_iff (x c : Int) (k : Nat) : c * 2 ^ k ≤ x ∧ x < (c + 1) * 2 ^ k ↔ flI x k = c := by
  unfold flI
  have hp := pow_pos_i k
  generalize (2 : Int) ^ k = d at *
  constructor
  · rintro ⟨h1, h2⟩
    have a1 : c ≤ x / d := (Int.le_ediv_iff_mul_le hp).2 h1
    have a2 : x / d < c + 1 := Int.ediv_lt_of_lt_mul hp h2
    omega
  · rintro rfl
    exact ⟨Int.ediv_mul_le x (by omega), Int.lt_ediv_add_one_mul_self x hp⟩
theorem fl_mono {a b : Int} (k : Nat) (h : a ≤ b) : flI a k ≤ flI b k := by
  unfold flI
  exact Int.ediv_le_ediv (pow_pos_i k) h
theorem fl_lt_ce {a b : Int} (k : Nat) (h : a < b) : flI a k < ceI b k := by
  have h1 := ((cell_iff a (flI a k) k).2 rfl).1
  exact (line_in (flI a k) b k).1 (Int.lt_of_le_of_lt h1 h)

theorem inR_both (a b : Rc) (x y : Int) : inR (bothR a b) x y ↔ inR a x y ∧ inR b x y := by
  unfold inR bothR mxI mnI
  simp only
  constructor
  · intro h
    refine ⟨⟨?_, ?_, ?_, ?_⟩, ?_, ?_, ?_, ?_⟩ <;> (obtain ⟨h1, h2, h3, h4⟩ := h; split at h1 <;> split at h2 <;> split at h3 <;> split at h4 <;> omega)
  · rintro ⟨⟨h1, h2, h3, h4⟩, h5, h6, h7, h8⟩
    refine ⟨?_, ?_, ?_, ?_⟩ <;> split <;> omega
theorem inR_empty {a : Rc} {x y : Int} (h : inR a x y) : emptyB a = false := by
  unfold inR at h
  unfold emptyB
  simp only [Bool.or_eq_false_iff, decide_eq_false_iff_not]
  omega
theorem inR_cut (i j : Int) (k : Nat) (x y : Int) : inR (cutR i j k) x y ↔ flI x k = i ∧ flI y k = j := by
  rw [← cell_iff, ← cell_iff]
  unfold inR cutR
  simp only
  constructor
  · rintro ⟨h1, h2, h3, h4⟩; exact ⟨⟨h1, h2⟩, h3, h4⟩
  · rintro ⟨⟨h1, h2⟩, h3, h4⟩; exact ⟨h1, h2, h3, h4⟩
/-- a block of a part: which places lie in it -/
theorem inR_blk (a : Rc) (w h : Nat) (c : Nat × Nat) (x y : Int) : inR (blkR a w h c) x y ↔ inR a x y ∧ flI x w = (c.1 : Int) + flI a.x0 w ∧ flI y h = (c.2 : Int) + flI a.y0 h := by
  unfold blkR
  rw [inR_both, ← cell_iff, ← cell_iff]
  unfold inR
  simp only
  constructor
  · rintro ⟨h0, h1, h2, h3, h4⟩; exact ⟨h0, ⟨h1, h2⟩, h3, h4⟩
  · rintro ⟨h0, ⟨h1, h2⟩, h3, h4⟩; exact ⟨h0, h1, h2, h3, h4⟩
theorem grid_num {W H i j : Nat} (hi : i < W) (hj : j < H) : j * W + i < W * H ∧ gridAt W (j * W + i) = (i, j) := by
  refine ⟨?_, gridAt_at hi⟩
  have : (j + 1) * W ≤ H * W := Nat.mul_le_mul_right _ hj
  rw [Nat.add_mul, Nat.one_mul] at this
  rw [Nat.mul_comm W H]; omega
theorem grid_back {W i : Nat} : (gridAt W i).2 * W + (gridAt W i).1 = i := by
  unfold gridAt
  simp only
  rw [Nat.mul_comm, Nat.div_add_mod]

/-- how many blocks, and which block, of which precinct: of a band, of a resolution -/
def kkB (res : Rc) (pr sd W : Nat) (x y : Int) : Nat := (flI y sd - flI res.y0 pr).toNat * W + (flI x sd - flI res.x0 pr).toNat
def iiB (a : Rc) (w h : Nat) (x y : Int) : Nat := (flI y h - flI a.y0 h).toNat * (blksW a w) + (flI x w - flI a.x0 w).toNat
/-- what a band needs of its resolution: each place of it lies below a place of the resolution -/
def ofRes (band res : Rc) (pr sd : Nat) : Prop := ∀ x y, inR band x y → (∃ u, res.x0 ≤ u ∧ u < res.x1 ∧ flI x sd = flI u pr) ∧ (∃ v, res.y0 ≤ v ∧ v < res.y1 ∧ flI y sd = flI v pr)

theorem in_part {band res : Rc} {pr sd k PW PH : Nat} (hW : preW res pr = PW) (hH : preH res pr = PH) (hk : k < PW * PH) (x y : Int) :
    inR (partR band res pr sd k) x y ↔ inR band x y ∧ flI x sd = flI res.x0 pr + ((k % PW : Nat) : Int) ∧ flI y sd = flI res.y0 pr + ((k / PW : Nat) : Int) := by
  unfold partR
  rw [hW, hH, if_neg (by rw [← Int.natCast_mul]; omega), inR_both, inR_cut]
  rfl
theorem blk_a {band res : Rc} {pr sd k i w h PW PH : Nat} (hW : preW res pr = PW) (hH : preH res pr = PH) (hk : k < PW * PH) {x y : Int}
    (hin : inR (blkR (partR band res pr sd k) w h (gridAt (blksW (partR band res pr sd k) w) i)) x y) :
    inR band x y ∧ kkB res pr sd PW x y = k ∧ iiB (partR band res pr sd k) w h x y = i := by
  rw [inR_blk] at hin
  obtain ⟨h1, h2, h3⟩ := hin
  have h1' := (in_part hW hH hk x y).1 h1
  obtain ⟨b1, b2, b3⟩ := h1'
  refine ⟨b1, ?_, ?_⟩
  · unfold kkB
    rw [b2, b3, show flI res.y0 pr + ((k / PW : Nat) : Int) - flI res.y0 pr = ((k / PW : Nat) : Int) by omega, show flI res.x0 pr + ((k % PW : Nat) : Int) - flI res.x0 pr = ((k % PW : Nat) : Int) by omega]
    rw [Int.toNat_natCast, Int.toNat_natCast, Nat.mul_comm, Nat.div_add_mod]
  · unfold iiB
    rw [h2, h3, Int.add_sub_cancel, Int.add_sub_cancel, Int.toNat_natCast, Int.toNat_natCast]
    exact grid_back
theorem blk_b {band res : Rc} {pr sd w h PW PH : Nat} (hW : preW res pr = PW) (hH : preH res pr = PH) (ho : ofRes band res pr sd) {x y : Int} (hin : inR band x y) :
    kkB res pr sd PW x y < PW * PH ∧ iiB (partR band res pr sd (kkB res pr sd PW x y)) w h x y < blksN (partR band res pr sd (kkB res pr sd PW x y)) w h ∧
      inR (blkR (partR band res pr sd (kkB res pr sd PW x y)) w h (gridAt (blksW (partR band res pr sd (kkB res pr sd PW x y)) w) (iiB (partR band res pr sd (kkB res pr sd PW x y)) w h x y))) x y := by
  obtain ⟨⟨u, u1, u2, u3⟩, v, v1, v2, v3⟩ := ho x y hin
  have he : emptyB res = false := by
    unfold emptyB; simp only [Bool.or_eq_false_iff, decide_eq_false_iff_not]; omega
  have eW : ((PW : Nat) : Int) = ceI res.x1 pr - flI res.x0 pr := by rw [← hW]; unfold preW; rw [he]; rfl
  have eH : ((PH : Nat) : Int) = ceI res.y1 pr - flI res.y0 pr := by rw [← hH]; unfold preH; rw [he]; rfl
  have a1 := fl_mono pr u1
  have a2 := fl_lt_ce pr u2
  have a3 := fl_mono pr v1
  have a4 := fl_lt_ce pr v2
  rw [← u3] at a1 a2
  rw [← v3] at a3 a4
  obtain ⟨ki, hki⟩ := Int.eq_ofNat_of_zero_le (show 0 ≤ flI x sd - flI res.x0 pr by omega)
  obtain ⟨kj, hkj⟩ := Int.eq_ofNat_of_zero_le (show 0 ≤ flI y sd - flI res.y0 pr by omega)
  have ekk : kkB res pr sd PW x y = kj * PW + ki := by unfold kkB; rw [hki, hkj, Int.toNat_natCast, Int.toNat_natCast]
  have hki2 : ki < PW := by omega
  have hkj2 : kj < PH := by omega
  obtain ⟨g1, g2⟩ := grid_num hki2 hkj2
  rw [ekk]
  have hgm : (kj * PW + ki) % PW = ki := by have := congrArg Prod.fst g2; simpa [gridAt] using this
  have hgd : (kj * PW + ki) / PW = kj := by have := congrArg Prod.snd g2; simpa [gridAt] using this
  have hpt : inR (partR band res pr sd (kj * PW + ki)) x y := (in_part hW hH g1 x y).2 ⟨hin, by rw [hgm]; omega, by rw [hgd]; omega⟩
  refine ⟨g1, ?_⟩
  generalize partR band res pr sd (kj * PW + ki) = a at *
  have hae := inR_empty hpt
  obtain ⟨p1, p2, p3, p4⟩ := hpt
  have b1 := fl_mono w p1
  have b2 := fl_lt_ce w p2
  have b3 := fl_mono h p3
  have b4 := fl_lt_ce h p4
  obtain ⟨ci, hci⟩ := Int.eq_ofNat_of_zero_le (show 0 ≤ flI x w - flI a.x0 w by omega)
  obtain ⟨cj, hcj⟩ := Int.eq_ofNat_of_zero_le (show 0 ≤ flI y h - flI a.y0 h by omega)
  have eWd : blksW a w = bW a w := by unfold blksW; rw [hae]; rfl
  have eN : blksN a w h = bW a w * bH a h := by unfold blksN; rw [hae]; rfl
  have hc1 : ci < bW a w := by unfold bW; omega
  have hc2 : cj < bH a h := by unfold bH; omega
  obtain ⟨q1, q2⟩ := grid_num hc1 hc2
  have eii : iiB a w h x y = cj * bW a w + ci := by unfold iiB; rw [hci, hcj, Int.toNat_natCast, Int.toNat_natCast, eWd]
  rw [eii, eN, eWd, q2]
  refine ⟨q1, ?_⟩
  rw [inR_blk]
  exact ⟨⟨p1, p2, p3, p4⟩, by simp only; omega, by simp only; omega⟩
end Go.Proofs.Ytmieoifagnpbiaa
