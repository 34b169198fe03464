/- LAWS for CanvasCovers: bands lie below their resolution; the bands' areas add up; the tiles' areas add up. -/
import Derived.Test.YtmieoifagnpbiaaCovB
namespace Go.Proofs.Ytmieoifagnpbiaa
open Go.RowKit
set_option maxHeartbeats 1000000
set_option linter.unusedVariables false
set_option linter.unusedSimpArgs false

theorem ce_le (a t : Int) (k : Nat) : ceI a k ≤ t ↔ a ≤ t * 2 ^ k := by
  have := line_in t a k
  constructor
  · intro h
    rcases Int.lt_or_le (t * 2 ^ k) a with h' | h'
    · have := this.1 h'; omega
    · exact h'
  · intro h
    rcases Int.lt_or_le t (ceI a k) with h' | h'
    · have := this.2 h'; omega
    · exact h'
def oI (odd : Bool) : Int := if odd then 1 else 0
theorem half_le (a t : Int) (m : Nat) (odd : Bool) : hfI a (m + 1) odd ≤ t ↔ ceI a m ≤ 2 * t + oI odd := by
  unfold hfI
  rw [ce_le, ce_le, Nat.add_sub_cancel, pow_cast, Int.pow_succ]
  generalize (2 : Int) ^ m = d
  rw [show t * (d * 2) = 2 * (t * d) by rw [← Int.mul_assoc, Int.mul_comm]]
  unfold oI
  cases odd
  · simp only [Bool.false_eq_true, if_false]
    rw [Int.add_zero, Int.mul_assoc]; omega
  · simp only [if_true]
    rw [Int.add_mul, Int.one_mul, Int.mul_assoc]; omega
theorem half_val (a : Int) (m : Nat) : hfI a (m + 1) false = (ceI a m + 1) / 2 ∧ hfI a (m + 1) true = ceI a m / 2 := by
  have f := fun t => half_le a t m false
  have g := fun t => half_le a t m true
  unfold oI at f g
  simp only [Bool.false_eq_true, if_false, if_true] at f g
  constructor
  · have h1 := (f ((ceI a m + 1) / 2)).2 (by omega)
    have h2 := f (hfI a (m + 1) false)
    omega
  · have h1 := (g (ceI a m / 2)).2 (by omega)
    have h2 := g (hfI a (m + 1) true)
    omega
theorem ce_half (a : Int) (m : Nat) : ceI a (m + 1) = (ceI a m + 1) / 2 := by
  rw [← (half_val a m).1]
  unfold hfI
  simp
theorem fl_half (x : Int) (m : Nat) (odd : Bool) : flI (2 * x + oI odd) (m + 1) = flI x m := by
  apply (cell_iff _ _ _).1
  have h := (cell_iff x (flI x m) m).2 rfl
  have ho : 0 ≤ oI odd ∧ oI odd ≤ 1 := by unfold oI; split <;> omega
  rw [Int.pow_succ]
  generalize flI x m = c at *
  generalize (2 : Int) ^ m = d at *
  rw [show c * (d * 2) = 2 * (c * d) by rw [← Int.mul_assoc, Int.mul_comm], show (c + 1) * (d * 2) = 2 * ((c + 1) * d) by rw [← Int.mul_assoc, Int.mul_comm]]
  omega
theorem axis_ok {a b x : Int} {m pr : Nat} {odd : Bool} (hp : 1 ≤ pr) (h1 : hfI a (m + 1) odd ≤ x) (h2 : x < hfI b (m + 1) odd) : ∃ u, ceI a m ≤ u ∧ u < ceI b m ∧ flI x (pr - 1) = flI u pr := by
  refine ⟨2 * x + oI odd, (half_le a x m odd).1 h1, ?_, ?_⟩
  · rcases Int.lt_or_le (2 * x + oI odd) (ceI b m) with h | h
    · exact h
    · have := (half_le b x m odd).2 h; omega
  · obtain ⟨j, rfl⟩ : ∃ j, pr = j + 1 := ⟨pr - 1, by omega⟩
    rw [Nat.add_sub_cancel, fl_half]
theorem ofRes_band (Q : Rc) {lv r pr : Nat} (j : Nat) (hr : r ≤ lv) (hp : 1 ≤ pr) : ofRes (bandA Q lv r j) (resR Q (lv - r)) pr (blkS r pr) := by
  intro x y hin
  unfold bandA at hin
  unfold blkS
  split at hin
  · rename_i h0
    subst h0
    rw [if_pos rfl, Nat.sub_zero]
    obtain ⟨h1, h2, h3, h4⟩ := hin
    exact ⟨⟨x, h1, h2, rfl⟩, y, h3, h4, rfl⟩
  · rename_i h0
    rw [if_neg h0]
    obtain ⟨m, hm⟩ : ∃ m, lv - r = m := ⟨_, rfl⟩
    rw [hm] at hin ⊢
    unfold bandR at hin
    obtain ⟨h1, h2, h3, h4⟩ := hin
    simp only at h1 h2 h3 h4
    unfold resR
    simp only
    exact ⟨axis_ok hp h1 h2, axis_ok hp h3 h4⟩

/-- a sum of so many -/
def ssum (f : Nat → Nat) : Nat → Nat
  | 0 => 0
  | n + 1 => ssum f n + f n
theorem two_sum (a b : Int) : ((b + 1) / 2 - (a + 1) / 2).toNat + (b / 2 - a / 2).toNat = (b - a).toNat := by omega
/-- the areas of the resolutions below r -/
def totR (Q : Rc) (lv r : Nat) : Nat := if r = 0 then 0 else areaR (resR Q (lv - (r - 1)))
theorem tot_step (Q : Rc) {lv r : Nat} (hr : r ≤ lv) : totR Q lv r + ssum (fun j => areaR (bandA Q lv r j)) (bandN r) = totR Q lv (r + 1) := by
  unfold totR bandN
  rcases Nat.eq_zero_or_pos r with h0 | h0
  · subst h0
    simp only [if_true, Nat.zero_add]
    rw [if_neg (by omega)]
    simp [ssum, bandA]
  · rw [if_neg (by omega), if_neg (by omega), if_neg (by omega), Nat.add_sub_cancel]
    simp only [ssum, Nat.zero_add]
    unfold bandA
    rw [if_neg (by omega), if_neg (by omega), if_neg (by omega)]
    obtain ⟨m, hm⟩ : ∃ m, lv - r = m := ⟨_, rfl⟩
    rw [show lv - (r - 1) = m + 1 by omega, hm]
    rw [show ((((0 : Nat) : Int) + 1 != 2) = true) from rfl, show ((((0 : Nat) : Int) + 1 != 1) = false) from rfl, show ((((1 : Nat) : Int) + 1 != 2) = false) from rfl, show ((((1 : Nat) : Int) + 1 != 1) = true) from rfl, show ((((2 : Nat) : Int) + 1 != 2) = true) from rfl, show ((((2 : Nat) : Int) + 1 != 1) = true) from rfl]
    unfold bandR resR areaR
    simp only [ce_half, (half_val _ _).1, (half_val _ _).2]
    rw [← two_sum (ceI Q.x0 m) (ceI Q.x1 m), ← two_sum (ceI Q.y0 m) (ceI Q.y1 m)]
    generalize ((ceI Q.x1 m + 1) / 2 - (ceI Q.x0 m + 1) / 2).toNat = a
    generalize (ceI Q.x1 m / 2 - ceI Q.x0 m / 2).toNat = b
    generalize ((ceI Q.y1 m + 1) / 2 - (ceI Q.y0 m + 1) / 2).toNat = c
    generalize (ceI Q.y1 m / 2 - ceI Q.y0 m / 2).toNat = d
    rw [Nat.mul_add, Nat.add_mul, Nat.add_mul]
    omega
theorem tot_end (Q : Rc) (lv : Nat) : totR Q lv (lv + 1) = areaR Q := by
  unfold totR
  rw [if_neg (by omega), Nat.add_sub_cancel, Nat.sub_self]
  have e : ∀ x : Int, ceI x 0 = x := fun x => by unfold ceI; simp
  unfold resR
  simp only [e]

theorem ssum_grid {a w h : Nat → Nat} {W : Nat} (hW : 0 < W) (hc : ∀ i j, i < W → a (W * j + i) = w i * h j) : ∀ H, ssum a (W * H) = ssum w W * ssum h H
  | 0 => by simp [ssum]
  | H + 1 => by
    have key : ∀ i, i ≤ W → ssum a (W * H + i) = ssum a (W * H) + ssum w i * h H := fun i => by
      induction i with
      | zero => intro _; simp [ssum]
      | succ i ih =>
        intro hi
        rw [← Nat.add_assoc]
        simp only [ssum]
        rw [ih (by omega), hc i H (by omega), Nat.add_mul, Nat.add_assoc]
    rw [Nat.mul_add, Nat.mul_one, key W (Nat.le_refl _), ssum_grid hW hc H]
    simp only [ssum]
    rw [Nat.mul_add]
/-- a column's width -/
def colW (X O t i : Nat) : Nat := min ((i + 1) * t) X - max (i * t) O
theorem byN_lt {n d k : Nat} (hd : 1 ≤ d) : k < byN n d ↔ k * d < n := by
  unfold byN
  constructor
  · intro hk
    have h1 : k + 1 ≤ (n + d - 1) / d := hk
    rw [Nat.le_div_iff_mul_le (by omega), Nat.add_mul, Nat.one_mul] at h1
    omega
  · intro hk
    show k + 1 ≤ (n + d - 1) / d
    rw [Nat.le_div_iff_mul_le (by omega), Nat.add_mul, Nat.one_mul]
    omega
theorem cols_sum {X O t : Nat} (h1 : O < X) (h2 : O < t) : ssum (colW X O t) (byN X t) = X - O := by
  have key : ∀ i, i ≤ byN X t → 1 ≤ i → ssum (colW X O t) i = min (i * t) X - O := fun i => by
    induction i with
    | zero => intro _ h; omega
    | succ i ih =>
      intro hi _
      simp only [ssum]
      have hlt := (byN_lt (n := X) (d := t) (k := i) (by omega)).1 (by omega)
      rcases Nat.eq_zero_or_pos i with h0 | h0
      · subst h0
        simp only [ssum, colW, Nat.zero_mul, Nat.zero_add]
        omega
      · rw [ih (by omega) h0]
        unfold colW
        have : t ≤ i * t := by have := Nat.mul_le_mul_right t h0; rw [Nat.one_mul] at this; exact this
        rw [Nat.add_mul, Nat.one_mul]
        generalize i * t = m at *
        omega
  have hpos : 1 ≤ byN X t := by
    have := (byN_lt (n := X) (d := t) (k := 0) (by omega)).2 (by omega)
    exact this
  rw [key _ (Nat.le_refl _) hpos]
  have hn : ¬ byN X t < byN X t := by omega
  have := (not_congr (byN_lt (n := X) (d := t) (k := byN X t) (by omega))).1 hn
  omega
theorem tile_area (X Y O P tx ty i j : Nat) : areaR (tileR X Y O P tx ty (i, j)) = colW X O tx i * colW Y P ty j := by
  unfold tileR bothR areaR mxI mnI colW
  simp only
  have e1 : (i : Int) * (tx : Int) = ((i * tx : Nat) : Int) := (Int.natCast_mul _ _).symm
  have e2 : (j : Int) * (ty : Int) = ((j * ty : Nat) : Int) := (Int.natCast_mul _ _).symm
  have e3 : ((i : Int) + 1) * (tx : Int) = (((i + 1) * tx : Nat) : Int) := by rw [Int.natCast_mul]; rfl
  have e4 : ((j : Int) + 1) * (ty : Int) = (((j + 1) * ty : Nat) : Int) := by rw [Int.natCast_mul]; rfl
  rw [e1, e2, e3, e4]
  generalize i * tx = m1
  generalize j * ty = m2
  generalize (i + 1) * tx = m3
  generalize (j + 1) * ty = m4
  congr 1 <;> (split <;> split <;> omega)
theorem tiles_sum {X Y O P tx ty : Nat} (h1 : O < X) (h2 : O < tx) (h3 : P < Y) (h4 : P < ty) :
    ssum (fun k => areaR (tileR X Y O P tx ty (gridAt (byN X tx) k))) (byN X tx * byN Y ty) = (X - O) * (Y - P) := by
  have hpos : 0 < byN X tx := (byN_lt (n := X) (d := tx) (k := 0) (by omega)).2 (by omega)
  rw [ssum_grid hpos (w := colW X O tx) (h := colW Y P ty) (fun i j hi => by
    show areaR (tileR X Y O P tx ty (gridAt (byN X tx) (byN X tx * j + i))) = _
    rw [Nat.mul_comm (byN X tx) j, gridAt_at hi, tile_area]), cols_sum h1 h2, cols_sum h3 h4]
/-- a tile: its numbers, natural, small, in order -/
theorem tile_nat2 {X Y O P tx ty : Nat} (hX : X ≤ 64) (hY : Y ≤ 64) (ho : O < X) (hp : P < Y) (h1 : O < tx) (h2 : P < ty) {i : Nat} (hi : i < byN X tx * byN Y ty) :
    ∃ a b c d : Nat, tileR X Y O P tx ty (gridAt (byN X tx) i) = ⟨(a : Int), (b : Int), (c : Int), (d : Int)⟩ ∧ (a ≤ 64 ∧ b ≤ 64 ∧ c ≤ 64 ∧ d ≤ 64) ∧ a < c ∧ b < d ∧ O ≤ a ∧ d ≤ Y := by
  obtain ⟨a, b, c, d, e, h⟩ := tile_nat hX hY (Nat.le_of_lt ho) (Nat.le_of_lt hp) (by omega) (by omega) hi
  refine ⟨a, b, c, d, e, h, ?_⟩
  have hW0 : 0 < byN X tx := by
    rcases Nat.eq_zero_or_pos (byN X tx) with h | h
    · rw [h, Nat.zero_mul] at hi; omega
    · exact h
  have hx := Nat.mod_lt i hW0
  have hy : i / byN X tx < byN Y ty := by rw [Nat.div_lt_iff_lt_mul hW0, Nat.mul_comm]; exact hi
  unfold gridAt at e
  generalize i % byN X tx = x at *
  generalize i / byN X tx = y at *
  have kx := (byN_lt (n := X) (d := tx) (k := x) (by omega)).1 hx
  have ky := (byN_lt (n := Y) (d := ty) (k := y) (by omega)).1 hy
  unfold tileR bothR mxI mnI at e
  simp only at e
  have e1 : (x : Int) * (tx : Int) = ((x * tx : Nat) : Int) := (Int.natCast_mul _ _).symm
  have e2 : (y : Int) * (ty : Int) = ((y * ty : Nat) : Int) := (Int.natCast_mul _ _).symm
  have e3 : ((x : Int) + 1) * (tx : Int) = ((x * tx + tx : Nat) : Int) := by rw [Int.add_mul, Int.one_mul, e1]; omega
  have e4 : ((y : Int) + 1) * (ty : Int) = ((y * ty + ty : Nat) : Int) := by rw [Int.add_mul, Int.one_mul, e2]; omega
  rw [e1, e2, e3, e4] at e
  generalize x * tx = m1 at *
  generalize y * ty = m2 at *
  injection e with f1 f2 f3 f4
  refine ⟨?_, ?_, ?_, ?_⟩
  · split at f1 <;> split at f3 <;> omega
  · split at f2 <;> split at f4 <;> omega
  · split at f1 <;> omega
  · split at f4 <;> omega
end Go.Proofs.Ytmieoifagnpbiaa
