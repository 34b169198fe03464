/- Plain arithmetic of passes and layers: no program in sight. -/
namespace Go.Proofs.Ytknbppolecahbaa
set_option linter.unusedVariables false

def passM (T n l : Int) : Int := if l < 1 then 0 else if n < l then T else T * l / n

theorem add_div {a r n : Int} (hn : 1 ≤ n) (h0 : 0 ≤ r) (h1 : r < n) : (a + r) / n = a / n ∨ ((a + r) / n = a / n + 1 ∧ r ≠ 0) := by
  have e := Int.mul_ediv_add_emod a n
  have m0 := Int.emod_nonneg a (b := n) (by omega)
  have m1 := Int.emod_lt_of_pos a (b := n) (by omega)
  generalize a / n = q at *
  generalize a % n = m at *
  by_cases c : m + r < n
  · left
    have : a + r = (m + r) + n * q := by omega
    rw [this, Int.add_mul_ediv_left _ _ (by omega), Int.ediv_eq_zero_of_lt (by omega) c]; omega
  · right
    refine ⟨?_, by omega⟩
    have : a + r = (m + r - n) + n * (q + 1) := by rw [Int.mul_add]; omega
    rw [this, Int.add_mul_ediv_left _ _ (by omega), Int.ediv_eq_zero_of_lt (by omega) (by omega)]; omega

theorem pass_val {T n l : Int} (h0 : 0 ≤ l) (h1 : l ≤ n) (hn : 1 ≤ n) : passM T n l = T * l / n := by
  unfold passM
  by_cases c : l < 1
  · obtain rfl : l = 0 := by omega
    simp
  · rw [if_neg c, if_neg (by omega)]

theorem pass_split {T n l : Int} (h0 : 0 ≤ l) (h1 : l ≤ n) (hn : 1 ≤ n) : passM T n l = T / n * l + T % n * l / n := by
  rw [pass_val h0 h1 hn]
  have e := Int.mul_ediv_add_emod T n
  have : T * l = T % n * l + n * (T / n * l) := by
    conv => lhs; rw [← e]
    rw [Int.add_mul, Int.mul_assoc]; omega
  rw [this, Int.add_mul_ediv_left _ _ (by omega)]; omega

theorem pass_step {T n l : Int} (hn : 1 ≤ n) (h0 : 1 ≤ l) (h1 : l ≤ n) :
    passM T n l = passM T n (l - 1) + T / n ∨ (passM T n l = passM T n (l - 1) + T / n + 1 ∧ T % n ≠ 0) := by
  rw [pass_split (by omega) h1 hn, pass_split (l := l - 1) (by omega) (by omega) hn]
  have r0 := Int.emod_nonneg T (b := n) (by omega)
  have r1 := Int.emod_lt_of_pos T (b := n) (by omega)
  have e : T % n * l = T % n * (l - 1) + T % n := by rw [Int.mul_sub]; omega
  have e2 : T / n * l = T / n * (l - 1) + T / n := by rw [Int.mul_sub]; omega
  have := add_div (a := T % n * (l - 1)) hn r0 r1
  rw [← e] at this
  omega

theorem ceil_val {T n : Int} (hn : 1 ≤ n) : (T + n - 1) / n = if T % n = 0 then T / n else T / n + 1 := by
  have e := Int.mul_ediv_add_emod T n
  have r0 := Int.emod_nonneg T (b := n) (by omega)
  have r1 := Int.emod_lt_of_pos T (b := n) (by omega)
  split
  · have : T + n - 1 = (n - 1) + n * (T / n) := by omega
    rw [this, Int.add_mul_ediv_left _ _ (by omega), Int.ediv_eq_zero_of_lt (by omega) (by omega)]; omega
  · have : T + n - 1 = (T % n - 1) + n * (T / n + 1) := by rw [Int.mul_add]; omega
    rw [this, Int.add_mul_ediv_left _ _ (by omega), Int.ediv_eq_zero_of_lt (by omega) (by omega)]; omega

theorem pass_zero (T n : Int) : passM T n 0 = 0 := by unfold passM; rw [if_pos (by omega)]
theorem pass_full {T n : Int} (hn : 1 ≤ n) : passM T n n = T := by
  rw [pass_val (by omega) (by omega) hn, Int.mul_ediv_cancel _ (by omega)]
theorem pass_beyond {T n l : Int} (hn : 1 ≤ n) (h : n < l) : passM T n l = T := by unfold passM; rw [if_neg (by omega), if_pos h]
theorem pass_neg {T n l : Int} (h : l < 1) : passM T n l = 0 := by unfold passM; rw [if_pos h]

theorem pass_bounds {T n l : Int} (hT : 0 ≤ T) (hn : 1 ≤ n) : 0 ≤ passM T n l ∧ passM T n l ≤ T := by
  unfold passM
  split
  · omega
  · split
    · omega
    · constructor
      · exact Int.ediv_nonneg (Int.mul_nonneg hT (by omega)) (by omega)
      · apply Int.ediv_le_of_le_mul (by omega)
        exact Int.mul_le_mul_of_nonneg_left (by omega) hT

theorem div_bounds {T n : Int} (hT : 0 ≤ T) (hn : 1 ≤ n) : 0 ≤ T / n ∧ T / n ≤ T := ⟨Int.ediv_nonneg hT (by omega), Int.ediv_le_self _ hT⟩

/-- how many layers bring nothing, of the first l -/
def emptyM (T n l : Int) : Int := if T < n then l - passM T n l else 0

theorem empty_step {T n l : Int} (hT : 0 ≤ T) (hn : 1 ≤ n) (h0 : 0 ≤ l) (h1 : l < n) :
    (passM T n (l + 1) = passM T n l → emptyM T n (l + 1) = emptyM T n l + 1) ∧ (passM T n (l + 1) ≠ passM T n l → emptyM T n (l + 1) = emptyM T n l) := by
  have h := pass_step (T := T) hn (show 1 ≤ l + 1 by omega) (by omega)
  have e : l + 1 - 1 = l := by omega
  rw [e] at h
  unfold emptyM
  have hd := div_bounds hT hn
  split
  · rename_i c
    have e0 : T / n = 0 := Int.ediv_eq_zero_of_lt hT c
    rw [e0] at h
    omega
  · rename_i c
    have e0 : 1 ≤ T / n := (Int.le_ediv_iff_mul_le (by omega)).2 (by omega)
    omega

theorem empty_full {T n : Int} (hn : 1 ≤ n) : emptyM T n n = max (n - T) 0 := by
  unfold emptyM
  rw [pass_full hn]
  omega

/-- which passes end their segments; t, b: does the style have TermAll, Bypass -/
def endsB (t b : Bool) (k : Int) : Bool := if k < 0 then false else if t then true else if !b then false else (decide (k % 3 = 0) && decide (9 ≤ k)) || (decide (k % 3 = 2) && decide (10 ≤ k))
end Go.Proofs.Ytknbppolecahbaa
