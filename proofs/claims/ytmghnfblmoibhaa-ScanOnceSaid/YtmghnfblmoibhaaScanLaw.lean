/- Plain arithmetic of a code-block's order: no program in sight. -/
namespace Go.Proofs.Ytmghnfblmoibhaa

def atM (w h k : Int) : Int × Int :=
  if w < 1 ∨ h < 1 ∨ k < 0 then (-1, -1) else
  if h ≤ k / w / 4 * 4 then (-1, -1) else
  if w ≤ (k - k / w / 4 * 4 * w) / min 4 (h - k / w / 4 * 4) then (-1, -1) else
  ((k - k / w / 4 * 4 * w) / min 4 (h - k / w / 4 * 4), k / w / 4 * 4 + (k - k / w / 4 * 4 * w) % min 4 (h - k / w / 4 * 4))

theorem at_none {w h k : Int} (e : w < 1 ∨ h < 1 ∨ k < 0) : atM w h k = (-1, -1) := by unfold atM; rw [if_pos e]

/-- the stripe, and what is left of the number -/
theorem split_k {w k s r : Int} (hw : 1 ≤ w) (hr0 : 0 ≤ r) (hr : r < 4 * w) (hk : k = 4 * s * w + r) : k / w / 4 = s := by
  rw [Int.ediv_ediv_of_nonneg (by omega), hk]
  have e : 4 * s * w + r = r + (w * 4) * s := by
    have h1 : 4 * s * w = (w * 4) * s := by
      rw [Int.mul_comm (4 * s) w, ← Int.mul_assoc]
    omega
  rw [e, Int.add_mul_ediv_left _ _ (by omega), Int.ediv_eq_zero_of_lt hr0 (by omega)]
  omega

theorem div_of {x t r : Int} (h0 : 0 ≤ t) (h1 : t < r) : (x * r + t) / r = x ∧ (x * r + t) % r = t := by
  have e : x * r + t = t + r * x := by rw [Int.mul_comm x r]; omega
  rw [e]
  constructor
  · rw [Int.add_mul_ediv_left _ _ (by omega), Int.ediv_eq_zero_of_lt h0 h1]; omega
  · rw [Int.add_mul_emod_self_left, Int.emod_eq_of_lt h0 h1]

theorem mul_lt_of {x w t r : Int} (h0 : 0 ≤ x) (h1 : x < w) (h2 : 0 ≤ t) (h3 : t < r) (h4 : r ≤ 4) : 0 ≤ x * r + t ∧ x * r + t < 4 * w := by
  have a1 : 0 ≤ x * r := Int.mul_nonneg h0 (by omega)
  have a2 : x * r ≤ (w - 1) * r := Int.mul_le_mul_of_nonneg_right (by omega) (by omega)
  have a3 : (w - 1) * r ≤ (w - 1) * 4 := Int.mul_le_mul_of_nonneg_left h4 (by omega)
  have a4 : (w - 1) * 4 = 4 * w - 4 := by omega
  constructor
  · omega
  · have : x * r + t < x * r + r := by omega
    have a5 : x * r + r = (x + 1) * r := by rw [Int.add_mul]; omega
    have a6 : (x + 1) * r ≤ w * r := Int.mul_le_mul_of_nonneg_right (by omega) (by omega)
    have a7 : w * r ≤ w * 4 := Int.mul_le_mul_of_nonneg_left h4 (by omega)
    omega

/-- WHERE A PLACE STANDS: stripe s, column x, row t of it. -/
theorem at_of {w h s x t : Int} (hs : 0 ≤ s) (hh : 4 * s < h) (hx : 0 ≤ x) (hxw : x < w) (ht : 0 ≤ t) (htr : t < min 4 (h - 4 * s)) :
    atM w h (4 * s * w + (x * min 4 (h - 4 * s) + t)) = (x, 4 * s + t) := by
  have hr := mul_lt_of hx hxw ht htr (by omega)
  have hk : (4 * s * w + (x * min 4 (h - 4 * s) + t)) / w / 4 = s := split_k (by omega) hr.1 hr.2 rfl
  have hp : 0 ≤ 4 * s * w := Int.mul_nonneg (by omega) (by omega)
  have e4 : s * 4 = 4 * s := by omega
  have hd := div_of (x := x) ht htr
  unfold atM
  rw [if_neg (by omega), hk, e4, if_neg (by omega)]
  have e5 : 4 * s * w + (x * min 4 (h - 4 * s) + t) - 4 * s * w = x * min 4 (h - 4 * s) + t := by omega
  rw [e5, hd.1, hd.2, if_neg (by omega)]

/-- EACH NUMBER IS A PLACE's. -/
theorem at_ex {w h k : Int} (hw : 1 ≤ w) (_hh : 1 ≤ h) (hk0 : 0 ≤ k) (hk : k < w * h) :
    ∃ s x t : Int, 0 ≤ s ∧ 4 * s < h ∧ 0 ≤ x ∧ x < w ∧ 0 ≤ t ∧ t < min 4 (h - 4 * s) ∧ k = 4 * s * w + (x * min 4 (h - 4 * s) + t) := by
  have hd := Int.mul_ediv_add_emod k (w * 4)
  have hm0 := Int.emod_nonneg k (b := w * 4) (by omega)
  have hm1 := Int.emod_lt_of_pos k (b := w * 4) (by omega)
  generalize hs : k / (w * 4) = s at hd
  generalize hr : k % (w * 4) = r at hd hm0 hm1
  have hs0 : 0 ≤ s := by rw [← hs]; exact Int.ediv_nonneg hk0 (by omega)
  have e1 : w * 4 * s = 4 * s * w := by rw [Int.mul_comm (4 * s) w, ← Int.mul_assoc]
  have e2 : 4 * s * w = 4 * (w * s) := by rw [Int.mul_assoc, Int.mul_comm s w]
  have hsh : 4 * s < h := by
    rcases Int.lt_or_le (4 * s) h with g | g
    · exact g
    · have : w * h ≤ w * (4 * s) := Int.mul_le_mul_of_nonneg_left g (by omega)
      have e3 : w * (4 * s) = 4 * s * w := Int.mul_comm _ _
      omega
  have hq := Int.mul_ediv_add_emod r (min 4 (h - 4 * s))
  have hq0 := Int.emod_nonneg r (b := min 4 (h - 4 * s)) (by omega)
  have hq1 := Int.emod_lt_of_pos r (b := min 4 (h - 4 * s)) (by omega)
  refine ⟨s, r / min 4 (h - 4 * s), r % min 4 (h - 4 * s), hs0, hsh, Int.ediv_nonneg hm0 (by omega), ?_, hq0, hq1, ?_⟩
  · apply Int.ediv_lt_of_lt_mul (by omega)
    rcases Int.le_total 4 (h - 4 * s) with g | g
    · rw [Int.min_eq_left g]; omega
    · rw [Int.min_eq_right g]
      have e4 : w * (h - 4 * s) = w * h - w * (4 * s) := Int.mul_sub _ _ _
      have e3 : w * (4 * s) = 4 * s * w := Int.mul_comm _ _
      omega
  · rw [Int.mul_comm (r / _) _, hq]; omega

/-- the place's number -/
def numM (w h x y : Int) : Int := 4 * (y / 4) * w + (x * min 4 (h - 4 * (y / 4)) + y % 4)

theorem at_num {w h k : Int} (hw : 1 ≤ w) (hh : 1 ≤ h) (hk0 : 0 ≤ k) (hk : k < w * h) :
    0 ≤ (atM w h k).1 ∧ (atM w h k).1 < w ∧ 0 ≤ (atM w h k).2 ∧ (atM w h k).2 < h ∧ numM w h (atM w h k).1 (atM w h k).2 = k := by
  obtain ⟨s, x, t, h1, h2, h3, h4, h5, h6, rfl⟩ := at_ex hw hh hk0 hk
  rw [at_of h1 h2 h3 h4 h5 h6]
  refine ⟨h3, h4, by simp only; omega, by simp only; omega, ?_⟩
  have e1 : (4 * s + t) / 4 = s := by omega
  have e2 : (4 * s + t) % 4 = t := by omega
  simp only [numM, e1, e2]

/-- P602: how the next place stands to the last one. -/
theorem at_next {w h k : Int} (hw : 1 ≤ w) (hh : 1 ≤ h) (hk0 : 1 ≤ k) (hk : k < w * h) :
    ((atM w h k).1 = (atM w h (k - 1)).1 ∧ (atM w h k).2 = (atM w h (k - 1)).2 + 1 ∧ 0 < (atM w h k).2 % 4) ∨
    ((atM w h k).1 = (atM w h (k - 1)).1 + 1 ∧ (atM w h k).2 % 4 = 0 ∧ (atM w h k).2 = (atM w h (k - 1)).2 / 4 * 4 ∧ ((atM w h (k - 1)).2 % 4 = 3 ∨ (atM w h (k - 1)).2 = h - 1)) ∨
    ((atM w h k).1 = 0 ∧ (atM w h (k - 1)).1 = w - 1 ∧ (atM w h k).2 % 4 = 0 ∧ (atM w h k).2 = (atM w h (k - 1)).2 / 4 * 4 + 4) := by
  obtain ⟨s, x, t, h1, h2, h3, h4, h5, h6, e⟩ := at_ex hw hh (by omega) (show k - 1 < w * h by omega)
  rw [e, at_of h1 h2 h3 h4 h5 h6]
  have e0 : k = 4 * s * w + (x * min 4 (h - 4 * s) + t) + 1 := by omega
  by_cases c1 : t + 1 < min 4 (h - 4 * s)
  · left
    have e1 : k = 4 * s * w + (x * min 4 (h - 4 * s) + (t + 1)) := by omega
    rw [e1, at_of h1 h2 h3 h4 (by omega) c1]
    refine ⟨rfl, by show 4 * s + (t + 1) = 4 * s + t + 1; omega, by show 0 < (4 * s + (t + 1)) % 4; omega⟩
  · right
    by_cases c2 : x + 1 < w
    · left
      have e1 : k = 4 * s * w + ((x + 1) * min 4 (h - 4 * s) + 0) := by rw [Int.add_mul]; omega
      rw [e1, at_of h1 h2 (by omega) c2 (by omega) (by omega)]
      refine ⟨rfl, ?_, ?_, ?_⟩
      · show (4 * s + 0) % 4 = 0; omega
      · show 4 * s + 0 = (4 * s + t) / 4 * 4; omega
      · show (4 * s + t) % 4 = 3 ∨ 4 * s + t = h - 1; omega
    · right
      have hx : x = w - 1 := by omega
      have e3 : x * min 4 (h - 4 * s) + t + 1 = w * min 4 (h - 4 * s) := by rw [hx, Int.sub_mul]; omega
      have c3 : 4 ≤ h - 4 * s := by
        rcases Int.le_total 4 (h - 4 * s) with g | g
        · exact g
        · exfalso
          rw [Int.min_eq_right g] at e3
          have e4 : w * (h - 4 * s) = w * h - w * (4 * s) := Int.mul_sub _ _ _
          have e5 : w * (4 * s) = 4 * s * w := Int.mul_comm _ _
          rw [Int.min_eq_right g] at e0
          omega
      rw [Int.min_eq_left c3] at *
      have c4 : 4 * (s + 1) < h := by
        rcases Int.lt_or_le (4 * (s + 1)) h with g | g
        · exact g
        · exfalso
          have e7 : h = 4 * s + 4 := by omega
          rw [e7, Int.mul_add] at hk
          have e5 : w * (4 * s) = 4 * s * w := Int.mul_comm _ _
          omega
      have e6 : k = 4 * (s + 1) * w + (0 * min 4 (h - 4 * (s + 1)) + 0) := by
        have : 4 * (s + 1) * w = 4 * s * w + 4 * w := by rw [Int.mul_add, Int.add_mul, Int.mul_one]
        omega
      rw [e6, at_of (by omega) c4 (by omega) (by omega) (by omega) (by omega)]
      refine ⟨rfl, hx, ?_, ?_⟩
      · show (4 * (s + 1) + 0) % 4 = 0; omega
      · show 4 * (s + 1) + 0 = (4 * s + t) / 4 * 4 + 4; omega

theorem at_first {w h : Int} (hw : 1 ≤ w) (hh : 1 ≤ h) : atM w h 0 = (0, 0) := by
  have := at_of (w := w) (h := h) (s := 0) (x := 0) (t := 0) (by omega) (by omega) (by omega) (by omega) (by omega) (by omega)
  simpa using this

/-- behind the last place -/
theorem at_beyond {w h k : Int} (hw : 1 ≤ w) (hh : 1 ≤ h) (hk : w * h ≤ k) : atM w h k = (-1, -1) := by
  have hp : 0 ≤ w * h := Int.mul_nonneg (by omega) (by omega)
  have e0 : h ≤ k / w := (Int.le_ediv_iff_mul_le (by omega)).2 (by rw [Int.mul_comm]; exact hk)
  unfold atM
  rw [if_neg (by omega)]
  split
  · rfl
  · rename_i g
    rw [if_pos]
    have m : min 4 (h - k / w / 4 * 4) = h - k / w / 4 * 4 := by omega
    rw [m]
    apply (Int.le_ediv_iff_mul_le (by omega)).2
    rw [Int.mul_sub]
    have e1 : w * (k / w / 4 * 4) = k / w / 4 * 4 * w := Int.mul_comm _ _
    omega

/-- the reference's -/
def refM (w h k : Int) : Int × Int :=
  if w < 1 ∨ h < 1 ∨ k < 0 ∨ h ≤ k / w then (-1, -1) else
  ((k - 4 * w * (k / w / 4)) / min 4 (h - 4 * (k / w / 4)), 4 * (k / w / 4) + (k - 4 * w * (k / w / 4)) % min 4 (h - 4 * (k / w / 4)))

theorem at_eq (w h k : Int) : atM w h k = refM w h k := by
  by_cases g : w < 1 ∨ h < 1 ∨ k < 0
  · rw [at_none g]; unfold refM; rw [if_pos (by omega)]
  · have hw : 1 ≤ w := by omega
    have hh : 1 ≤ h := by omega
    have hk : 0 ≤ k := by omega
    rcases Int.lt_or_le k (w * h) with c | c
    · have e0 : k / w < h := Int.ediv_lt_of_lt_mul (by omega) (by rw [Int.mul_comm]; exact c)
      obtain ⟨s, x, t, h1, h2, h3, h4, h5, h6, rfl⟩ := at_ex hw hh hk c
      have hr := mul_lt_of h3 h4 h5 h6 (by omega)
      have hks := split_k (k := 4 * s * w + (x * min 4 (h - 4 * s) + t)) hw hr.1 hr.2 rfl
      have hd := div_of (x := x) h5 h6
      rw [at_of h1 h2 h3 h4 h5 h6]
      unfold refM
      have e1 : 4 * w * s = 4 * s * w := by rw [Int.mul_assoc, Int.mul_comm w s, ← Int.mul_assoc]
      rw [if_neg (by omega), hks, e1]
      have e5 : 4 * s * w + (x * min 4 (h - 4 * s) + t) - 4 * s * w = x * min 4 (h - 4 * s) + t := by omega
      rw [e5, hd.1, hd.2]
    · have e0 : h ≤ k / w := (Int.le_ediv_iff_mul_le (by omega)).2 (by rw [Int.mul_comm]; exact c)
      rw [at_beyond hw hh c]; unfold refM; rw [if_pos (by omega)]
end Go.Proofs.Ytmghnfblmoibhaa
