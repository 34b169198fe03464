/- Plain laws of lifted rows: bounds, a number added, a rising line, a row turned about. No program in sight. -/
import Derived.Test.YtgaojpobdgopbaaLiftLaw
namespace Go.Proofs.Ytgaojpobdgopbaa
set_option linter.unusedVariables false

theorem lift2_even {n o k : Nat} {h : Nat → Int} (hk : k < n) (hp : k % 2 = o) : lift2 n o h n k = h k + (h (lft k) + h (rgt n k) + 2) / 4 := by
  unfold lift2 besF; rw [if_pos ⟨hp, hk⟩]
theorem lift2_odd {n o k : Nat} {h : Nat → Int} (hp : k % 2 ≠ o) : lift2 n o h n k = h k := by
  unfold lift2; rw [if_neg (by omega)]
theorem lift1_odd {n o k : Nat} {f : Nat → Int} (hk : k < n) (hp : k % 2 ≠ o) : lift1 n o f n k = f k - (f (lft k) + f (rgt n k)) / 2 := by
  unfold lift1 besF; rw [if_pos ⟨hp, hk⟩]
theorem lift1_even {n o k : Nat} {f : Nat → Int} (hp : k % 2 = o) : lift1 n o f n k = f k := by
  unfold lift1; rw [if_neg (by omega)]
theorem spot_low {n o i : Nat} (ho : o ≤ 1) (h : i < low n o) : spot n o i % 2 = o := by unfold spot; rw [if_pos h]; omega
theorem spot_high {n o i : Nat} (ho : o ≤ 1) (h : ¬ i < low n o) : spot n o i % 2 ≠ o := by unfold spot; rw [if_neg h]; omega

theorem back_lft {n k : Nat} {f : Nat → Int} (hn : 2 ≤ n) (hk : k < n) : ∃ j, j < n ∧ f (lft (lft k)) + f (rgt n (lft k)) = f k + f j := by
  by_cases h : k = 0
  · subst h
    refine ⟨rgt n 1, rgt_lt hn (by omega), ?_⟩
    rfl
  · refine ⟨lft (k - 1), lft_lt hn (by omega), ?_⟩
    have e1 : lft k = k - 1 := by unfold lft; rw [if_neg h]
    have e2 : rgt n (k - 1) = k := by unfold rgt; rw [if_neg (by omega)]; omega
    rw [e1, e2]; omega
theorem back_rgt {n k : Nat} {f : Nat → Int} (hn : 2 ≤ n) (hk : k < n) : ∃ j, j < n ∧ f (lft (rgt n k)) + f (rgt n (rgt n k)) = f k + f j := by
  by_cases h : k + 1 = n
  · have e1 : rgt n k = k - 1 := by unfold rgt; rw [if_pos h]
    have e2 : rgt n (k - 1) = k := by unfold rgt; rw [if_neg (by omega)]; omega
    rw [e1, e2]
    exact ⟨lft (k - 1), lft_lt hn (by omega), by omega⟩
  · have e1 : rgt n k = k + 1 := by unfold rgt; rw [if_neg h]
    have e2 : lft (k + 1) = k := by unfold lft; rw [if_neg (by omega)]; omega
    rw [e1, e2]
    exact ⟨rgt n (k + 1), rgt_lt hn (by omega), rfl⟩

theorem splitF_tight {n o : Nat} {M : Int} {f : Nat → Int} (ho : o ≤ 1) (hM : 1 ≤ M) (h : Within n M f) (i : Nat) (hi : i < n) :
    (-(2 * M + 1) ≤ splitF n o f i ∧ splitF n o f i ≤ 2 * M + 1) ∧ (i < low n o → 1 < n → -(M + (M + 1) / 2 + 1) ≤ splitF n o f i ∧ splitF n o f i ≤ M + (M + 1) / 2 + 1) := by
  by_cases h1 : n = 1
  · have := h i hi
    unfold splitF
    rw [if_pos h1]
    constructor
    · split <;> omega
    · intro _ _; omega
  · have hn : 2 ≤ n := by omega
    have hs := spot_lt ho hi
    unfold splitF
    rw [if_neg h1]
    by_cases hl : i < low n o
    · have hp := spot_low ho hl
      have p1 := lft_par (spot n o i)
      have p2 := rgt_par hn hs
      rw [lift2_even hs hp, lift1_even hp, lift1_odd (lft_lt hn hs) (by omega), lift1_odd (rgt_lt hn hs) (by omega)]
      obtain ⟨c, hc, ec⟩ := back_lft (f := f) hn hs
      obtain ⟨d, hd, ed⟩ := back_rgt (f := f) hn hs
      rw [ec, ed]
      have b1 := h _ hs
      have b2 := h _ (lft_lt hn hs)
      have b3 := h _ (rgt_lt hn hs)
      have b4 := h _ hc
      have b5 := h _ hd
      generalize f (spot n o i) = x at *
      generalize f (lft (spot n o i)) = a at *
      generalize f (rgt n (spot n o i)) = b at *
      generalize f c = c at *
      generalize f d = d at *
      clear ec ed hc hd p1 p2 hp hl hs hi h
      constructor
      · omega
      · intro _ _; omega
    · have hp := spot_high ho hl
      rw [lift2_odd hp, lift1_odd hs hp]
      have b1 := h _ hs
      have b2 := h _ (lft_lt hn hs)
      have b3 := h _ (rgt_lt hn hs)
      constructor
      · omega
      · intro h; omega

theorem splitF_sum {n o : Nat} {c : Int} {f g : Nat → Int} (ho : o ≤ 1) (hn : n ≠ 1) (hg : ∀ k, k < n → g k = f k + c) (i : Nat) (hi : i < n) : splitF n o g i = splitF n o f i + (if i < low n o then c else 0) := by
  have h2 : 2 ≤ n := by omega
  have hs := spot_lt ho hi
  have e1 : ∀ k, k < n → k % 2 ≠ o → lift1 n o g n k = lift1 n o f n k := fun k hk hp => by
    rw [lift1_odd hk hp, lift1_odd hk hp, hg _ hk, hg _ (lft_lt h2 hk), hg _ (rgt_lt h2 hk)]; omega
  unfold splitF
  rw [if_neg hn, if_neg hn]
  by_cases hl : i < low n o
  · have hp := spot_low ho hl
    have p1 := lft_par (spot n o i)
    have p2 := rgt_par h2 hs
    rw [lift2_even hs hp, lift2_even hs hp, lift1_even hp, lift1_even hp, e1 _ (lft_lt h2 hs) (by omega), e1 _ (rgt_lt h2 hs) (by omega), hg _ hs, if_pos hl]; omega
  · have hp := spot_high ho hl
    rw [lift2_odd hp, lift2_odd hp, e1 _ hs hp, if_neg hl]; omega

theorem splitF_line {n o : Nat} {r : Int} {f : Nat → Int} (ho : o ≤ 1) (hn : 2 ≤ n) (hf : ∀ k, k < n → f k = (k : Int) * (2 * r)) (i : Nat) (hi : i < n) (hl : low n o ≤ i) :
    splitF n o f i = if 2 * (i - low n o) + (1 - o) = 0 then -(2 * r) else if 2 * (i - low n o) + (1 - o) = n - 1 then 2 * r else 0 := by
  have hs := spot_lt ho hi
  have hp := spot_high ho (show ¬ i < low n o by omega)
  unfold splitF
  rw [if_neg (by omega), lift2_odd hp, lift1_odd hs hp]
  have e : spot n o i = 2 * (i - low n o) + (1 - o) := by unfold spot; rw [if_neg (by omega)]
  rw [e] at hs ⊢
  generalize 2 * (i - low n o) + (1 - o) = k at *
  by_cases h0 : k = 0
  · subst h0
    rw [if_pos rfl]
    have e1 : lft 0 = 1 := rfl
    have e2 : rgt n 0 = 1 ∨ rgt n 0 = 1 := by unfold rgt; split <;> omega
    have e2 : rgt n 0 = 1 := by unfold rgt; rw [if_neg (by omega)]
    rw [e1, e2, hf 0 hs, hf 1 (by omega)]
    simp; omega
  · rw [if_neg h0]
    have e1 : lft k = k - 1 := by unfold lft; rw [if_neg h0]
    have c1 : (((k - 1 : Nat) : Int)) * (2 * r) = (k : Int) * (2 * r) - 2 * r := by
      rw [show ((k - 1 : Nat) : Int) = (k : Int) - 1 by omega, Int.sub_mul]; omega
    by_cases h1 : k = n - 1
    · rw [if_pos h1]
      have e2 : rgt n k = k - 1 := by unfold rgt; rw [if_pos (by omega)]
      rw [e1, e2, hf k hs, hf (k - 1) (by omega), c1]
      omega
    · rw [if_neg h1]
      have e2 : rgt n k = k + 1 := by unfold rgt; rw [if_neg (by omega)]
      have c2 : (((k + 1 : Nat) : Int)) * (2 * r) = (k : Int) * (2 * r) + 2 * r := by
        rw [show ((k + 1 : Nat) : Int) = (k : Int) + 1 by omega, Int.add_mul]; omega
      rw [e1, e2, hf k hs, hf (k - 1) (by omega), hf (k + 1) (by omega), c1, c2]
      omega

theorem splitF_turned {n o : Nat} {f g : Nat → Int} (ho : o ≤ 1) (hn : n % 2 = 1) (hg : ∀ k, k < n → g k = f (n - 1 - k)) (i : Nat) (hi : i < n) :
    splitF n o f i = splitF n o g (if low n o ≤ i then n - 1 - (i - low n o) else low n o - 1 - i) := by
  by_cases h1 : n = 1
  · subst h1
    obtain rfl : i = 0 := by omega
    have e : (if low 1 o ≤ 0 then 1 - 1 - (0 - low 1 o) else low 1 o - 1 - 0) = 0 := by
      have : low 1 o ≤ 1 := low_le ho
      split <;> omega
    rw [e]
    unfold splitF
    rw [if_pos rfl, if_pos rfl, hg 0 (by omega)]
  · have h2 : 2 ≤ n := by omega
    have hs := spot_lt ho hi
    have es : spot n o (if low n o ≤ i then n - 1 - (i - low n o) else low n o - 1 - i) = n - 1 - spot n o i := by
      unfold spot
      by_cases hl : low n o ≤ i
      · rw [if_pos hl, if_neg (by unfold low at *; omega), if_neg (by omega)]
        unfold low at *; omega
      · rw [if_neg hl, if_pos (by omega), if_pos (by omega)]
        unfold low at *; omega
    have tl : ∀ k, k < n → lft (n - 1 - k) = n - 1 - rgt n k := fun k hk => by unfold lft rgt; split <;> split <;> omega
    have tr : ∀ k, k < n → rgt n (n - 1 - k) = n - 1 - lft k := fun k hk => by unfold lft rgt; split <;> split <;> omega
    have hg' : ∀ k, k < n → g (n - 1 - k) = f k := fun k hk => by rw [hg _ (by omega)]; congr 1; omega
    have t1 : ∀ k, k < n → lift1 n o g n (n - 1 - k) = lift1 n o f n k := fun k hk => by
      by_cases hp : k % 2 = o
      · rw [lift1_even (by omega), lift1_even hp, hg' k hk]
      · rw [lift1_odd (by omega) (by omega), lift1_odd hk hp, hg' k hk, tl k hk, tr k hk, hg' _ (rgt_lt h2 hk), hg' _ (lft_lt h2 hk)]; omega
    unfold splitF
    rw [if_neg h1, if_neg h1, es]
    generalize spot n o i = k at *
    by_cases hp : k % 2 = o
    · rw [lift2_even hs hp, lift2_even (by omega) (by omega), tl k hs, tr k hs, t1 k hs, t1 _ (rgt_lt h2 hs), t1 _ (lft_lt h2 hs)]; omega
    · rw [lift2_odd hp, lift2_odd (by omega), t1 k hs]
end Go.Proofs.Ytgaojpobdgopbaa
