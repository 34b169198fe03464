/- PLAIN LAWS of planes: what splitting does to flat planes, and how many samples bands have. -/
import Derived.Test.YtmcdhdofgaoadaaDSplit
namespace Go.Proofs.Ytmcdhdofgaoadaa
set_option maxHeartbeats 1000000
set_option linter.unusedVariables false

theorem lift1_congr {n o m k : Nat} {f g : Nat → Int} (h2 : 2 ≤ n) (hk : k < n) (h : ∀ j, j < n → f j = g j) : lift1 n o f m k = lift1 n o g m k := by
  unfold lift1 besF
  rw [h k hk, h _ (lft_lt h2 hk), h _ (rgt_lt h2 hk)]
theorem splitF_congr {n o i : Nat} {f g : Nat → Int} (ho : o ≤ 1) (hi : i < n) (h : ∀ j, j < n → f j = g j) : splitF n o f i = splitF n o g i := by
  unfold splitF
  by_cases h1 : n = 1
  · rw [if_pos h1, if_pos h1, h i hi]
  · have h2 : 2 ≤ n := by omega
    have hs := spot_lt ho hi
    rw [if_neg h1, if_neg h1]
    unfold lift2
    have e := fun k (hk : k < n) => @lift1_congr n o n k f g h2 hk h
    have eb : besF n (lift1 n o f n) (spot n o i) = besF n (lift1 n o g n) (spot n o i) := by
      unfold besF
      rw [e _ (lft_lt h2 hs), e _ (rgt_lt h2 hs)]
    rw [e _ hs, eb]
theorem splitF_const {n i : Nat} {c : Int} {f : Nat → Int} (hi : i < n) (h : ∀ j, j < n → f j = c) : splitF n 0 f i = if i < low n 0 then c else 0 := by
  unfold splitF
  by_cases h1 : n = 1
  · subst h1
    rw [if_pos rfl, if_neg (by omega), h i hi, if_pos (by unfold low; omega)]
  · have h2 : 2 ≤ n := by omega
    have hs := spot_lt (o := 0) (by omega) hi
    rw [if_neg h1]
    have e1 : ∀ k, k < n → lift1 n 0 f n k = if k % 2 = 0 then c else 0 := fun k hk => by
      unfold lift1 besF
      rw [h k hk, h _ (lft_lt h2 hk), h _ (rgt_lt h2 hk)]
      by_cases h' : k % 2 = 0
      · rw [if_neg (by omega), if_pos h']
      · rw [if_pos ⟨h', hk⟩, if_neg h']; omega
    unfold lift2 besF
    rw [e1 _ hs, e1 _ (lft_lt h2 hs), e1 _ (rgt_lt h2 hs)]
    have p1 := lft_par (spot n 0 i)
    have p2 := rgt_par h2 hs
    by_cases h' : i < low n 0
    · have hp : spot n 0 i % 2 = 0 := by unfold spot; rw [if_pos h']; omega
      rw [if_pos ⟨hp, hs⟩, if_pos hp, if_neg (by omega), if_neg (by omega), if_pos h']; omega
    · have hp : ¬ spot n 0 i % 2 = 0 := by unfold spot; rw [if_neg h']; omega
      rw [if_neg (by omega), if_neg hp, if_neg h']

theorem row_div {W y x : Nat} (hx : x < W) : (y * W + x) / W = y := at_div rfl hx
theorem row_mod {W y x : Nat} (hx : x < W) : (y * W + x) % W = x := at_mod rfl hx

/-- a flat plane split: the lowest quarter has it, all else is nought -/
theorem plane_flat {W H N : Nat} {c : Int} {f : Nat → Int} (hN : H * W = N) (h : ∀ k, k < N → f k = c) (k : Nat) (hk : k < N) :
    planeF 0 0 W H f k = if k % W < low W 0 ∧ k / W < low H 0 then c else 0 := by
  have hW := pos_of hN hk
  have hH := div_lt hN hk
  have hm := Nat.mod_lt k hW
  unfold planeF rowsF
  have e : ∀ x, x < W → colF W (splitF H (0 % 2)) f (k / W * W + x) = if k / W < low H 0 then c else 0 := fun x hx => by
    unfold colF
    rw [row_div hx, row_mod hx]
    exact splitF_const hH (fun y hy => h _ (in_plane hN rfl hx hy))
  rw [show (0 : Nat) % 2 = 0 from rfl] at e ⊢
  rw [splitF_const hm e]
  by_cases h1 : k % W < low W 0
  · by_cases h2 : k / W < low H 0
    · rw [if_pos h1, if_pos h2, if_pos ⟨h1, h2⟩]
    · rw [if_pos h1, if_neg h2, if_neg (fun h => h2 h.2)]
  · rw [if_neg h1, if_neg (fun h => h1 h.1)]

theorem cut_spot {W a b n m k : Nat} (h1 : a + n ≤ W) (hk : k < m * n) : ((b + k / n) * W + a + k % n) % W = a + k % n ∧ ((b + k / n) * W + a + k % n) / W = b + k / n ∧ k % n < n ∧ k / n < m := by
  have h4 : 0 < n := by
    rcases Nat.eq_zero_or_pos n with h | h
    · rw [h, Nat.mul_zero] at hk; omega
    · exact h
  have h5 := Nat.mod_lt k h4
  have h3 : k / n < m := Nat.div_lt_of_lt_mul (by rwa [Nat.mul_comm] at hk)
  rw [Nat.add_assoc]
  exact ⟨row_mod (by omega), row_div (by omega), h5, h3⟩
theorem cut_in {W H N a b n m k : Nat} (hN : H * W = N) (h1 : a + n ≤ W) (h2 : b + m ≤ H) (hk : k < m * n) : (b + k / n) * W + a + k % n < N := by
  obtain ⟨_, _, h5, h3⟩ := cut_spot (W := W) (b := b) h1 hk
  have := in_plane (W := W) (H := H) (N := N) (x := a + k % n) (y := b + k / n) hN rfl (by omega) (by omega)
  rwa [← Nat.add_assoc] at this

theorem bands_flat (c : Int) : ∀ (l W H : Nat) (f : Nat → Int), (∀ k, k < H * W → f k = c) → ∀ (i : Nat) (x : Nat × (Nat → Int)), (bandsF l 0 0 W H f)[i]? = some x → ∀ k, k < x.1 → x.2 k = if i = 0 then c else 0
  | 0, W, H, f, h, i, x, hx, k, hk => by
    unfold bandsF at hx
    match i, hx with
    | 0, hx =>
      simp at hx
      subst hx
      rw [if_pos rfl]
      exact h k hk
    | i + 1, hx => simp at hx
  | l + 1, W, H, f, h, i, x, hx, k, hk => by
    have hlw : low W 0 ≤ W := low_le (by omega)
    have hlh : low H 0 ≤ H := low_le (by omega)
    have e0 : hf 0 = 0 := rfl
    have hb : bandsF (l + 1) 0 0 W H f = bandsF l 0 0 (low W 0) (low H 0) (cutF W 0 0 (low W 0) (planeF 0 0 W H f)) ++ highs W H (low W 0) (low H 0) (planeF 0 0 W H f) := rfl
    rw [hb] at hx
    have hpl := fun k hk => plane_flat (W := W) (H := H) (N := H * W) rfl h k hk
    by_cases hi : i < 3 * l + 1
    · rw [List.getElem?_append_left (by rw [bandsF_len]; exact hi)] at hx
      refine bands_flat c l _ _ _ (fun k hk => ?_) i x hx k hk
      obtain ⟨h1, h2, h3, h4⟩ := cut_spot (W := W) (a := 0) (b := 0) (by omega) hk
      unfold cutF
      rw [hpl _ (cut_in rfl (by omega) (by omega) hk), h1, h2, if_pos ⟨by omega, by omega⟩]
    · rw [List.getElem?_append_right (by rw [bandsF_len]; omega), bandsF_len] at hx
      rw [if_neg (by omega)]
      obtain ⟨j, hj⟩ : ∃ j, j = i - (3 * l + 1) := ⟨_, rfl⟩
      rw [← hj] at hx
      clear hj hi
      unfold highs at hx
      match j, hx with
      | 0, hx =>
        simp at hx
        subst hx
        simp only at hk ⊢
        obtain ⟨h1, h2, h3, h4⟩ := cut_spot (W := W) (a := low W 0) (b := 0) (by omega) hk
        unfold cutF
        rw [hpl _ (cut_in rfl (by omega) (by omega) hk), h1, h2, if_neg (by omega)]
      | 1, hx =>
        simp at hx
        subst hx
        simp only at hk ⊢
        obtain ⟨h1, h2, h3, h4⟩ := cut_spot (W := W) (a := 0) (b := low H 0) (by omega) hk
        unfold cutF
        rw [hpl _ (cut_in rfl (by omega) (by omega) hk), h1, h2, if_neg (fun h => absurd h.2 (Nat.not_lt.2 (Nat.le_add_right _ _)))]
      | 2, hx =>
        simp at hx
        subst hx
        simp only at hk ⊢
        obtain ⟨h1, h2, h3, h4⟩ := cut_spot (W := W) (a := low W 0) (b := low H 0) (by omega) hk
        unfold cutF
        rw [hpl _ (cut_in rfl (by omega) (by omega) hk), h1, h2, if_neg (by omega)]
      | j + 3, hx => simp at hx
theorem bands_first_pos : ∀ (l x y W H : Nat) (f : Nat → Int), x = 0 → y = 0 → 0 < W → 0 < H → ∃ b, (bandsF l x y W H f)[0]? = some b ∧ 0 < b.1
  | 0, x, y, W, H, f, _, _, hW, hH => ⟨_, rfl, Nat.mul_pos hH hW⟩
  | l + 1, x, y, W, H, f, hx, hy, hW, hH => by
    subst hx hy
    obtain ⟨b, h1, h2⟩ := bands_first_pos l 0 0 (low W 0) (low H 0) (cutF W 0 0 (low W 0) (planeF 0 0 W H f)) rfl rfl (by unfold low; omega) (by unfold low; omega)
    refine ⟨b, ?_, h2⟩
    have hb : bandsF (l + 1) 0 0 W H f = bandsF l 0 0 (low W 0) (low H 0) (cutF W 0 0 (low W 0) (planeF 0 0 W H f)) ++ highs W H (low W 0) (low H 0) (planeF 0 0 W H f) := rfl
    rw [hb, List.getElem?_append_left (by rw [bandsF_len]; omega)]
    exact h1
theorem bands_small : ∀ (l x y W H : Nat) (f : Nat → Int) (i : Nat) (b : Nat × (Nat → Int)), (bandsF l x y W H f)[i]? = some b → b.1 ≤ H * W
  | 0, x, y, W, H, f, i, b, hb => by
    unfold bandsF at hb
    match i, hb with
    | 0, hb => simp at hb; subst hb; exact Nat.le_refl _
    | i + 1, hb => simp at hb
  | l + 1, x, y, W, H, f, i, b, hb => by
    have hlw : low W (x % 2) ≤ W := low_le (by omega)
    have hlh : low H (y % 2) ≤ H := low_le (by omega)
    unfold bandsF at hb
    by_cases hi : i < 3 * l + 1
    · rw [List.getElem?_append_left (by rw [bandsF_len]; exact hi)] at hb
      exact Nat.le_trans (bands_small l _ _ _ _ _ i b hb) (Nat.mul_le_mul hlh hlw)
    · rw [List.getElem?_append_right (by rw [bandsF_len]; omega), bandsF_len] at hb
      obtain ⟨j, hj⟩ : ∃ j, j = i - (3 * l + 1) := ⟨_, rfl⟩
      rw [← hj] at hb
      clear hj hi
      unfold highs at hb
      match j, hb with
      | 0, hb => simp at hb; subst hb; exact Nat.mul_le_mul hlh (Nat.sub_le _ _)
      | 1, hb => simp at hb; subst hb; exact Nat.mul_le_mul (Nat.sub_le _ _) hlw
      | 2, hb => simp at hb; subst hb; exact Nat.mul_le_mul (Nat.sub_le _ _) (Nat.sub_le _ _)
      | j + 3, hb => simp at hb
end Go.Proofs.Ytmcdhdofgaoadaa
