/- PLAIN LAWS: a plane split and joined; the four parts laid make the plane; the lowest band. -/
import Derived.Test.YtmcdhdofgaoadaaLay
namespace Go.Proofs.Ytmcdhdofgaoadaa
open Go.RowKit
set_option maxHeartbeats 2000000
set_option linter.unusedVariables false

theorem joinF_congr {n o k : Nat} {v u : Nat → Int} (ho : o ≤ 1) (hk : k < n) (h : ∀ j, j < n → v j = u j) : joinF n o v k = joinF n o u k := by
  unfold joinF
  by_cases h1 : n = 1
  · rw [if_pos h1, if_pos h1, h k hk]
  · have h2 : 2 ≤ n := by omega
    rw [if_neg h1, if_neg h1]
    have e : ∀ j, j < n → v (home n o j) = u (home n o j) := fun j hj => h _ (home_lt ho hj)
    have e2 : ∀ j, j < n → drop2 n o (fun j => v (home n o j)) n j = drop2 n o (fun j => u (home n o j)) n j := fun j hj => by
      unfold drop2 besF
      simp only
      rw [e j hj, e _ (lft_lt h2 hj), e _ (rgt_lt h2 hj)]
    unfold drop1 besF
    rw [e2 k hk, e2 _ (lft_lt h2 hk), e2 _ (rgt_lt h2 hk)]
/-- the rows joined are the columns' plane -/
theorem rows_back {W H N o : Nat} {C G : Nat → Int} (hN : H * W = N) (ho : o ≤ 1) (hG : ∀ k, k < N → G k = rowsF W (splitF W o) C k) (k : Nat) (hk : k < N) : rowsF W (joinF W o) G k = C k := by
  have hW := pos_of hN hk
  have hm := Nat.mod_lt k hW
  unfold rowsF
  have e : ∀ x, x < W → G (k / W * W + x) = splitF W o (fun x => C (k / W * W + x)) x := fun x hx => by
    rw [hG _ (in_plane hN rfl hx (div_lt hN hk))]
    unfold rowsF
    rw [row_div hx, row_mod hx]
  rw [joinF_congr ho hm e, join_split ho _ hm]
  rw [Nat.mul_comm, Nat.div_add_mod]
theorem cols_back {W H N o : Nat} {f C : Nat → Int} (hN : H * W = N) (ho : o ≤ 1) (hC : ∀ k, k < N → C k = colF W (splitF H o) f k) (k : Nat) (hk : k < N) : colF W (joinF H o) C k = f k := by
  have hW := pos_of hN hk
  have hd := div_lt hN hk
  have hm := Nat.mod_lt k hW
  unfold colF
  have e : ∀ y, y < H → C (y * W + k % W) = splitF H o (fun y => f (y * W + k % W)) y := fun y hy => by
    rw [hC _ (in_plane hN rfl hm hy)]
    unfold colF
    rw [row_div hm, row_mod hm]
  rw [joinF_congr ho hd e, join_split ho _ hd]
  rw [Nat.mul_comm, Nat.div_add_mod]

/-- a part cut out, as it lies -/
theorem cut_at {W a b n : Nat} {G : Nat → Int} {k : Nat} (h1 : a ≤ k % W) (h2 : k % W < a + n) (h3 : b ≤ k / W) : cutF W a b n G ((k / W - b) * n + (k % W - a)) = G k := by
  unfold cutF
  rw [row_div (by omega), row_mod (by omega)]
  have e1 : b + (k / W - b) = k / W := by
    generalize k / W = d at *
    omega
  rw [e1]
  congr 1
  have := Nat.div_add_mod k W
  rw [Nat.mul_comm] at this
  omega
/-- the four parts laid, one after the other -/
theorem laid4 {W H N lw lh : Nat} {G f : Nat → Int} (hN : H * W = N) (hw : lw ≤ W) (hh : lh ≤ H) (k : Nat) (hk : k < N) :
    layF W lw lh (W - lw) (H - lh) (cutF W lw lh (W - lw) G) (layF W 0 lh lw (H - lh) (cutF W 0 lh lw G) (layF W lw 0 (W - lw) lh (cutF W lw 0 (W - lw) G) (layF W 0 0 lw lh (cutF W 0 0 lw G) f))) k = G k := by
  have hW := pos_of hN hk
  have hm := Nat.mod_lt k hW
  have hd := div_lt hN hk
  unfold layF
  by_cases c1 : k % W < lw
  · by_cases c2 : k / W < lh
    · rw [if_neg (by omega), if_neg (fun h => absurd c2 (Nat.not_lt.2 h.2.2.1)), if_neg (by omega), if_pos ⟨Nat.zero_le _, by omega, Nat.zero_le _, by rw [Nat.zero_add]; exact c2⟩]
      exact cut_at (Nat.zero_le _) (by omega) (Nat.zero_le _)
    · have c3 : lh ≤ k / W := Nat.not_lt.1 c2
      rw [if_neg (by omega), if_pos ⟨Nat.zero_le _, by omega, c3, by rw [Nat.add_sub_of_le hh]; exact hd⟩]
      exact cut_at (Nat.zero_le _) (by omega) c3
  · have c4 : lw ≤ k % W := Nat.not_lt.1 c1
    by_cases c2 : k / W < lh
    · rw [if_neg (fun h => absurd c2 (Nat.not_lt.2 h.2.2.1)), if_neg (by omega), if_pos ⟨c4, by omega, Nat.zero_le _, by rw [Nat.zero_add]; exact c2⟩]
      exact cut_at c4 (by omega) (Nat.zero_le _)
    · have c3 : lh ≤ k / W := Nat.not_lt.1 c2
      rw [if_pos ⟨c4, by omega, c3, by rw [Nat.add_sub_of_le hh]; exact hd⟩]
      exact cut_at c4 (by omega) c3

/-- the lowest band of s splits -/
def lowest : Nat → Nat → Nat → Nat → Nat → (Nat → Int) → Nat × (Nat → Int)
  | 0, x, y, W, H, f => (H * W, f)
  | s + 1, x, y, W, H, f => lowest s (hf x) (hf y) (low W (x % 2)) (low H (y % 2)) (cutF W 0 0 (low W (x % 2)) (planeF x y W H f))
theorem lowest_is : ∀ (s x y W H : Nat) (f : Nat → Int), (bandsF s x y W H f)[0]? = some (lowest s x y W H f)
  | 0, _, _, _, _, _ => rfl
  | s + 1, x, y, W, H, f => by
    unfold bandsF lowest
    rw [List.getElem?_append_left (by rw [bandsF_len]; omega)]
    exact lowest_is s _ _ _ _ _
/-- a plane moved by an even number is split the same -/
theorem planeF_par {x y x' y' W H : Nat} {f : Nat → Int} (hx : x % 2 = x' % 2) (hy : y % 2 = y' % 2) : planeF x y W H f = planeF x' y' W H f := by
  unfold planeF
  rw [hx, hy]
theorem hf_moved (x k l : Nat) : hf (x + k * 2 ^ (l + 1)) = hf x + k * 2 ^ l := by
  unfold hf
  rw [Nat.pow_succ, ← Nat.mul_assoc]
  omega
theorem bands_moved : ∀ (l x y k j W H : Nat) (f : Nat → Int), bandsF l (x + k * 2 ^ l) (y + j * 2 ^ l) W H f = bandsF l x y W H f
  | 0, _, _, _, _, _, _, _ => rfl
  | l + 1, x, y, k, j, W, H, f => by
    have px : (x + k * 2 ^ (l + 1)) % 2 = x % 2 := by rw [Nat.pow_succ, ← Nat.mul_assoc]; omega
    have py : (y + j * 2 ^ (l + 1)) % 2 = y % 2 := by rw [Nat.pow_succ, ← Nat.mul_assoc]; omega
    unfold bandsF
    rw [px, py, hf_moved, hf_moved, bands_moved l, planeF_par px py]
end Go.Proofs.Ytmcdhdofgaoadaa
