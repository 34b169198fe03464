/- CONTRACT of dwt.Split: the bands of a plane. -/
import Derived.Test.YtmcdhdofgaoadaaBands
import Derived.Deep.CutBlock
namespace Go.Proofs.Ytmcdhdofgaoadaa
open Go.RowKit
set_option maxHeartbeats 8000000
set_option linter.unusedVariables false
set_option linter.unusedSimpArgs false

/-- a plane split once, in place -/
def planeF (x y W H : Nat) (f : Nat → Int) : Nat → Int := rowsF W (splitF W (x % 2)) (colF W (splitF H (y % 2)) f)
/-- the three high bands of a split plane -/
def highs (W H lw lh : Nat) (G : Nat → Int) : List (Nat × (Nat → Int)) := [(lh * (W - lw), cutF W lw 0 (W - lw) G), ((H - lh) * lw, cutF W 0 lh lw G), ((H - lh) * (W - lw), cutF W lw lh (W - lw) G)]
/-- the bands of a plane split l times -/
def bandsF : Nat → Nat → Nat → Nat → Nat → (Nat → Int) → List (Nat × (Nat → Int))
  | 0, x, y, W, H, f => [(H * W, f)]
  | l + 1, x, y, W, H, f => bandsF l (hf x) (hf y) (low W (x % 2)) (low H (y % 2)) (cutF W 0 0 (low W (x % 2)) (planeF x y W H f)) ++ highs W H (low W (x % 2)) (low H (y % 2)) (planeF x y W H f)
theorem bandsF_len : ∀ (l x y W H : Nat) (f : Nat → Int), (bandsF l x y W H f).length = 3 * l + 1
  | 0, _, _, _, _, _ => rfl
  | l + 1, x, y, W, H, f => by
    unfold bandsF
    rw [List.length_append, bandsF_len]
    rfl

theorem div_lt {H W N k : Nat} (hN : H * W = N) (hk : k < N) : k / W < H := by
  rw [← hN] at hk
  exact Nat.div_lt_of_lt_mul (by rwa [Nat.mul_comm] at hk)
theorem pos_of {H W N k : Nat} (hN : H * W = N) (hk : k < N) : 0 < W := by
  rcases Nat.eq_zero_or_pos W with h | h
  · rw [h, Nat.mul_zero] at hN; omega
  · exact h
theorem colF_within {W H N o : Nat} {M : Int} {f : Nat → Int} (hN : H * W = N) (ho : o ≤ 1) (h : Within N M f) : Within N (4 * M + 3) (colF W (splitF H o) f) := fun k hk => by
  unfold colF
  refine splitF_bd ho (fun y hy => h _ ?_) _ (div_lt hN hk)
  exact in_plane hN rfl (Nat.mod_lt _ (pos_of hN hk)) hy
theorem rowsF_within {W H N o : Nat} {M : Int} {f : Nat → Int} (hN : H * W = N) (ho : o ≤ 1) (h : Within N M f) : Within N (4 * M + 3) (rowsF W (splitF W o) f) := fun k hk => by
  unfold rowsF
  refine splitF_bd ho (fun x hx => h _ ?_) _ (Nat.mod_lt _ (pos_of hN hk))
  exact in_plane hN rfl hx (div_lt hN hk)
theorem planeF_within {x y W H N : Nat} {M : Int} {f : Nat → Int} (hN : H * W = N) (h : Within N M f) : Within N (16 * M + 15) (planeF x y W H f) := by
  have := rowsF_within (o := x % 2) hN (by omega) (colF_within (o := y % 2) hN (by omega) h)
  rw [show (4 : Int) * (4 * M + 3) + 3 = 16 * M + 15 by omega] at this
  exact this
theorem cut_within {W H N a b n m : Nat} {M : Int} {f : Nat → Int} (hN : H * W = N) (h1 : a + n ≤ W) (h2 : b + m ≤ H) (h : Within N M f) : Within (m * n) M (cutF W a b n f) := fun k hk => by
  have h3 : k / n < m := Nat.div_lt_of_lt_mul (by rwa [Nat.mul_comm] at hk)
  have h4 : 0 < n := by
    rcases Nat.eq_zero_or_pos n with h | h
    · rw [h, Nat.mul_zero] at hk; omega
    · exact h
  have h5 := Nat.mod_lt k h4
  unfold cutF
  have := in_plane (W := W) (H := H) (N := N) (x := a + k % n) (y := b + k / n) hN rfl (by omega) (by omega)
  rw [← Nat.add_assoc] at this
  exact h _ this

theorem cutV_any (g N W H : Nat) (f : Nat → Int) (a b n m : Nat) (X0 Y0 X1 Y1 : Int) (hX0 : X0 = a) (hY0 : Y0 = b) (hX1 : X1 = (a : Int) + n) (hY1 : Y1 = (b : Int) + m) (w : World) (hN : H * W = N) (hp : PInt w g N f) (hN2 : N ≤ 1099511627776) (hW : W ≤ 1048576) (hH : H ≤ 1048576) (h1 : a + n ≤ W) (h2 : b + m ≤ H) :
    Calls Try.prog 30 #[.slice (some ⟨g, 0, none⟩) N N, .int .i64 W, .agg #[.int .i64 X0, .int .i64 Y0, .int .i64 X1, .int .i64 Y1]] w fun e w' => ∃ A' c', e = .returned (.slice A' (m * n) c') ∧ m * n ≤ c' ∧ OwnI w' w.heap.size 3 (.slice A' (m * n) c') (m * n) (cutF W a b n f) ∧ Below w.heap.size w w' := by
  subst hX0 hY0 hX1 hY1
  refine (cut_any (some ⟨g, 0, none⟩) W H N f a b n m w N hN (hp.ints hp.lt) (Nat.le_refl _) hN2 hW hH h1 h2).mono ?_
  rintro e w' ⟨A', c', rfl, o, hb⟩
  exact ⟨A', c', rfl, o.cap.1, o, hb⟩

theorem dsplit1_any (rb y : Nat) (hy : y ≤ 9223372036854775807) (A : Option Addr) (n c : Nat) (f : Nat → Int) (w : World) (hc : w.cell? ⟨rb, 1, none⟩ = some (.int .i64 y)) (ha : IntsAt w w.heap.size A n f) (hn : n ≤ 1099511627775) (hb : Within n 72057594037927936 f) :
    Calls Try.prog 24 #[.slice A n c, .pointer (some ⟨rb, 0, none⟩)] w fun e w' => ∃ A' c', e = .returned (.slice A' n c') ∧ OwnI w' w.heap.size 3 (.slice A' n c') n (splitF n (y % 2) f) ∧ Below w.heap.size w w' := by
  go_enter Try.func24, Try.ntmps24
  go_wp2_with fail
  refine (split_any y A n c f w ha hn hb hy).mono ?_
  rintro e w1 ⟨A', c', rfl, o1, b1⟩
  go_wp2_with fail
  go_ret
  exact ⟨A', c', rfl, o1, b1⟩
theorem dsplit2_any (rb x : Nat) (hx : x ≤ 9223372036854775807) (A : Option Addr) (n c : Nat) (f : Nat → Int) (w : World) (hc : w.cell? ⟨rb, 0, none⟩ = some (.int .i64 x)) (ha : IntsAt w w.heap.size A n f) (hn : n ≤ 1099511627775) (hb : Within n 72057594037927936 f) :
    Calls Try.prog 27 #[.slice A n c, .pointer (some ⟨rb, 0, none⟩)] w fun e w' => ∃ A' c', e = .returned (.slice A' n c') ∧ OwnI w' w.heap.size 3 (.slice A' n c') n (splitF n (x % 2) f) ∧ Below w.heap.size w w' := by
  go_enter Try.func27, Try.ntmps27
  go_wp2_with fail
  refine (split_any x A n c f w ha hn hb hx).mono ?_
  rintro e w1 ⟨A', c', rfl, o1, b1⟩
  go_wp2_with fail
  go_ret
  exact ⟨A', c', rfl, o1, b1⟩
end Go.Proofs.Ytmcdhdofgaoadaa
