/- WALKS of the laws of rows: the known row, and what comes back. -/
import Derived.Test.YtgaojpobdgopbaaLift6
import Derived.Test.YtgaojpobdgopbaaInts9
namespace Go.Proofs.Ytgaojpobdgopbaa
open Go.RowKit
set_option maxHeartbeats 1000000
set_option linter.unusedVariables false

theorem within9n (a : Int) (n : Nat) (h1 : 1 ≤ n) (h2 : n ≤ 4611686018427387904) (w : World) :
    Calls Try.prog 13 #[.int .i64 a, .int .i64 n] w fun e w' => ∃ t : Nat, t < n ∧ e = .returned (.int .i64 t) ∧ w = w' :=
  (within9 a n (by omega) (by omega) w).mono fun _ _ ⟨he, hw⟩ => ⟨(a % n).toNat, by have := Int.emod_lt_of_pos a (b := n) (by omega); have := Int.emod_nonneg a (b := n) (by omega); omega, by rw [he]; have := Int.emod_nonneg a (b := n) (by omega); rw [Int.toNat_of_nonneg this], hw⟩

theorem known9 (w : World) : Calls Try.prog 12 #[] w fun e w' => e = .returned (.bool true) ∧ Below w.heap.size w w' := by
  go_enter Try.func12, Try.ntmps12
  go_wp2_with fail
  have l1 := IntsAt.lit w #[.int .i64 5, .int .i64 5, .int .i64 5] 3 3 (fun _ => 5) (fun k hk => by
    have h : k = 0 ∨ k = 1 ∨ k = 2 := by omega
    rcases h with rfl | rfl | rfl <;> rfl) (Nat.lt_succ_self _)
  have z1 : splitF 3 (0 % 2) (fun _ => 5) 0 = 5 := by decide
  have z2 : splitF 3 (0 % 2) (fun _ => 5) 1 = 5 := by decide
  have z3 : splitF 3 (0 % 2) (fun _ => 5) 2 = 0 := by decide
  refine (split_any 0 _ 3 3 (fun _ => 5) _ (l1.more (by simp)) (by omega) (fun _ _ => (by decide : (-72057594037927936 : Int) ≤ 5 ∧ (5 : Int) ≤ 72057594037927936)) (by omega)).mono ?_
  rintro e w1 ⟨B1, c1, rfl, j1, hb⟩
  obtain ⟨g, rfl⟩ := j1.row (by omega)
  have hc1 := j1.cell (k := 0) (by omega)
  have hc2 := j1.cell (k := 1) (by omega)
  have hc3 := j1.cell (k := 2) (by omega)
  rw [z1] at hc1
  rw [z2] at hc2
  rw [z3] at hc3
  have hB : Below w.heap.size w w1 := below_trans (below_alloc (Below.refl _ _) _) hb
  clear j1 hb l1 z1 z2 z3
  go_wp2_with fail
  go_ret
  exact ⟨rfl, hB⟩

theorem row_within (f : Nat → Int) (m : Nat) : Within m 72057594037927936 (rowF f) := fun k _ => by have := rowF_bd f k; omega

theorem split_within (f : Nat → Int) (m o : Nat) (ho : o ≤ 1) : Within m 72057594037927936 (splitF m o (rowF f)) := fun k hk => by
  have h : Within m 524288 (rowF f) := fun k _ => by have := rowF_bd f k; omega
  have := splitF_bd ho h k hk
  omega

theorem liftBack_walk (a : Int) (A : Option Addr) (n c : Nat) (f : Nat → Int) (w : World) (ha : IntsAt w w.heap.size A n f) (hn : n ≤ 9223372036854775807) :
    Calls Try.prog 9 #[.int .i64 a, .slice A n c] w fun e w' => e = .returned (.bool true) ∧ Below w.heap.size w w' := by
  obtain ⟨m, hm1, hm60, hm3⟩ : ∃ m, m ≤ n ∧ m ≤ 60 ∧ (n ≤ m ∨ 60 ≤ m) := ⟨min n 60, by omega, by omega, by omega⟩
  go_enter Try.func9, Try.ntmps9
  go_wp2_with fail
  refine (known9 _).mono ?_
  rintro e w1 ⟨rfl, hb1⟩
  go_wp2_with fail
  refine (within9n a 1048576 (by omega) (by omega) _).mono ?_
  rintro e w1' ⟨t, ht, rfl, rfl⟩
  go_wp2_with fail
  refine (row9m A n c m f w1 ((ha.below hb1).more hb1.size) hn hm1 hm60 hm3).mono ?_
  rintro e w2 ⟨A', c', rfl, own, hb2⟩
  have i2 := own.ints
  have hb := below_trans hb1 hb2
  clear hb1 hb2 own ha
  go_wp2_with fail
  refine (split_any t A' m c' (rowF f) w2 i2 (by omega) (row_within _ _) (by omega)).mono ?_
  rintro e w3 ⟨B1, d1, rfl, j1, hb3⟩
  have i3 := (i2.below hb3).more hb3.size
  have j3 := j1.ints
  have hb' := below_trans hb hb3
  clear i2 j1 hb hb3
  go_wp2_with fail
  refine (join_any t B1 m d1 _ w3 j3 (by omega) (split_within _ _ _ (by omega)) (by omega)).mono ?_
  rintro e w4 ⟨B2, d2, rfl, j4, hb4⟩
  have i4 := (i3.below hb4).more hb4.size
  have k4 := (j4.congr (g := rowF f) (fun k hk => join_split (by omega) k hk)).ints
  have hb5 := below_trans hb' hb4
  clear i3 j3 hb' hb4
  go_wp2_with fail
  refine (ints9 _ _ m _ _ (rowF f) w4 _ _ k4 i4 (by omega)).mono ?_
  rintro e w5 ⟨rfl, q, rfl⟩
  go_wp2_with fail
  go_ret
  exact ⟨rfl, below_drewN hb5 q⟩
end Go.Proofs.Ytgaojpobdgopbaa
