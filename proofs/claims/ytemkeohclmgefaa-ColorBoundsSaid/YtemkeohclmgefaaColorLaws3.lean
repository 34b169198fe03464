/- WALKS of ColorClips, ColorShifts. -/
import Derived.Test.YtemkeohclmgefaaColorLaws
import Derived.Test.YtemkeohclmgefaaShift2
namespace Go.Proofs.Ytemkeohclmgefaa
open Go.RowKit
set_option maxHeartbeats 1000000
set_option linter.unusedVariables false

theorem depth_of (a : Int) : ∃ d : Nat, 1 ≤ d ∧ d ≤ 16 ∧ 1 + a % 16 = (d : Int) ∧ 0 ≤ a % 16 ∧ a % 16 < 16 := by
  refine ⟨(1 + a % 16).toNat, ?_, ?_, ?_, ?_, ?_⟩ <;> omega

theorem colorClips_walk (a0 : Int) (s : Bool) (a2 : Int) (w : World) :
    Calls Try.prog 8 #[.int .i64 a0, .bool s, .int .i64 a2] w fun e w' => e = .returned (.bool true) ∧ Below w.heap.size w w' := by
  obtain ⟨d, h1, h2, hd, hd1, hd2⟩ := depth_of a0
  obtain ⟨x, hx⟩ : ∃ x : Int, x = a2 % 1048576 - 524288 := ⟨_, rfl⟩
  have hx1 : -524288 ≤ x ∧ x < 524288 := by omega
  have hx2 : a2 % 1048576 - 524288 = x := hx.symm
  have hx3 : 0 ≤ a2 % 1048576 ∧ a2 % 1048576 < 1048576 := by omega
  clear hx
  have hh := halfOf_bd h1 h2
  have hw := half_wrap h1 h2
  have hm := shiftBy_bd h1 h2 s
  obtain ⟨lo, hlo⟩ : ∃ lo, lo = shiftBy d s - halfOf d := ⟨_, rfl⟩
  obtain ⟨hi, hhi⟩ : ∃ hi, hi = halfOf d - 1 + shiftBy d s := ⟨_, rfl⟩
  have CC := clip_cases d h1 h2 s x _ lo hi rfl hlo hhi
  obtain ⟨v, hv⟩ : ∃ v, clip d s x = v := ⟨_, rfl⟩
  have BD := bounds_any d h1 h2 s
  rw [← hlo, ← hhi] at BD
  have BD := Lib.hid BD
  have bl : -32768 ≤ lo ∧ lo ≤ 0 := by cases s <;> simp [shiftBy] at hlo hm <;> omega
  have bhi : 0 ≤ hi ∧ hi ≤ 65536 := by omega
  have lh : lo < hi := by omega
  have hmm : ∃ m, m = x + shiftBy d s ∧ (s = true → m = x) ∧ (s = false → m = x + halfOf d) := ⟨_, rfl, fun h => by subst h; exact Int.add_zero _, fun h => by subst h; rfl⟩
  obtain ⟨m, hm1, hm2, hm3⟩ := hmm
  rw [hv, ← hm1] at CC
  clear hlo hhi
  go_enter Try.func8, Try.ntmps8
  go_wp2_with fail
  refine (known11 _).mono ?_
  rintro e w1 ⟨rfl, hb1⟩
  go_wp2_with fail
  refine (within11 _ _ (by omega) (by omega) _).mono ?_
  rintro e w' ⟨rfl, rfl⟩
  go_wp2_with fail
  refine (within11 _ _ (by omega) (by omega) _).mono ?_
  rintro e w' ⟨rfl, rfl⟩
  go_wp2_with fail
  refine (BD.out w1).mono ?_
  rintro e w1' ⟨rfl, hq⟩
  subst hq
  go_wp2_with fail
  refine (unshift_any d h1 h2 s _ 1 1 (fun _ => x) _ (IntsAt.lit w1' #[.int .i64 x] 3 1 (fun _ => x) (fun k hk => by (obtain rfl : k = 0 := by omega); rfl) (by simp)) (by omega) (fun _ _ => by omega)).mono ?_
  rintro e w2 ⟨B, rfl, j1, hb2⟩
  have hB := below_trans hb1 (below_trans (below_alloc (Below.refl _ w1') _) hb2)
  obtain ⟨b, o, rfl, hl1, hc1⟩ := j1.first (show 0 < 1 by omega)
  rw [hv] at hc1
  have C5 : (m < lo ∧ v = lo) ∨ (lo ≤ m ∧ m ≤ hi ∧ v = m) ∨ (hi < m ∧ v = hi) := by omega
  clear hb1 hb2 j1 BD CC hm1
  have s1 : s = false → IntKind.i64.wrap (x + halfOf d) = m := fun h => by rw [hm3 h]; exact IntWalk.i64_in _ (by omega)
  clear hm3
  cases s
  · have s1 := s1 rfl
    clear hm2
    rcases C5 with ⟨y1, rfl⟩ | ⟨y1, y2, rfl⟩ | ⟨y1, rfl⟩
    all_goals
      go_wp2_with fail
      go_ret
      exact ⟨rfl, hB⟩
  · have e2 := hm2 rfl
    subst e2
    clear hm2 s1
    rcases C5 with ⟨y1, rfl⟩ | ⟨y1, y2, rfl⟩ | ⟨y1, rfl⟩
    all_goals
      go_wp2_with fail
      go_ret
      exact ⟨rfl, hB⟩

theorem colorShifts_walk (a0 : Int) (s : Bool) (A : Option Addr) (n c : Nat) (f : Nat → Int) (w : World) (ha : IntsAt w w.heap.size A n f) (hn : n ≤ 9223372036854775807) :
    Calls Try.prog 9 #[.int .i64 a0, .bool s, .slice A n c] w fun e w' => e = .returned (.bool true) ∧ Below w.heap.size w w' := by
  obtain ⟨d, h1, h2, hd, hd1, hd2⟩ := depth_of a0
  obtain ⟨m, hm1, hm60, hm3⟩ := min60 n
  go_enter Try.func9, Try.ntmps9
  go_wp2_with fail
  refine (known11 _).mono ?_
  rintro e w1 ⟨rfl, hb1⟩
  go_wp2_with fail
  refine (within11 _ _ (by omega) (by omega) _).mono ?_
  rintro e w' ⟨rfl, rfl⟩
  go_wp2_with fail
  refine (row9m A n c m f w1 ((ha.below hb1).more hb1.size) hn hm1 hm60 hm3).mono ?_
  rintro e w2 ⟨V, v, rfl, o2, hb2⟩
  have hB := below_trans hb1 hb2
  have i2 := o2.ints
  clear o2 hb1 hb2 ha
  go_wp2_with (at_builtin; refine wpList_copyE rfl _ _ 22 rfl 3 int_info Try.underlying22 w2.heap.size rfl _ V m v (rowF f) rfl i2 (Nat.le_refl _) (by omega) (Nat.le_refl _) ?_; intro U u w3 o3 hb3)
  have hB3 := below_trans hB hb3
  have i3 := (i2.below hb3).more hb3.size
  have j3 := o3.ints
  clear o3 hB hb3 i2
  refine (shift_any d h1 h2 s V m v (rowF f) w3 i3 (by omega) (row_small _ _)).mono ?_
  rintro e w4 ⟨P, rfl, p4, hb4⟩
  have hB4 := below_trans hB3 hb4
  have i4 := (i3.below hb4).more hb4.size
  have j4 := (j3.below hb4).more hb4.size
  clear i3 j3 hB3 hb4
  go_wp2_with fail
  refine (rshift_any d h1 h2 s U m u (rowF f) w4 j4 (by omega) (row_small _ _)).mono ?_
  rintro e w5 ⟨Q, q, rfl, q5, hb5⟩
  have hB5 := below_trans hB4 hb5
  have i5 := (i4.below hb5).more hb5.size
  have j5 := (j4.below hb5).more hb5.size
  have p5 := (p4.below hb5).more hb5.size
  clear i4 j4 p4 hB4 hb5
  go_wp2_with fail
  refine (ints11 _ _ m _ _ _ w5 _ _ p5 q5 (by omega)).mono ?_
  rintro e w6 ⟨rfl, z6, rfl⟩
  go_wp2_with fail
  refine (unshift_any d h1 h2 s V m v (rowF f) (w5.drewN z6) i5 (by omega) (row_small _ _)).mono ?_
  rintro e w7 ⟨P, rfl, p7, hb7⟩
  have hB7 := below_trans (below_drewN hB5 z6) hb7
  have i7 := ((i5.drewN z6).below hb7).more hb7.size
  have j7 := ((j5.drewN z6).below hb7).more hb7.size
  clear i5 j5 p5 q5 hB5 hb7
  go_wp2_with fail
  refine (runshift_any d h1 h2 s U m u (rowF f) w7 j7 (by omega) (row_small _ _)).mono ?_
  rintro e w8 ⟨Q, q, rfl, q8, hb8⟩
  have hB8 := below_trans hB7 hb8
  have i8 := (i7.below hb8).more hb8.size
  have j8 := (j7.below hb8).more hb8.size
  have p8 := (p7.below hb8).more hb8.size
  clear i7 j7 p7 hB7 hb8
  go_wp2_with fail
  refine (ints11 _ _ m _ _ _ w8 _ _ p8 q8 (by omega)).mono ?_
  rintro e w9 ⟨rfl, z9, rfl⟩
  go_wp2_with fail
  refine (ints11 _ _ m _ _ _ (w8.drewN z9) _ _ i8 j8 (by omega)).mono ?_
  rintro e w10 ⟨rfl, z10, rfl⟩
  go_wp2
  go_ret
  exact ⟨rfl, below_drewN hB8 _⟩
end Go.Proofs.Ytemkeohclmgefaa
