/- WALKS of the laws of rows: two places on; one sample; two samples. -/
import Derived.Test.YtgaojpobdgopbaaLiftLaws
namespace Go.Proofs.Ytgaojpobdgopbaa
open Go.RowKit
set_option maxHeartbeats 1000000
set_option linter.unusedVariables false

theorem liftShifts_walk (a : Int) (A : Option Addr) (n c : Nat) (f : Nat → Int) (b : Int) (w : World) (ha : IntsAt w w.heap.size A n f) (hn : n ≤ 9223372036854775807) :
    Calls Try.prog 10 #[.int .i64 a, .slice A n c, .int .i64 b] w fun e w' => e = .returned (.bool true) ∧ Below w.heap.size w w' := by
  obtain ⟨m, hm1, hm60, hm3⟩ : ∃ m, m ≤ n ∧ m ≤ 60 ∧ (n ≤ m ∨ 60 ≤ m) := ⟨min n 60, by omega, by omega, by omega⟩
  go_enter Try.func10, Try.ntmps10
  go_wp2_with fail
  refine (known9 _).mono ?_
  rintro e w1 ⟨rfl, hb1⟩
  go_wp2_with fail
  refine (within9n a 1000 (by omega) (by omega) _).mono ?_
  rintro e w1' ⟨t, ht, rfl, rfl⟩
  go_wp2_with fail
  refine (within9n b 500 (by omega) (by omega) _).mono ?_
  rintro e w1' ⟨s, hs, rfl, rfl⟩
  go_wp2_with fail
  refine (row9m A n c m f w1 ((ha.below hb1).more hb1.size) hn hm1 hm60 hm3).mono ?_
  rintro e w2 ⟨A', c', rfl, own, hb2⟩
  have i2 := own.ints
  have hb := below_trans hb1 hb2
  obtain ⟨r, hr⟩ : ∃ r, r = t + 2 * s := ⟨_, rfl⟩
  have es : (t : Int) + 2 * (s : Int) = (r : Int) := by omega
  have hr1 : r ≤ 2000 := by omega
  have ep := Lib.hid (show r % 2 = t % 2 by omega)
  clear hr
  clear hb1 hb2 own ha
  go_wp2_with fail
  refine (split_any t A' m c' (rowF f) w2 i2 (by omega) (row_within _ _) (by omega)).mono ?_
  rintro e w3 ⟨B1, d1, rfl, j1, hb3⟩
  have i3 := (i2.below hb3).more hb3.size
  have j3 := j1.ints
  have hb' := below_trans hb hb3
  clear i2 j1 hb hb3
  go_wp2_with fail
  refine (split_any r A' m c' (rowF f) w3 i3 (by omega) (row_within _ _) (by omega)).mono ?_
  rw [ep.out]
  rintro e w4 ⟨B2, d2, rfl, j4, hb4⟩
  have i4 := (i3.below hb4).more hb4.size
  have k3 := j3.below hb4
  have k4 := j4.ints
  have hb5 := below_trans hb' hb4
  clear i3 j3 j4 hb' hb4
  go_wp2_with fail
  refine (ints9 _ _ m _ _ _ w4 _ _ k3 k4 (by omega)).mono ?_
  rintro e w5 ⟨rfl, q, rfl⟩
  clear k3 k4
  have i5 := i4.drewN q
  have hb6 := below_drewN hb5 q
  clear i4 hb5
  go_wp2_with fail
  refine (join_any t A' m c' (rowF f) (w4.drewN q) i5 (by omega) (row_within _ _) (by omega)).mono ?_
  rintro e w6 ⟨B3, d3, rfl, j1, hb3⟩
  have i3 := (i5.below hb3).more hb3.size
  have j3 := j1.ints
  have hb' := below_trans hb6 hb3
  clear i5 j1 hb6 hb3
  go_wp2_with fail
  refine (join_any r A' m c' (rowF f) w6 i3 (by omega) (row_within _ _) (by omega)).mono ?_
  rw [ep.out]
  rintro e w7 ⟨B4, d4, rfl, j4, hb4⟩
  have k3 := j3.below hb4
  have k4 := j4.ints
  have hb5 := below_trans hb' hb4
  clear i3 j3 j4 hb' hb4
  go_wp2_with fail
  refine (ints9 _ _ m _ _ _ w7 _ _ k3 k4 (by omega)).mono ?_
  rintro e w8 ⟨rfl, q8, rfl⟩
  go_wp2_with fail
  go_ret
  exact ⟨rfl, below_drewN hb5 q8⟩

theorem liftOne_walk (a b : Int) (w : World) :
    Calls Try.prog 11 #[.int .i64 a, .int .i64 b] w fun e w' => e = .returned (.bool true) ∧ Below w.heap.size w w' := by
  go_enter Try.func11, Try.ntmps11
  go_wp2_with fail
  refine (known9 _).mono ?_
  rintro e w1 ⟨rfl, hb1⟩
  go_wp2_with fail
  refine (within9n a 1048576 (by omega) (by omega) _).mono ?_
  rintro e w1' ⟨t, ht, rfl, rfl⟩
  go_wp2_with fail
  refine (within9n b 1048576 (by omega) (by omega) _).mono ?_
  rintro e w1' ⟨s, hs, rfl, rfl⟩
  obtain ⟨v, hv⟩ : ∃ v : Int, v = (s : Int) - 524288 := ⟨_, rfl⟩
  have hv1 : -524288 ≤ v ∧ v < 524288 := by omega
  rw [show (s : Int) = v + 524288 by omega]
  have es : v + 524288 - 524288 = v := by omega
  clear hv hs
  go_wp2_with fail
  have l1 := IntsAt.lit w1 #[.int .i64 v] 3 1 (fun _ => v) (fun k hk => by (obtain rfl : k = 0 := by omega); rfl) (Nat.lt_succ_self _)
  have hvw : Within 1 72057594037927936 (fun _ => v) := fun _ _ => by show -72057594037927936 ≤ v ∧ v ≤ 72057594037927936; omega
  refine (split_any t _ 1 1 (fun _ => v) _ (l1.more (by simp)) (by omega) hvw (by omega)).mono ?_
  rintro e w2 ⟨B1, d1, rfl, j1, hb2⟩
  have hb := below_trans (below_alloc hb1 _) hb2
  clear l1 hb1 hb2
  go_wp2_with fail
  have l2 := IntsAt.lit w2 #[.int .i64 v] 3 1 (fun _ => v) (fun k hk => by (obtain rfl : k = 0 := by omega); rfl) (Nat.lt_succ_self _)
  have j2 := j1.alloc (.cells #[.int .i64 v] 3)
  refine (join_any t _ 1 1 (fun _ => v) _ (l2.more (by simp)) (by omega) hvw (by omega)).mono ?_
  rintro e w3 ⟨B2, d2, rfl, j3, hb3⟩
  have hb4 := below_trans (below_alloc hb _) hb3
  have j4 := j2.below hb3
  obtain ⟨g1, rfl⟩ := j4.row (by omega)
  obtain ⟨g2, rfl⟩ := j3.row (by omega)
  have c1 := j4.cell (k := 0) (by omega)
  have c2 := j3.cell (k := 0) (by omega)
  have hsw : Within 1 72057594037927936 (splitF 1 (t % 2) (fun _ => v)) := fun k hk => by
    have h : Within 1 524288 (fun _ => v) := fun _ _ => by show -524288 ≤ v ∧ v ≤ 524288; omega
    have := splitF_bd (o := t % 2) (by omega) h k hk
    omega
  have i4 := j4.ints
  clear hb hb3 j1 j2 l2 j3 j4 hvw
  rcases Nat.mod_two_eq_zero_or_one t with ho | ho
  · have hm : ((t : Int) % 2 == 0) = true := by rw [beq_iff_eq]; omega
    rw [ho, show splitF 1 0 (fun _ => v) 0 = v from rfl] at c1
    rw [ho, show joinF 1 0 (fun _ => v) 0 = v from rfl] at c2
    clear ho i4 hsw
    go_wp2_with fail
    go_ret
    exact ⟨rfl, hb4⟩
  · have hm : ((t : Int) % 2 == 0) = false := by rw [beq_eq_false_iff_ne]; omega
    rw [ho, show splitF 1 1 (fun _ => v) 0 = 2 * v from rfl] at c1
    rw [ho, show joinF 1 1 (fun _ => v) 0 = v / 2 from rfl] at c2
    go_wp2_with fail
    refine (join_any t _ 1 d1 _ _ i4 (by omega) hsw (by omega)).mono ?_
    rw [ho]
    rintro e w4 ⟨B4, d4, rfl, j4, hb5⟩
    have e1 : joinF 1 1 (splitF 1 1 (fun _ => v)) 0 = v := join_split (by omega) 0 (by omega)
    obtain ⟨g4, rfl⟩ := j4.row (by omega)
    have c4 := j4.cell (k := 0) (by omega)
    rw [e1] at c4
    have hb6 := below_trans hb4 hb5
    clear i4 hsw c1 c2 j4 hb4 hb5 e1 ho
    go_wp2_with fail
    go_ret
    exact ⟨rfl, hb6⟩

def twoF (u v : Int) (k : Nat) : Int := if k = 0 then u else v
theorem liftTwo_walk (a b : Int) (p : Bool) (w : World) :
    Calls Try.prog 8 #[.int .i64 a, .int .i64 b, .bool p] w fun e w' => e = .returned (.bool true) ∧ Below w.heap.size w w' := by
  go_enter Try.func8, Try.ntmps8
  go_wp2_with fail
  refine (known9 _).mono ?_
  rintro e w1 ⟨rfl, hb1⟩
  go_wp2_with fail
  refine (within9n a 1048576 (by omega) (by omega) _).mono ?_
  rintro e w1' ⟨t, ht, rfl, rfl⟩
  go_wp2_with fail
  refine (within9n b 1048576 (by omega) (by omega) _).mono ?_
  rintro e w1' ⟨s, hs, rfl, rfl⟩
  obtain ⟨u, hu⟩ : ∃ u : Int, u = (t : Int) - 524288 := ⟨_, rfl⟩
  have hu1 : -524288 ≤ u ∧ u < 524288 := by omega
  rw [show (t : Int) = u + 524288 by omega]
  have eu : u + 524288 - 524288 = u := by omega
  clear hu ht
  obtain ⟨v, hv⟩ : ∃ v : Int, v = (s : Int) - 524288 := ⟨_, rfl⟩
  have hv1 : -524288 ≤ v ∧ v < 524288 := by omega
  rw [show (s : Int) = v + 524288 by omega]
  have es : v + 524288 - 524288 = v := by omega
  clear hv hs
  have l1 := IntsAt.lit w1 #[.int .i64 u, .int .i64 v] 3 2 (twoF u v) (fun k hk => by
    have h : k = 0 ∨ k = 1 := by omega
    rcases h with rfl | rfl <;> rfl) (Nat.lt_succ_self _)
  have hvw : Within 2 72057594037927936 (twoF u v) := fun k _ => by unfold twoF; split <;> omega
  rcases p with _ | _
  · go_wp2_with fail
    refine (split_any 4 _ 2 2 (twoF u v) _ (l1.more (by simp)) (by omega) hvw (by omega)).mono ?_
    rintro e w2 ⟨B1, d1, rfl, j1, hb2⟩
    have hb := below_trans (below_alloc hb1 _) hb2
    obtain ⟨g1, rfl⟩ := j1.row (by omega)
    have c1 := j1.cell (k := 0) (by omega)
    have c2 := j1.cell (k := 1) (by omega)
    have z1 : splitF 2 (4 % 2) (twoF u v) 0 = u + (2 * (v - u) + 2) / 4 := by
      show u + ((v - (u + u) / 2) + (v - (u + u) / 2) + 2) / 4 = _
      omega
    have z2 : splitF 2 (4 % 2) (twoF u v) 1 = v - u := by
      show v - (u + u) / 2 = _
      omega
    rw [z1] at c1
    rw [z2] at c2
    clear l1 hb1 hb2 j1 z1 z2 hvw
    go_wp2_with fail
    go_ret
    exact ⟨rfl, hb⟩
  · go_wp2_with fail
    refine (split_any 5 _ 2 2 (twoF u v) _ (l1.more (by simp)) (by omega) hvw (by omega)).mono ?_
    rintro e w2 ⟨B1, d1, rfl, j1, hb2⟩
    have hb := below_trans (below_alloc hb1 _) hb2
    obtain ⟨g1, rfl⟩ := j1.row (by omega)
    have c1 := j1.cell (k := 0) (by omega)
    have c2 := j1.cell (k := 1) (by omega)
    have z1 : splitF 2 (5 % 2) (twoF u v) 0 = v + (2 * (u - v) + 2) / 4 := by
      show v + ((u - (v + v) / 2) + (u - (v + v) / 2) + 2) / 4 = _
      omega
    have z2 : splitF 2 (5 % 2) (twoF u v) 1 = u - v := by
      show u - (v + v) / 2 = _
      omega
    rw [z1] at c1
    rw [z2] at c2
    clear l1 hb1 hb2 j1 z1 z2 hvw
    go_wp2_with fail
    go_ret
    exact ⟨rfl, hb⟩
end Go.Proofs.Ytgaojpobdgopbaa
