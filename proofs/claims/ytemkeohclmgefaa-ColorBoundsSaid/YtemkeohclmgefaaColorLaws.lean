/- WALKS of the laws of colors. -/
import Derived.Test.YtemkeohclmgefaaColor
namespace Go.Proofs.Ytemkeohclmgefaa
open Go.RowKit
set_option maxHeartbeats 1000000
set_option linter.unusedVariables false

theorem known11 (w : World) : Calls Try.prog 11 #[] w fun e w' => e = .returned (.bool true) ∧ Below w.heap.size w w' := by
  go_enter Try.func11, Try.ntmps11
  go_wp2_with fail
  have l1 := ((IntsAt.lit w #[.int .i64 1] 3 1 (fun _ => 1) (fun k hk => by (obtain rfl : k = 0 := by omega); rfl) (Nat.lt_succ_self _)).alloc (by simp) (.cells #[.int .i64 2] 3)).alloc (by simp) (.cells #[.int .i64 3] 3)
  have l2 := (IntsAt.lit (w.alloc (.cells #[.int .i64 1] 3)) #[.int .i64 2] 3 1 (fun _ => 2) (fun k hk => by (obtain rfl : k = 0 := by omega); rfl) (Nat.lt_succ_self _)).alloc (by simp) (.cells #[.int .i64 3] 3)
  have l3 := IntsAt.lit ((w.alloc (.cells #[.int .i64 1] 3)).alloc (.cells #[.int .i64 2] 3)) #[.int .i64 3] 3 1 (fun _ => 3) (fun k hk => by (obtain rfl : k = 0 := by omega); rfl) (Nat.lt_succ_self _)
  have z1 : turnY (fun _ => 1) (fun _ => 2) (fun _ => 3) 0 = 2 := by decide
  have z2 : turnD (fun _ => 3) (fun _ => 2) 0 = 1 := by decide
  have z3 : turnD (fun _ => 1) (fun _ => 2) 0 = -1 := by decide
  simp only [World.size_alloc] at l1 l2 l3
  refine (turn_any _ _ _ 1 1 1 1 (fun _ => 1) (fun _ => 2) (fun _ => 3) _ (l1.more (by simp)) (l2.more (by simp)) (l3.more (by simp)) (by omega) (fun _ _ => by omega) (fun _ _ => by omega) (fun _ _ => by omega)).mono ?_
  rintro e w1 ⟨B1, B2, B3, rfl, j1, j2, j3, hb⟩
  obtain ⟨b1, o1, rfl, hl1, hc1⟩ := j1.first (show 0 < 1 by omega)
  obtain ⟨b2, o2, rfl, hl2, hc2⟩ := j2.first (show 0 < 1 by omega)
  obtain ⟨b3, o3, rfl, hl3, hc3⟩ := j3.first (show 0 < 1 by omega)
  rw [z1] at hc1
  rw [z2] at hc2
  rw [z3] at hc3
  have hB : Below w.heap.size w w1 := below_trans (below_alloc (below_alloc (below_alloc (Below.refl _ _) _) _) _) hb
  clear j1 j2 j3 hb l1 l2 l3 z1 z2 z3
  go_wp2
  go_ret
  exact ⟨rfl, hB⟩

theorem min60 (n : Nat) : ∃ m, m ≤ n ∧ m ≤ 60 ∧ (n ≤ m ∨ 60 ≤ m) := ⟨min n 60, by omega, by omega, by omega⟩

theorem colorGray_walk (A : Option Addr) (n c : Nat) (f : Nat → Int) (w : World) (ha : IntsAt w w.heap.size A n f) (hn : n ≤ 9223372036854775807) :
    Calls Try.prog 3 #[.slice A n c] w fun e w' => e = .returned (.bool true) ∧ Below w.heap.size w w' := by
  obtain ⟨m, hm1, hm60, hm3⟩ := min60 n
  go_enter Try.func3, Try.ntmps3
  go_wp2_with fail
  refine (known11 _).mono ?_
  rintro e w1 ⟨rfl, hb1⟩
  go_wp2_with fail
  refine (row9m A n c m f w1 ((ha.below hb1).more hb1.size) hn hm1 hm60 hm3).mono ?_
  rintro e w2 ⟨A', c', rfl, own, hb2⟩
  have i1 := own.ints
  have hb := below_trans hb1 hb2
  clear hb1 hb2 own ha
  go_wp2_with fail
  refine (turn_any A' A' A' m c' c' c' (rowF f) (rowF f) (rowF f) w2 i1 i1 i1 (by omega) (fun k _ => by have := rowF_bd f k; omega) (fun k _ => by have := rowF_bd f k; omega) (fun k _ => by have := rowF_bd f k; omega)).mono ?_
  rintro e w3 ⟨B1, B2, B3, rfl, j1, j2, j3, hb3⟩
  have k1 := j1.congr (g := rowF f) (fun k _ => by unfold turnY; omega)
  have k2 := j2.congr (g := fun _ => 0) (fun k _ => by unfold turnD; omega)
  have k3 := j3.congr (g := fun _ => 0) (fun k _ => by unfold turnD; omega)
  have i3 := (i1.below hb3).more hb3.size
  have hb' := below_trans hb hb3
  clear j1 j2 j3 hb hb3 i1
  have hmk := fun u => run_make_row' (P := Try.prog) 22 3 (.int .i64 0) 8 Try.underlying22 int_info rfl .i64 .i64 m (by omega) (by omega) u
  go_wp2_with fail
  refine (ints11 _ _ m _ _ (rowF f) w3 _ _ k1 i3 (by omega)).mono ?_
  rintro e w4 ⟨rfl, q4, rfl⟩
  go_wp2_with fail
  refine (ints11 _ _ m _ _ (fun _ => 0) _ _ (w3.heap.size + 1) ((k2.drewN q4).alloc (Nat.le_refl _) _) (IntsAt.made _ _ _ _ _ _ (by simp) (by omega)) (by omega)).mono ?_
  rintro e w5 ⟨rfl, q5, rfl⟩
  go_wp2_with fail
  refine (ints11 _ _ m _ _ (fun _ => 0) _ _ (w3.heap.size + 2) ((((k3.drewN q4).alloc (Nat.le_refl _) _).drewN q5).alloc (by simp) _) (IntsAt.made _ _ _ _ _ _ (by simp) (by omega)) (by omega)).mono ?_
  rintro e w6 ⟨rfl, q6, rfl⟩
  have hB := below_trans hb' (below_drewN (below_alloc (below_drewN (below_alloc (below_drewN (Below.refl _ w3) q4) (.cells (madeCells #[.int .i64 0] m) 3)) q5) (.cells (madeCells #[.int .i64 0] m) 3)) q6)
  go_wp2
  go_ret
  exact ⟨rfl, hB⟩

theorem three_any (A1 A2 A3 : Option Addr) (n1 n2 n3 c1 c2 c3 : Nat) (f1 f2 f3 : Nat → Int) (w : World) (h1 : IntsAt w w.heap.size A1 n1 f1) (h2 : IntsAt w w.heap.size A2 n2 f2) (h3 : IntsAt w w.heap.size A3 n3 f3)
    (hn1 : n1 ≤ 9223372036854775807) (hn2 : n2 ≤ 9223372036854775807) (hn3 : n3 ≤ 9223372036854775807) :
    Calls Try.prog 15 #[.slice A1 n1 c1, .slice A2 n2 c2, .slice A3 n3 c3] w fun e w' => ∃ (m : Nat) (B1 B2 B3 : Option Addr) (d1 d2 d3 : Nat), m ≤ 60 ∧ e = .returned (.tuple #[.slice B1 m d1, .slice B2 m d2, .slice B3 m d3]) ∧
      IntsAt w' w'.heap.size B1 m (rowF f1) ∧ IntsAt w' w'.heap.size B2 m (rowF f2) ∧ IntsAt w' w'.heap.size B3 m (rowF f3) ∧ m ≤ d1 ∧ m ≤ d2 ∧ m ≤ d3 ∧ d1 ≤ 9223372036854775807 ∧ d2 ≤ 9223372036854775807 ∧ d3 ≤ 9223372036854775807 ∧ Below w.heap.size w w' := by
  obtain ⟨m1, a1, b1, e1⟩ := min60 n1
  obtain ⟨m2, a2, b2, e2⟩ := min60 n2
  obtain ⟨m3, a3, b3, e3⟩ := min60 n3
  go_enter Try.func15, Try.ntmps15
  go_wp2_with fail
  refine (row9m A1 n1 c1 m1 f1 w h1 hn1 a1 b1 e1).mono ?_
  rintro e w1 ⟨X, x, rfl, o1, hb1⟩
  go_wp2_with fail
  refine (row9m A2 n2 c2 m2 f2 w1 ((h2.below hb1).more hb1.size) hn2 a2 b2 e2).mono ?_
  rintro e w2 ⟨Y, y, rfl, o2, hb2⟩
  have hb12 := below_trans hb1 hb2
  go_wp2_with fail
  refine (row9m A3 n3 c3 m3 f3 w2 ((h3.below hb12).more hb12.size) hn3 a3 b3 e3).mono ?_
  rintro e w3 ⟨Z, z, rfl, o3, hb3⟩
  have hb123 := below_trans hb12 hb3
  have i1 := (o1.ints.below (below_trans hb2 hb3)).more (below_trans hb2 hb3).size
  have i2 := (o2.ints.below hb3).more hb3.size
  have i3 := o3.ints
  have k1 := o1.cap
  have k2 := o2.cap
  have k3 := o3.cap
  clear o1 o2 o3 hb1 hb2 hb3 hb12 h1 h2 h3
  have hmin : m1 ≤ m2 ∧ m1 ≤ m3 ∨ m2 < m1 ∧ m2 ≤ m3 ∨ m3 < m1 ∧ m3 < m2 := by omega
  rcases hmin with ⟨g1, g2⟩ | ⟨g1, g2⟩ | ⟨g1, g2⟩
  · go_wp2_with fail
    go_quiet (fail)
    go_wp2_with fail
    go_ret3
    exact ⟨m1, X, Y, Z, x, y, z, b1, rfl, i1, i2.less g1, i3.less g2, by omega, by omega, by omega, k1.2, k2.2, k3.2, below_drewN hb123 _⟩
  · go_wp2_with fail
    go_quiet (fail)
    go_wp2_with fail
    go_ret3
    exact ⟨m2, X, Y, Z, x, y, z, b2, rfl, i1.less (by omega), i2, i3.less g2, by omega, by omega, by omega, k1.2, k2.2, k3.2, below_drewN hb123 _⟩
  · go_wp2_with fail
    go_quiet (fail)
    go_wp2_with fail
    go_ret3
    exact ⟨m3, X, Y, Z, x, y, z, b3, rfl, i1.less (by omega), i2.less (by omega), i3, by omega, by omega, by omega, k1.2, k2.2, k3.2, below_drewN hb123 _⟩

theorem row_small (f : Nat → Int) : ∀ (m : Nat) (k : Nat), k < m → -1099511627776 ≤ rowF f k ∧ rowF f k ≤ 1099511627776 := fun _ k _ => by have := rowF_bd f k; omega

theorem colorSwaps_walk (A1 A2 A3 : Option Addr) (n1 n2 n3 c1 c2 c3 : Nat) (f1 f2 f3 : Nat → Int) (w : World) (h1 : IntsAt w w.heap.size A1 n1 f1) (h2 : IntsAt w w.heap.size A2 n2 f2) (h3 : IntsAt w w.heap.size A3 n3 f3)
    (hn1 : n1 ≤ 9223372036854775807) (hn2 : n2 ≤ 9223372036854775807) (hn3 : n3 ≤ 9223372036854775807) :
    Calls Try.prog 5 #[.slice A1 n1 c1, .slice A2 n2 c2, .slice A3 n3 c3] w fun e w' => e = .returned (.bool true) ∧ Below w.heap.size w w' := by
  go_enter Try.func5, Try.ntmps5
  go_wp2_with fail
  refine (known11 _).mono ?_
  rintro e w1 ⟨rfl, hb1⟩
  go_wp2_with fail
  refine (three_any A1 A2 A3 n1 n2 n3 c1 c2 c3 f1 f2 f3 w1 ((h1.below hb1).more hb1.size) ((h2.below hb1).more hb1.size) ((h3.below hb1).more hb1.size) hn1 hn2 hn3).mono ?_
  rintro e w2 ⟨m, X, Y, Z, x, y, z, hm, rfl, i1, i2, i3, _, _, _, _, _, _, hb2⟩
  have hb := below_trans hb1 hb2
  clear h1 h2 h3 hb1 hb2
  go_wp2_with fail
  refine (turn_any X Y Z m x y z (rowF f1) (rowF f2) (rowF f3) w2 i1 i2 i3 (by omega) (row_small _ _) (row_small _ _) (row_small _ _)).mono ?_
  rintro e w3 ⟨P, Q, R, rfl, jp, jq, jr, hb3⟩
  have hb' := below_trans hb hb3
  have i1' := (i1.below hb3).more hb3.size
  have i2' := (i2.below hb3).more hb3.size
  have i3' := (i3.below hb3).more hb3.size
  clear i1 i2 i3 hb hb3
  go_wp2_with fail
  refine (turn_any Z Y X m z y x (rowF f3) (rowF f2) (rowF f1) w3 i3' i2' i1' (by omega) (row_small _ _) (row_small _ _) (row_small _ _)).mono ?_
  rintro e w4 ⟨I', J', K', rfl, ji, jj, jk, hb4⟩
  have hb'' := below_trans hb' hb4
  have kp := (jp.below hb4).more hb4.size
  have kq := (jq.below hb4).more hb4.size
  have kr := (jr.below hb4).more hb4.size
  have ki := ji.congr (g := turnY (rowF f1) (rowF f2) (rowF f3)) (fun k _ => by unfold turnY; omega)
  clear jp jq jr ji hb' hb4 i1' i2' i3'
  go_wp2_with fail
  refine (ints11 _ _ m _ _ _ w4 _ _ kp ki (by omega)).mono ?_
  rintro e w5 ⟨rfl, q5, rfl⟩
  go_wp2_with fail
  refine (ints11 _ _ m _ _ _ (w4.drewN q5) _ _ kq jk (by omega)).mono ?_
  rintro e w6 ⟨rfl, q6, rfl⟩
  go_wp2_with fail
  refine (ints11 _ _ m _ _ _ (w4.drewN (q5 + q6)) _ _ kr jj (by omega)).mono ?_
  rintro e w7 ⟨rfl, q7, rfl⟩
  go_wp2
  go_ret
  exact ⟨rfl, below_drewN hb'' _⟩

theorem colorPlaces_walk (A1 A2 A3 : Option Addr) (n1 n2 n3 c1 c2 c3 : Nat) (f1 f2 f3 : Nat → Int) (at_ : Int) (w : World) (h1 : IntsAt w w.heap.size A1 n1 f1) (h2 : IntsAt w w.heap.size A2 n2 f2) (h3 : IntsAt w w.heap.size A3 n3 f3)
    (hn1 : n1 ≤ 9223372036854775807) (hn2 : n2 ≤ 9223372036854775807) (hn3 : n3 ≤ 9223372036854775807) :
    Calls Try.prog 4 #[.slice A1 n1 c1, .slice A2 n2 c2, .slice A3 n3 c3, .int .i64 at_] w fun e w' => e = .returned (.bool true) ∧ Below w.heap.size w w' := by
  go_enter Try.func4, Try.ntmps4
  go_wp2_with fail
  refine (known11 _).mono ?_
  rintro e w1 ⟨rfl, hb1⟩
  go_wp2_with fail
  refine (three_any A1 A2 A3 n1 n2 n3 c1 c2 c3 f1 f2 f3 w1 ((h1.below hb1).more hb1.size) ((h2.below hb1).more hb1.size) ((h3.below hb1).more hb1.size) hn1 hn2 hn3).mono ?_
  rintro e w2 ⟨m, X, Y, Z, x, y, z, hm, rfl, i1, i2, i3, hx, hy, hz, hx', hy', hz', hb2⟩
  have hb := below_trans hb1 hb2
  clear h1 h2 h3 hb1 hb2
  by_cases hm0 : m = 0
  · subst hm0
    go_wp2
    go_ret
    exact ⟨rfl, hb⟩
  · have tm : ((m : Int) == 0) = false := by rw [beq_eq_false_iff_ne]; omega
    have hm1 : 1 ≤ m := by omega
    clear hm0
    go_wp2_with fail
    refine (within11e _ _ (by omega) (by omega) _).mono ?_
    rintro e w' ⟨k, hk0, hk1, rfl, rfl⟩
    obtain ⟨k, rfl⟩ := Int.eq_ofNat_of_zero_le hk0
    have hk2 : k < m := by omega
    clear hk1
    obtain ⟨xb, xo, rfl⟩ := i1.some_ (by omega)
    obtain ⟨yb, yo, rfl⟩ := i2.some_ (by omega)
    obtain ⟨zb, zo, rfl⟩ := i3.some_ (by omega)
    go_wp2_with fail
    refine (turn_any _ _ _ m x y z (rowF f1) (rowF f2) (rowF f3) w2 i1 i2 i3 (by omega) (row_small _ _) (row_small _ _) (row_small _ _)).mono ?_
    rintro e w3 ⟨P, Q, R, rfl, jp, jq, jr, hb3⟩
    have hb' := below_trans hb hb3
    have i1' := ((i1.below hb3).more hb3.size).part (m := 1) (k := k) (by omega)
    have i2' := ((i2.below hb3).more hb3.size).part (m := 1) (k := k) (by omega)
    have i3' := ((i3.below hb3).more hb3.size).part (m := 1) (k := k) (by omega)
    clear i1 i2 i3 hb hb3
    have sum1 : IntKind.i64.wrap ((k : Int) + 1) = (k : Int) + 1 := IntWalk.i64_in _ (by omega)
    have sum2 : (0 : Int) ≤ (k : Int) + 1 := by omega
    have sum3 : ((k : Int) + 1).toNat = k + 1 := by omega
    have bx : (k : Int) + 1 ≤ (x : Int) := by omega
    have by_ : (k : Int) + 1 ≤ (y : Int) := by omega
    have bz : (k : Int) + 1 ≤ (z : Int) := by omega
    have nx : ¬ x = k := by omega
    have ny : ¬ y = k := by omega
    have nz : ¬ z = k := by omega
    go_wp2_with fail
    go_region_held3 (fun _ => True) (first | trivial | go_keep) ((go_at_call 13; refine (turn_any _ _ _ 1 _ _ _ (fun j => rowF f1 (k + j)) (fun j => rowF f2 (k + j)) (fun j => rowF f3 (k + j)) w3.drew i1'.drew i2'.drew i3'.drew (by omega) (fun j _ => row_small _ (k + j + 1) _ (by omega)) (fun j _ => row_small _ (k + j + 1) _ (by omega)) (fun j _ => row_small _ (k + j + 1) _ (by omega))).mono ?_; rintro e w4 ⟨I', J', K', rfl, ji, jj, jk, hb4⟩))
    replace hb4 : Below w3.heap.size w3 w4 := (Below.refl _ _).drew.trans hb4
    obtain ⟨pb, po, rfl, _, pc⟩ := ((jp.below hb4).more hb4.size).at_ hk2
    obtain ⟨qb, qo, rfl, _, qc⟩ := ((jq.below hb4).more hb4.size).at_ hk2
    obtain ⟨rb, ro, rfl, _, rc⟩ := ((jr.below hb4).more hb4.size).at_ hk2
    obtain ⟨ib, io, rfl, _, ic⟩ := ji.first (by omega)
    obtain ⟨jb, jo, rfl, _, jc⟩ := jj.first (by omega)
    obtain ⟨kb, ko, rfl, _, kc⟩ := jk.first (by omega)
    have hb'' := below_trans hb' hb4
    have z1 : turnY (fun j => rowF f1 (k + j)) (fun j => rowF f2 (k + j)) (fun j => rowF f3 (k + j)) 0 = turnY (rowF f1) (rowF f2) (rowF f3) k := rfl
    have z2 : turnD (fun j => rowF f3 (k + j)) (fun j => rowF f2 (k + j)) 0 = turnD (rowF f3) (rowF f2) k := rfl
    have z3 : turnD (fun j => rowF f1 (k + j)) (fun j => rowF f2 (k + j)) 0 = turnD (rowF f1) (rowF f2) k := rfl
    rw [z1] at ic
    rw [z2] at jc
    rw [z3] at kc
    clear z1 z2 z3 jp jq jr ji jj jk hb4 hb' i1' i2' i3' sum1 sum2 sum3 nx ny nz bx by_ bz
    generalize turnY (rowF f1) (rowF f2) (rowF f3) k = v1 at *
    generalize turnD (rowF f3) (rowF f2) k = v2 at *
    generalize turnD (rowF f1) (rowF f2) k = v3 at *
    go_wp2_with fail
    go_quiet (fail)
    go_wp2
    go_ret
    exact ⟨rfl, below_drewN hb'' _⟩
end Go.Proofs.Ytemkeohclmgefaa
