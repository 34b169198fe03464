/- WALK of ColorTurns. -/
import Derived.Test.YtemkeohclmgefaaColorLaws
import Derived.Test.YtemkeohclmgefaaColor4
namespace Go.Proofs.Ytemkeohclmgefaa
open Go.RowKit
set_option maxHeartbeats 1000000
set_option linter.unusedVariables false

theorem colorTurns_walk (A1 A2 A3 : Option Addr) (n1 n2 n3 c1 c2 c3 : Nat) (f1 f2 f3 : Nat → Int) (w : World) (h1 : IntsAt w w.heap.size A1 n1 f1) (h2 : IntsAt w w.heap.size A2 n2 f2) (h3 : IntsAt w w.heap.size A3 n3 f3)
    (hn1 : n1 ≤ 9223372036854775807) (hn2 : n2 ≤ 9223372036854775807) (hn3 : n3 ≤ 9223372036854775807) :
    Calls Try.prog 6 #[.slice A1 n1 c1, .slice A2 n2 c2, .slice A3 n3 c3] w fun e w' => e = .returned (.bool true) ∧ Below w.heap.size w w' := by
  go_enter Try.func6, Try.ntmps6
  go_wp2_with fail
  refine (known11 _).mono ?_
  rintro e w1 ⟨rfl, hb1⟩
  go_wp2_with fail
  refine (three_any A1 A2 A3 n1 n2 n3 c1 c2 c3 f1 f2 f3 w1 ((h1.below hb1).more hb1.size) ((h2.below hb1).more hb1.size) ((h3.below hb1).more hb1.size) hn1 hn2 hn3).mono ?_
  rintro e w2 ⟨m, X, Y, Z, x, y, z, hm, rfl, i1, i2, i3, _, _, _, _, _, _, hb2⟩
  have hb := below_trans hb1 hb2
  clear h1 h2 h3 hb1 hb2
  go_wp2_with fail
  refine (turn_any X Y Z m x y z (rowF f1) (rowF f2) (rowF f3) w2 i1 i2 i3 (by omega) (row_small _ _) (row_small _ _) (row_small _ _)).mono ?_
  rintro e w3 ⟨P, Q, R, rfl, jp, jq, jr, hb3⟩
  have hb' := below_trans hb hb3
  have i1' := (i1.below hb3).more hb3.size
  have i2' := (i2.below hb3).more hb3.size
  have i3' := (i3.below hb3).more hb3.size
  clear i1 i2 i3 hb hb3
  go_wp2_with fail
  refine (rturn_any X Y Z m x y z (rowF f1) (rowF f2) (rowF f3) w3 i1' i2' i3' (by omega) (row_small _ _) (row_small _ _) (row_small _ _)).mono ?_
  rintro e w4 ⟨I', J', K', d1, d2, d3, rfl, ji, jj, jk, hb4⟩
  have hb'' := below_trans hb' hb4
  have kp := (jp.below hb4).more hb4.size
  have kq := (jq.below hb4).more hb4.size
  have kr := (jr.below hb4).more hb4.size
  have i1 := (i1'.below hb4).more hb4.size
  have i2 := (i2'.below hb4).more hb4.size
  have i3 := (i3'.below hb4).more hb4.size
  clear jp jq jr hb' hb4 i1' i2' i3'
  go_wp2_with fail
  refine (back_any X Y Z m x y z (rowF f1) (rowF f2) (rowF f3) w4 i1 i2 i3 (by omega) (row_small _ _) (row_small _ _) (row_small _ _)).mono ?_
  rintro e w5 ⟨L, M, N, rfl, jl, jm, jn, hb5⟩
  have hb := below_trans hb'' hb5
  have i1' := (i1.below hb5).more hb5.size
  have i2' := (i2.below hb5).more hb5.size
  have i3' := (i3.below hb5).more hb5.size
  have lp := (kp.below hb5).more hb5.size
  have lq := (kq.below hb5).more hb5.size
  have lr := (kr.below hb5).more hb5.size
  have li := (ji.below hb5).more hb5.size
  have lj := (jj.below hb5).more hb5.size
  have lk := (jk.below hb5).more hb5.size
  clear kp kq kr ji jj jk i1 i2 i3 hb'' hb5
  go_wp2_with fail
  refine (rback_any X Y Z m x y z (rowF f1) (rowF f2) (rowF f3) w5 i1' i2' i3' (by omega) (row_small _ _) (row_small _ _) (row_small _ _)).mono ?_
  rintro e w6 ⟨S, T, U, d4, d5, d6, rfl, js, jt, ju, hb6⟩
  have hb' := below_trans hb hb6
  have mp := (lp.below hb6).more hb6.size
  have mq := (lq.below hb6).more hb6.size
  have mr := (lr.below hb6).more hb6.size
  have mi := (li.below hb6).more hb6.size
  have mj := (lj.below hb6).more hb6.size
  have mk := (lk.below hb6).more hb6.size
  have ml := (jl.below hb6).more hb6.size
  have mm := (jm.below hb6).more hb6.size
  have mn := (jn.below hb6).more hb6.size
  clear lp lq lr li lj lk jl jm jn i1' i2' i3' hb hb6
  go_wp2_with fail
  refine (ints11 _ _ m _ _ _ w6 _ _ mp mi (by omega)).mono ?_
  rintro e w' ⟨rfl, q1, rfl⟩
  go_wp2_with fail
  refine (ints11 _ _ m _ _ _ (w6.drewN q1) _ _ mq mj (by omega)).mono ?_
  rintro e w' ⟨rfl, q2, rfl⟩
  go_wp2_with fail
  refine (ints11 _ _ m _ _ _ (w6.drewN (q1 + q2)) _ _ mr mk (by omega)).mono ?_
  rintro e w' ⟨rfl, q3, rfl⟩
  go_wp2_with fail
  refine (ints11 _ _ m _ _ _ (w6.drewN (q1 + q2 + q3)) _ _ ml js (by omega)).mono ?_
  rintro e w' ⟨rfl, q4, rfl⟩
  go_wp2_with fail
  refine (ints11 _ _ m _ _ _ (w6.drewN (q1 + q2 + q3 + q4)) _ _ mm jt (by omega)).mono ?_
  rintro e w' ⟨rfl, q5, rfl⟩
  go_wp2_with fail
  refine (ints11 _ _ m _ _ _ (w6.drewN (q1 + q2 + q3 + q4 + q5)) _ _ mn ju (by omega)).mono ?_
  rintro e w' ⟨rfl, q6, rfl⟩
  go_wp2
  go_ret
  exact ⟨rfl, below_drewN hb' _⟩
end Go.Proofs.Ytemkeohclmgefaa
