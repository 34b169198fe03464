/- WALK of ColorBack. -/
import Derived.Test.YtemkeohclmgefaaColorLaws3
import Derived.Test.YtemkeohclmgefaaColor2
namespace Go.Proofs.Ytemkeohclmgefaa
open Go.RowKit
set_option maxHeartbeats 1000000
set_option linter.unusedVariables false

theorem turn_back1 (a b c : Nat → Int) (k : Nat) : backA (turnY a b c) (turnD c b) (turnD a b) k = a k := by unfold backA backM turnY turnD; omega
theorem turn_back2 (a b c : Nat → Int) (k : Nat) : backM (turnY a b c) (turnD c b) (turnD a b) k = b k := by unfold backM turnY turnD; omega
theorem turn_back3 (a b c : Nat → Int) (k : Nat) : backC (turnY a b c) (turnD c b) (turnD a b) k = c k := by unfold backC backM turnY turnD; omega
theorem turnY_bd (f1 f2 f3 : Nat → Int) (k : Nat) : -1099511627776 ≤ turnY (rowF f1) (rowF f2) (rowF f3) k ∧ turnY (rowF f1) (rowF f2) (rowF f3) k ≤ 1099511627776 := by
  have h1 := rowF_bd f1 k
  have h2 := rowF_bd f2 k
  have h3 := rowF_bd f3 k
  unfold turnY
  omega
theorem turnD_bd (f1 f2 : Nat → Int) (k : Nat) : -1099511627776 ≤ turnD (rowF f1) (rowF f2) k ∧ turnD (rowF f1) (rowF f2) k ≤ 1099511627776 := by
  have h1 := rowF_bd f1 k
  have h2 := rowF_bd f2 k
  unfold turnD
  omega
theorem clip_id (d : Nat) (h1 : 1 ≤ d) (h2 : d ≤ 16) (s : Bool) (x : Int) (hx : shiftBy d s - halfOf d ≤ x ∧ x ≤ halfOf d - 1 + shiftBy d s) : clip d s (x - shiftBy d s) = x := by
  have := halfOf_bd h1 h2
  unfold clip
  omega

theorem colorBack_walk (A1 A2 A3 : Option Addr) (n1 n2 n3 c1 c2 c3 : Nat) (f1 f2 f3 : Nat → Int) (a3 : Int) (s : Bool) (w : World) (h1 : IntsAt w w.heap.size A1 n1 f1) (h2 : IntsAt w w.heap.size A2 n2 f2) (h3 : IntsAt w w.heap.size A3 n3 f3)
    (hn1 : n1 ≤ 9223372036854775807) (hn2 : n2 ≤ 9223372036854775807) (hn3 : n3 ≤ 9223372036854775807) :
    Calls Try.prog 10 #[.slice A1 n1 c1, .slice A2 n2 c2, .slice A3 n3 c3, .int .i64 a3, .bool s] w fun e w' => e = .returned (.bool true) ∧ Below w.heap.size w w' := by
  obtain ⟨d, h1d, h2d, hd, hd1, hd2⟩ := depth_of a3
  have hh := halfOf_bd h1d h2d
  have hm := shiftBy_bd h1d h2d s
  obtain ⟨lo, hlo⟩ : ∃ lo, lo = shiftBy d s - halfOf d := ⟨_, rfl⟩
  obtain ⟨hi, hhi⟩ : ∃ hi, hi = halfOf d - 1 + shiftBy d s := ⟨_, rfl⟩
  have ID := clip_id d h1d h2d s
  have BD := bounds_any d h1d h2d s
  rw [← hlo, ← hhi] at BD ID
  have BD := Lib.hid BD
  have ID := Lib.hid ID
  have bl : -32768 ≤ lo ∧ lo ≤ 0 := by cases s <;> simp [shiftBy] at hlo hm <;> omega
  have bhi : 0 ≤ hi ∧ hi ≤ 65536 := by omega
  have lh : lo < hi := by omega
  clear hlo hhi
  obtain ⟨M, hM⟩ : ∃ M, M = hi - lo + 1 := ⟨_, rfl⟩
  have hM1 : hi - lo + 1 = M := hM.symm
  have hM2 : 2 ≤ M ∧ M ≤ 100000 := by omega
  have hM3 : hi = lo + M - 1 := by omega
  have HM3 := Lib.hid hM3
  clear hM hM3
  go_enter Try.func10, Try.ntmps10
  go_wp2_with fail
  refine (known11 _).mono ?_
  rintro e w1 ⟨rfl, hb1⟩
  go_wp2_with fail
  refine (three_any A1 A2 A3 n1 n2 n3 c1 c2 c3 f1 f2 f3 w1 ((h1.below hb1).more hb1.size) ((h2.below hb1).more hb1.size) ((h3.below hb1).more hb1.size) hn1 hn2 hn3).mono ?_
  rintro e w2 ⟨m, X, Y, Z, x, y, z, hm60, rfl, i1, i2, i3, _, _, _, _, _, _, hb2⟩
  have hb := below_trans hb1 hb2
  clear h1 h2 h3 hb1 hb2
  go_wp2_with fail
  refine (turn_any X Y Z m x y z (rowF f1) (rowF f2) (rowF f3) w2 i1 i2 i3 (by omega) (row_small _ _) (row_small _ _) (row_small _ _)).mono ?_
  rintro e w3 ⟨P, Q, R, rfl, jp, jq, jr, hb3⟩
  have hb' := below_trans hb hb3
  have i1' := (i1.below hb3).more hb3.size
  have i2' := (i2.below hb3).more hb3.size
  have i3' := (i3.below hb3).more hb3.size
  clear i1 i2 i3 hb hb3
  go_wp2_with fail
  refine (back_any P Q R m _ _ _ _ _ _ w3 jp jq jr (by omega) (fun k _ => turnY_bd _ _ _ k) (fun k _ => turnD_bd _ _ k) (fun k _ => turnD_bd _ _ k)).mono ?_
  rintro e w4 ⟨L, U, N, rfl, jl, jm, jn, hb4⟩
  have hb := below_trans hb' hb4
  have i1 := (i1'.below hb4).more hb4.size
  have i2 := (i2'.below hb4).more hb4.size
  have i3 := (i3'.below hb4).more hb4.size
  have jl := jl.congr (g := rowF f1) (fun k _ => turn_back1 _ _ _ k)
  have jm := jm.congr (g := rowF f2) (fun k _ => turn_back2 _ _ _ k)
  have jn := jn.congr (g := rowF f3) (fun k _ => turn_back3 _ _ _ k)
  clear jp jq jr i1' i2' i3' hb' hb4
  go_wp2_with fail
  refine (within11 _ _ (by omega) (by omega) _).mono ?_
  rintro e w' ⟨rfl, rfl⟩
  go_wp2_with fail
  refine (BD.out w4).mono ?_
  rintro e w4' ⟨rfl, hq⟩
  subst hq
  go_wp2_with fail
  go_loopw [19, 20] (fun v i wr => ∃ (k : Nat) (A' : Option Addr) (c' : Nat), k ≤ m ∧ i = .int .i64 k ∧ v = .slice A' k c' ∧ OwnI wr w4'.heap.size 3 (.slice A' k c') k (fun j => lo + rowF f1 j % M) ∧ Below w4'.heap.size w4' wr) (fun _ i _ => m - (intOf i).toNat)
  case atStart => exact ⟨0, none, 0, Nat.zero_le _, rfl, rfl, OwnI.nil_ _ _ _ _, Below.refl _ _⟩
  case round =>
    obtain ⟨k, A', c', hk, rfl, rfl, hown, hbel⟩ := hrel
    by_cases hlt : k < m
    · obtain ⟨b, off, rfl, hb0, hc⟩ := (i1.below hbel).at_ hlt
      have hsz := hbel.size
      have hr := rowF_bd f1 k
      have m1 := Int.emod_nonneg (rowF f1 k) (b := M) (by omega)
      have m2 := Int.emod_lt_of_pos (rowF f1 k) (b := M) (by omega)
      have s1 : IntKind.i64.wrap (lo + rowF f1 k % M) = lo + rowF f1 k % M := IntWalk.i64_in _ (by omega)
      go_wp2_with (first
        | (go_at_call 16; refine (within11 _ _ (by omega) (by omega) _).mono ?_; rintro e w' ⟨rfl, rfl⟩)
        | (at_builtin; refine wpList_app1 wr ((Below.refl _ _).alloc (Nat.le_refl _) _) rfl _ _ 22 rfl 3 int_info Try.underlying22 w4'.heap.size A' k c' (fun j => lo + rowF f1 j % M) rfl hown wr.heap.size rfl (by simp) (by omega) (by omega) ?_; intro g cap w1 hown1 hst hlt1))
      have hb1 : Below w4'.heap.size w4' w1 := hbel.trans hst.below
      clear hown hbel hst
      go_wp2
      go_roundw
      case rel => exact ⟨k + 1, _, cap, by omega, by go_num, rfl, hown1, hb1⟩
      case measure => simp [intOf]; omega
    · obtain rfl : k = m := by omega
      have hB := below_trans hb hbel
      have v1 := hown.ints
      have l1 := (i1.below hbel).more hbel.size
      have l2 := (i2.below hbel).more hbel.size
      have l3 := (i3.below hbel).more hbel.size
      have k1 := (jl.below hbel).more hbel.size
      have k2 := (jm.below hbel).more hbel.size
      have k3 := (jn.below hbel).more hbel.size
      clear i1 i2 i3 jl jm jn hown hbel hb
      go_wp2_with fail
      refine (ints11 _ _ k _ _ _ wr _ _ k1 l1 (by omega)).mono ?_
      rintro e w' ⟨rfl, q1, rfl⟩
      go_wp2_with fail
      refine (ints11 _ _ k _ _ _ (wr.drewN q1) _ _ k2 l2 (by omega)).mono ?_
      rintro e w' ⟨rfl, q2, rfl⟩
      go_wp2_with fail
      refine (ints11 _ _ k _ _ _ (wr.drewN (q1 + q2)) _ _ k3 l3 (by omega)).mono ?_
      rintro e w' ⟨rfl, q3, rfl⟩
      go_wp2_with fail
      have LB : ∀ j, lo ≤ lo + rowF f1 j % M ∧ lo + rowF f1 j % M ≤ hi := fun j => by
        have e := HM3.out
        have m1 := Int.emod_nonneg (rowF f1 j) (b := M) (by omega)
        have m2 := Int.emod_lt_of_pos (rowF f1 j) (b := M) (by omega)
        omega
      have LB := Lib.hid LB
      refine (shift_any d h1d h2d s A' k c' _ (wr.drewN (q1 + q2 + q3)) v1 (by omega) (fun j _ => by have := LB.out j; omega)).mono ?_
      rintro e w5 ⟨S, rfl, s5, hb5⟩
      have hB5 := below_trans (below_drewN hB (q1 + q2 + q3)) hb5
      have v5 := ((v1.drewN (q1 + q2 + q3)).below hb5).more hb5.size
      clear hB hb5 v1
      go_wp2_with fail
      refine (unshift_any d h1d h2d s S k k _ w5 s5 (by omega) (fun j _ => by have := LB.out j; omega)).mono ?_
      rintro e w6 ⟨T, rfl, s6, hb6⟩
      have hB6 := below_trans hB5 hb6
      have v6 := (v5.below hb6).more hb6.size
      have s6 := s6.congr (g := fun j => lo + rowF f1 j % M) (fun j _ => ID.out _ (LB.out j))
      clear hB5 hb6 v5 s5
      go_wp2_with fail
      refine (ints11 _ _ k _ _ _ w6 _ _ s6 v6 (by omega)).mono ?_
      rintro e w' ⟨rfl, q4, rfl⟩
      go_wp2
      go_ret
      exact ⟨rfl, below_drewN hB6 _⟩
end Go.Proofs.Ytemkeohclmgefaa
