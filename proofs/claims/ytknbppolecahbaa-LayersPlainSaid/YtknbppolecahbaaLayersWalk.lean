/- CONTRACTS of layers.Passes, layers.has, layers.Ends and of waveletlaw14.known. -/
import Derived.Test.YtknbppolecahbaaWithin14
import Derived.Test.YtknbppolecahbaaLayersLaw
namespace Go.Proofs.Ytknbppolecahbaa
open Go.RowKit
set_option maxHeartbeats 400000
set_option linter.unusedVariables false

theorem passes_any (T n l : Int) (hT : 0 ≤ T) (hT1 : T ≤ 100) (hn : 1 ≤ n) (hn1 : n ≤ 100) (w : World) :
    Calls Try.prog 11 #[.int .i64 T, .int .i64 n, .int .i64 l] w fun e w' => e = .returned (.int .i64 (passM T n l)) ∧ w = w' := by
  by_cases c1 : l < 1
  · rw [pass_neg c1]
    go_enter Try.func11, Try.ntmps11
    go_wp2
    go_ret
    exact ⟨rfl, rfl⟩
  · by_cases c2 : n < l
    · rw [pass_beyond hn c2]
      go_enter Try.func11, Try.ntmps11
      go_wp2
      go_ret
      exact ⟨rfl, rfl⟩
    · rw [pass_val (by omega) (by omega) hn]
      have p1 : 0 ≤ T * l := Int.mul_nonneg hT (by omega)
      have p2 : T * l ≤ 100 * 100 := Int.mul_le_mul hT1 (by omega) (by omega) (by omega)
      go_enter Try.func11, Try.ntmps11
      go_wp2
      go_ret
      exact ⟨rfl, rfl⟩

theorem has_any (s y : Int) (w : World) :
    Calls Try.prog 18 #[.int .i64 s, .int .i64 y] w fun e w' => e = .returned (.bool (bits .and .i64 s y != 0)) ∧ w = w' := by
  go_enter Try.func18, Try.ntmps18
  go_wp2
  go_ret
  exact ⟨rfl, rfl⟩

theorem ends_any (s k : Int) (t b : Bool) (ht : (bits .and .i64 s 4 != 0) = t) (hb : (bits .and .i64 s 1 != 0) = b) (w : World) :
    Calls Try.prog 12 #[.int .i64 s, .int .i64 k] w fun e w' => e = .returned (.bool (endsB t b k)) ∧ w = w' := by
  have Ht := Lib.hid ht
  have Hb := Lib.hid hb
  clear ht hb
  by_cases c1 : k < 0
  · have e : endsB t b k = false := by unfold endsB; rw [if_pos c1]
    rw [e]
    clear e
    go_enter Try.func12, Try.ntmps12
    go_wp2_with fail
    go_ret
    exact ⟨rfl, rfl⟩
  · cases t
    · cases b
      · have e : endsB false false k = false := by unfold endsB; rw [if_neg c1]; rfl
        rw [e]
        clear e
        go_enter Try.func12, Try.ntmps12
        go_wp2_with fail
        refine (has_any _ _ _).mono ?_
        rintro e w' ⟨rfl, rfl⟩
        rw [Ht.out]
        go_wp2_with fail
        refine (has_any _ _ _).mono ?_
        rintro e w' ⟨rfl, rfl⟩
        rw [Hb.out]
        go_wp2_with fail
        go_ret
        exact ⟨rfl, rfl⟩
      · have e : endsB false true k = ((decide (k % 3 = 0) && decide (9 ≤ k)) || (decide (k % 3 = 2) && decide (10 ≤ k))) := by unfold endsB; rw [if_neg c1]; simp
        rw [e]
        clear e
        go_enter Try.func12, Try.ntmps12
        go_wp2_with fail
        refine (has_any _ _ _).mono ?_
        rintro e w' ⟨rfl, rfl⟩
        rw [Ht.out]
        go_wp2_with fail
        refine (has_any _ _ _).mono ?_
        rintro e w' ⟨rfl, rfl⟩
        rw [Hb.out]
        go_wp2_with fail
        all_goals
          go_ret
          refine ⟨ret_bool ?_, rfl⟩
          first
            | rfl
            | (rw [Bool.eq_iff_iff]; simp; omega)
    · have e : endsB true b k = true := by unfold endsB; rw [if_neg c1]; rfl
      rw [e]
      clear e
      go_enter Try.func12, Try.ntmps12
      go_wp2_with fail
      refine (has_any _ _ _).mono ?_
      rintro e w' ⟨rfl, rfl⟩
      rw [Ht.out]
      go_wp2_with fail
      go_ret
      exact ⟨rfl, rfl⟩

theorem known14 (w : World) : Calls Try.prog 9 #[] w fun e w' => e = .returned (.bool true) ∧ w = w' := by
  have e1 : passM 10 3 1 = 3 := by decide
  have t4 : (bits BinOp.and IntKind.i64 4 4 != 0) = true := by decide
  have t1 : (bits BinOp.and IntKind.i64 4 1 != 0) = false := by decide
  have u4 : (bits BinOp.and IntKind.i64 0 4 != 0) = false := by decide
  have u1 : (bits BinOp.and IntKind.i64 0 1 != 0) = false := by decide
  have f1 : endsB true false 0 = true := by decide
  have f2 : endsB false false 5 = false := by decide
  have c1 := fun w => ends_any 4 0 true false t4 t1 w
  have c2 := fun w => ends_any 0 5 false false u4 u1 w
  rw [f1] at c1
  rw [f2] at c2
  have C1 := Lib.hid c1
  have C2 := Lib.hid c2
  have C3 := Lib.hid e1
  clear c1 c2 t4 t1 u4 u1 f1 f2 e1
  go_enter Try.func9, Try.ntmps9
  go_wp2_with fail
  refine (passes_any _ _ _ (by omega) (by omega) (by omega) (by omega) _).mono ?_
  rintro e w' ⟨rfl, rfl⟩
  rw [C3.out]
  go_wp2_with fail
  refine (C1.out _).mono ?_
  rintro e w' ⟨rfl, rfl⟩
  go_wp2_with fail
  refine (C2.out _).mono ?_
  rintro e w' ⟨rfl, rfl⟩
  go_wp2
  go_ret
  exact ⟨rfl, rfl⟩
end Go.Proofs.Ytknbppolecahbaa
