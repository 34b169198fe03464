/- WALKS of the laws LayersGrow, LayersOne, LayersEnds. No condition. -/
import Derived.Test.YtknbppolecahbaaLayersWalk
import Derived.Deep.LoopGhost
namespace Go.Proofs.Ytknbppolecahbaa
open Go.RowKit
set_option maxHeartbeats 1000000
set_option linter.unusedVariables false

theorem layersGrow_walk (a b : Int) (w : World) :
    Calls Try.prog 3 #[.int .i64 a, .int .i64 b] w fun e w' => e = .returned (.bool true) ∧ w = w' := by
  go_enter Try.func3, Try.ntmps3
  go_wp2_with fail
  refine (known14 _).mono ?_
  rintro e w' ⟨rfl, rfl⟩
  go_wp2_with fail
  refine (within14e _ _ (by omega) (by omega) _).mono ?_
  rintro e w' ⟨T, hT0, hT1, rfl, rfl⟩
  go_wp2_with fail
  refine (within14e _ _ (by omega) (by omega) _).mono ?_
  rintro e w' ⟨V, hV0, hV1, rfl, rfl⟩
  have hd := div_bounds (T := T) (n := 1 + V) hT0 (by omega)
  have hc := ceil_val (T := T) (n := 1 + V) (by omega)
  have HC := Lib.hid hc
  have hcb : 0 ≤ (T + (1 + V) - 1) / (1 + V) ∧ (T + (1 + V) - 1) / (1 + V) ≤ 101 := by rw [hc]; split <;> omega
  clear hc
  go_wp2_with fail
  go_loop [5, 6] (fun was l => ∃ K : Nat, (K : Int) ≤ 1 + V + 1 ∧ l = .int .i64 K ∧ was = .int .i64 (passM T (1 + V) ((K : Int) - 1))) (fun _ l => (1 + V + 1 - intOf l).toNat)
  case atStart => exact ⟨0, by omega, rfl, by rw [pass_neg (by omega)]⟩
  case round =>
    obtain ⟨K, hK, rfl, rfl⟩ := hrel
    by_cases hlt : (K : Int) ≤ 1 + V
    · have pb := pass_bounds (T := T) (n := 1 + V) (l := K) hT0 (by omega)
      have pb' := pass_bounds (T := T) (n := 1 + V) (l := (K : Int) - 1) hT0 (by omega)
      have key : (K = 0 ∧ passM T (1 + V) K = 0 ∧ passM T (1 + V) ((K : Int) - 1) = 0) ∨ (1 ≤ K ∧ ((passM T (1 + V) K - passM T (1 + V) ((K : Int) - 1) = T / (1 + V)) ∨
          (passM T (1 + V) K - passM T (1 + V) ((K : Int) - 1) = T / (1 + V) + 1 ∧ (T + (1 + V) - 1) / (1 + V) = T / (1 + V) + 1))) := by
        rcases Nat.eq_zero_or_pos K with e | e
        · left; exact ⟨e, pass_neg (by omega), pass_neg (by omega)⟩
        · right
          refine ⟨e, ?_⟩
          have hs := pass_step (T := T) (n := 1 + V) (l := K) (by omega) (by omega) (by omega)
          rcases hs with h | ⟨h, h'⟩
          · left; omega
          · right; rw [HC.out, if_neg h']; omega
      have hn : passM T (1 + V) (((K + 1 : Nat) : Int) - 1) = passM T (1 + V) K := by congr 1; omega
      have HN := Lib.hid hn
      clear hn HC
      go_wp2_with fail
      refine (passes_any _ _ _ (by omega) (by omega) (by omega) (by omega) _).mono ?_
      rintro e w' ⟨rfl, rfl⟩
      generalize passM T (1 + V) K = P at *
      generalize passM T (1 + V) ((K : Int) - 1) = P' at *
      rcases key with ⟨h0, h1, h2⟩ | ⟨h0, h1 | ⟨h1, h2⟩⟩
      · subst h0 h1 h2
        go_wp2
        go_round
        case rel => exact ⟨1, by omega, rfl, by rw [HN.out]⟩
        case measure => simp [intOf]; omega
      · have t1 : (P - P' != T / (1 + V)) = false := by rw [bne_eq_false_iff_eq]; exact h1
        have t3 : 0 ≤ P - P' := by omega
        clear h1
        go_wp2
        go_round
        case rel => exact ⟨K + 1, by omega, by go_num, by rw [HN.out]⟩
        case measure => simp [intOf]; omega
      · have t1 : (P - P' != T / (1 + V)) = true := by rw [bne_iff_ne]; omega
        have t2 : (P - P' != (T + (1 + V) - 1) / (1 + V)) = false := by rw [bne_eq_false_iff_eq]; omega
        have t3 : 0 ≤ P - P' := by omega
        clear h1 h2
        go_wp2
        go_round
        case rel => exact ⟨K + 1, by omega, by go_num, by rw [HN.out]⟩
        case measure => simp [intOf]; omega
    · have e1 : passM T (1 + V) ((K : Int) - 1) = T := by
        rw [show (K : Int) - 1 = 1 + V by omega]; exact pass_full (by omega)
      have e2 := Lib.hid (pass_zero T (1 + V))
      rw [e1]
      clear e1 HC
      go_wp2_with fail
      refine (passes_any _ _ _ (by omega) (by omega) (by omega) (by omega) _).mono ?_
      rintro e w' ⟨rfl, rfl⟩
      rw [e2.out]
      go_wp2
      go_ret
      exact ⟨rfl, rfl⟩

theorem layersEnds_walk (a b : Int) (w : World) :
    Calls Try.prog 4 #[.int .i64 a, .int .i64 b] w fun e w' => e = .returned (.bool true) ∧ w = w' := by
  go_enter Try.func4, Try.ntmps4
  go_wp2_with fail
  refine (known14 _).mono ?_
  rintro e w' ⟨rfl, rfl⟩
  go_wp2_with fail
  refine (within14e _ _ (by omega) (by omega) _).mono ?_
  rintro e w' ⟨k, hk0, hk1, rfl, rfl⟩
  go_wp2_with fail
  refine (within14e _ _ (by omega) (by omega) _).mono ?_
  rintro e w' ⟨s, hs0, hs1, rfl, rfl⟩
  have c1 : ∀ (t b : Bool) (h1 : (bits .and .i64 s 4 != 0) = t) (h2 : (bits .and .i64 s 1 != 0) = b), Hid (∀ w, Calls Try.prog 12 #[.int .i64 s, .int .i64 k] w fun e w' => e = .returned (.bool (endsB t b k)) ∧ w = w') :=
    fun t b h1 h2 => Lib.hid fun w => ends_any s k t b h1 h2 w
  have c2 : ∀ (t b : Bool) (h1 : (bits .and .i64 s 4 != 0) = t) (h2 : (bits .and .i64 s 1 != 0) = b), Hid (∀ w, Calls Try.prog 12 #[.int .i64 s, .int .i64 (-1 - k)] w fun e w' => e = .returned (.bool (endsB t b (-1 - k))) ∧ w = w') :=
    fun t b h1 h2 => Lib.hid fun w => ends_any s (-1 - k) t b h1 h2 w
  have f2 : ∀ t b, endsB t b (-1 - k) = false := fun t b => by unfold endsB; rw [if_pos (by omega)]
  rcases Bool.eq_false_or_eq_true (bits .and .i64 s 4 != 0) with h4 | h4
  · rcases Bool.eq_false_or_eq_true (bits .and .i64 s 1 != 0) with h1 | h1
    all_goals
      have C1 := c1 _ _ h4 h1
      have C2 := c2 _ _ h4 h1
      rw [show endsB true _ k = true by unfold endsB; rw [if_neg (by omega)]; rfl] at C1
      rw [f2] at C2
      clear c1 c2 f2
      go_wp2_with fail
      refine (C1.out _).mono ?_
      rintro e w' ⟨rfl, rfl⟩
      go_wp2_with fail
      refine (C2.out _).mono ?_
      rintro e w' ⟨rfl, rfl⟩
      go_wp2
      go_ret
      exact ⟨rfl, rfl⟩
  · rcases Bool.eq_false_or_eq_true (bits .and .i64 s 1 != 0) with h1 | h1
    · have C1 := c1 _ _ h4 h1
      have C2 := c2 _ _ h4 h1
      rw [f2] at C2
      clear c1 c2 f2
      by_cases g : 9 ≤ k
      · rcases Bool.eq_false_or_eq_true (k % 3 != 1) with g1 | g1
        · rw [show endsB false true k = true by
            rw [bne_iff_ne] at g1
            unfold endsB; rw [if_neg (by omega)]; simp; omega] at C1
          go_wp2_with fail
          refine (C1.out _).mono ?_
          rintro e w' ⟨rfl, rfl⟩
          go_wp2_with fail
          refine (C2.out _).mono ?_
          rintro e w' ⟨rfl, rfl⟩
          go_wp2
          go_ret
          exact ⟨rfl, rfl⟩
        · rw [show endsB false true k = false by
            rw [bne_eq_false_iff_eq] at g1
            unfold endsB; rw [if_neg (by omega)]; simp; omega] at C1
          go_wp2_with fail
          refine (C1.out _).mono ?_
          rintro e w' ⟨rfl, rfl⟩
          go_wp2_with fail
          refine (C2.out _).mono ?_
          rintro e w' ⟨rfl, rfl⟩
          go_wp2
          go_ret
          exact ⟨rfl, rfl⟩
      · rw [show endsB false true k = false by
            unfold endsB; rw [if_neg (by omega)]; simp; omega] at C1
        go_wp2_with fail
        refine (C1.out _).mono ?_
        rintro e w' ⟨rfl, rfl⟩
        go_wp2_with fail
        refine (C2.out _).mono ?_
        rintro e w' ⟨rfl, rfl⟩
        go_wp2
        go_ret
        exact ⟨rfl, rfl⟩
    · have C1 := c1 _ _ h4 h1
      have C2 := c2 _ _ h4 h1
      rw [show endsB false false k = false by unfold endsB; rw [if_neg (by omega)]; rfl] at C1
      rw [f2] at C2
      clear c1 c2 f2
      go_wp2_with fail
      refine (C1.out _).mono ?_
      rintro e w' ⟨rfl, rfl⟩
      go_wp2_with fail
      refine (C2.out _).mono ?_
      rintro e w' ⟨rfl, rfl⟩
      go_wp2
      go_ret
      exact ⟨rfl, rfl⟩

theorem layersOne_walk (a b : Int) (w : World) :
    Calls Try.prog 5 #[.int .i64 a, .int .i64 b] w fun e w' => e = .returned (.bool true) ∧ w = w' := by
  go_enter Try.func5, Try.ntmps5
  go_wp2_with fail
  refine (known14 _).mono ?_
  rintro e w' ⟨rfl, rfl⟩
  go_wp2_with fail
  refine (within14e _ _ (by omega) (by omega) _).mono ?_
  rintro e w' ⟨T, hT0, hT1, rfl, rfl⟩
  go_wp2_with fail
  refine (within14e _ _ (by omega) (by omega) _).mono ?_
  rintro e w' ⟨V, hV0, hV1, rfl, rfl⟩
  have step : ∀ K : Nat, (K : Int) < 1 + V → Hid ((passM T (1 + V) (↑K + 1) = passM T (1 + V) ↑K → emptyM T (1 + V) (↑K + 1) = emptyM T (1 + V) ↑K + 1) ∧ (passM T (1 + V) (↑K + 1) ≠ passM T (1 + V) ↑K → emptyM T (1 + V) (↑K + 1) = emptyM T (1 + V) ↑K)) :=
    fun K h => Lib.hid (empty_step hT0 (by omega) (by omega) h)
  have z : emptyM T (1 + V) 0 = 0 := by unfold emptyM; rw [pass_zero]; split <;> rfl
  have Z := Lib.hid z
  clear z
  go_wp2_with fail
  go_loop [5, 6] (fun em l => ∃ (K : Nat) (E : Int), (K : Int) ≤ 1 + V ∧ l = .int .i64 K ∧ em = .int .i64 E ∧ 0 ≤ E ∧ E ≤ K ∧ Hid (E = emptyM T (1 + V) K)) (fun _ l => (1 + V - intOf l).toNat)
  case atStart => exact ⟨0, 0, by omega, rfl, rfl, by omega, by omega, Lib.hid Z.out.symm⟩
  case round =>
    obtain ⟨K, E, hK, rfl, rfl, hE0, hE1, HE⟩ := hrel
    by_cases hlt : (K : Int) < 1 + V
    · have S := step K hlt
      have hn : emptyM T (1 + V) ((K + 1 : Nat) : Int) = emptyM T (1 + V) (↑K + 1) := by congr 1
      have HN := Lib.hid hn
      clear hn step
      go_wp2_with fail
      refine (passes_any _ _ _ (by omega) (by omega) (by omega) (by omega) _).mono ?_
      rintro e w' ⟨rfl, rfl⟩
      go_wp2_with fail
      refine (passes_any _ _ _ (by omega) (by omega) (by omega) (by omega) _).mono ?_
      rintro e w' ⟨rfl, rfl⟩
      generalize passM T (1 + V) (↑K + 1) = P at *
      generalize passM T (1 + V) ↑K = P' at *
      rcases Bool.eq_false_or_eq_true (P == P') with c | c
      · have HN2 := Lib.hid (show E + 1 = emptyM T (1 + V) ((K + 1 : Nat) : Int) by rw [HN.out, S.out.1 (by simpa using c), HE.out])
        clear S HN HE
        go_wp2
        go_round
        case rel => exact ⟨K + 1, _, by omega, by go_num, rfl, by omega, by omega, HN2⟩
        case measure => simp [intOf]; omega
      · have HN2 := Lib.hid (show E = emptyM T (1 + V) ((K + 1 : Nat) : Int) by rw [HN.out, S.out.2 (by simpa using c), HE.out])
        clear S HN HE
        go_wp2
        go_round
        case rel => exact ⟨K + 1, _, by omega, by go_num, rfl, by omega, by omega, HN2⟩
        case measure => simp [intOf]; omega
    · have e1 : E = max (1 + V - T) 0 := by
        rw [HE.out, show (K : Int) = 1 + V by omega]; exact empty_full (by omega)
      have f1 := Lib.hid (pass_full (T := T) (n := 1) (by omega))
      have f2 := Lib.hid (pass_beyond (T := T) (n := 1 + V) (l := 1 + V + 1) (by omega) (by omega))
      have f3 := Lib.hid (pass_neg (T := T) (n := 1 + V) (l := -5) (by omega))
      clear step Z HE
      by_cases c : 1 + V - T ≤ 0
      · obtain rfl : E = 0 := by omega
        have tz : 0 ≤ 1 + V - T → ((0 : Int) == 1 + V - T) = true := fun h => by rw [beq_iff_eq]; omega
        clear e1
        rcases Int.lt_or_le (1 + V - T) 0 with c' | c'
        all_goals (try have tz' := tz c'); clear tz
        all_goals go_wp2_with (first
          | (go_at_call 11; refine (passes_any _ _ _ (by omega) (by omega) (by omega) (by omega) _).mono ?_; rintro e w' ⟨rfl, rfl⟩; first | rw [f1.out] | rw [f2.out] | rw [f3.out]))
        all_goals go_ret
        all_goals exact ⟨rfl, rfl⟩
      · obtain rfl : E = 1 + V - T := by omega
        clear e1
        go_wp2_with (first
          | (go_at_call 11; refine (passes_any _ _ _ (by omega) (by omega) (by omega) (by omega) _).mono ?_; rintro e w' ⟨rfl, rfl⟩; first | rw [f1.out] | rw [f2.out] | rw [f3.out]))
        go_ret
        exact ⟨rfl, rfl⟩
end Go.Proofs.Ytknbppolecahbaa
