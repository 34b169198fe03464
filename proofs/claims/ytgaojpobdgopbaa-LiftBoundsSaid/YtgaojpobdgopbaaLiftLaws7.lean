/- WALKS of the laws of rows: bounds. -/
import Derived.Test.YtgaojpobdgopbaaLiftLaws6
namespace Go.Proofs.Ytgaojpobdgopbaa
open Go.RowKit
set_option maxHeartbeats 2000000
set_option linter.unusedVariables false

set_option maxRecDepth 100000 in
theorem liftBounds_walk (a : Int) (A : Option Addr) (n c : Nat) (f : Nat → Int) (b : Int) (w : World) (ha : IntsAt w w.heap.size A n f) (hn : n ≤ 9223372036854775807) :
    Calls Try.prog 5 #[.int .i64 a, .slice A n c, .int .i64 b] w fun e w' => e = .returned (.bool true) ∧ Below w.heap.size w w' := by
  obtain ⟨m, hm1, hm60, hm3⟩ : ∃ m, m ≤ n ∧ m ≤ 60 ∧ (n ≤ m ∨ 60 ≤ m) := ⟨min n 60, by omega, by omega, by omega⟩
  go_enter Try.func5, Try.ntmps5
  go_wp2_with fail
  refine (known9 _).mono ?_
  rintro e w1 ⟨rfl, hb1⟩
  go_wp2_with fail
  refine (within9n a 1000 (by omega) (by omega) _).mono ?_
  rintro e w1' ⟨t, ht, rfl, rfl⟩
  go_wp2_with fail
  refine (within9n b 65536 (by omega) (by omega) _).mono ?_
  rintro e w1' ⟨s, hs, rfl, rfl⟩
  obtain ⟨M, hM⟩ : ∃ M : Int, M = 1 + (s : Int) := ⟨_, rfl⟩
  have hM1 : 1 ≤ M ∧ M ≤ 65536 := by omega
  rw [show (s : Int) = M - 1 by omega]
  have es : 1 + (M - 1) = M := by omega
  clear hM hs
  have ia := (ha.below hb1).more hb1.size
  clear ha
  go_wp2_with fail
  try rw [es]
  clear es
  go_loopw [7, 8] (fun v i wr => ∃ (k : Nat) (A' : Option Addr) (c' : Nat), k ≤ m ∧ i = .int .i64 k ∧ v = .slice A' k c' ∧ OwnI wr w1.heap.size 3 (.slice A' k c') k (fun j => f j % (2 * M + 1) - M) ∧ Below w1.heap.size w1 wr) (fun _ i _ => m - (intOf i).toNat)
  case atStart => exact ⟨0, none, 0, Nat.zero_le _, rfl, rfl, OwnI.nil_ _ _ _ _, Below.refl _ _⟩
  case round =>
    obtain ⟨k, A', c', hk, rfl, rfl, hown, hbel⟩ := hrel
    by_cases hlt : k < m
    · obtain ⟨b, off, rfl, hb, hc⟩ := (ia.below hbel).at_ (show k < n by omega)
      have hsz := hbel.size
      go_wp2_with (first
        | (go_at_call 13; refine (within9 _ _ (by omega) (by omega) _).mono ?_; rintro e w' ⟨rfl, rfl⟩; have hm0 := Int.emod_nonneg (f k) (b := 2 * M + 1) (by omega); have hm1 := Int.emod_lt_of_pos (f k) (b := 2 * M + 1) (by omega))
        | (at_builtin; refine wpList_app1 wr ((Below.refl _ _).alloc (Nat.le_refl _) _) rfl _ _ 24 rfl 3 int_info Try.underlying24 w1.heap.size A' k c' (fun j => f j % (2 * M + 1) - M) rfl hown wr.heap.size rfl (by simp) (by omega) (by omega) ?_; intro g cap w2 hown1 hst hlt1))
      have hb2 : Below w1.heap.size w1 w2 := hbel.trans hst.below
      clear hown hbel hst
      go_wp2
      go_roundw
      case rel => exact ⟨k + 1, _, cap, by omega, by go_num, rfl, hown1, hb2⟩
      case measure => simp [intOf]; omega
    · have ek : k = m := by omega
      rw [ek] at hown ⊢
      clear ek hk hlt k
      have hbA := below_trans hb1 hbel
      have i2 := hown.ints
      have hfM : Within m M (fun j => f j % (2 * M + 1) - M) := fun k _ => by
        have h0 := Int.emod_nonneg (f k) (b := 2 * M + 1) (by omega)
        have h1 := Int.emod_lt_of_pos (f k) (b := 2 * M + 1) (by omega)
        show -M ≤ f k % (2 * M + 1) - M ∧ f k % (2 * M + 1) - M ≤ M
        omega
      clear hb1 hbel hown ia
      generalize hF : (fun j => f j % (2 * M + 1) - M) = g at *
      clear hF
      by_cases h6 : m < n
      all_goals
        have h7 : 60 ≤ m ∨ n ≤ m := by omega
        try have h8 : decide ((m : Int) < 60) = false := by rw [decide_eq_false_iff_not]; omega
        go_wp2_with fail
        refine (split_any t A' m c' g wr i2 (by omega) (fun k hk => by have := hfM k hk; omega) (by omega)).mono ?_
        obtain ⟨o, ho⟩ : ∃ o, o = t % 2 := ⟨_, rfl⟩
        rw [← ho]
        have ho1 : o ≤ 1 := by omega
        have eo : (t : Int) % 2 = (o : Int) := by omega
        clear ho
        rintro e w3 ⟨B1, d1, rfl, j1, hb3⟩
        have hb := below_trans hbA hb3
        have q1 := j1.ints
        have qe := fun i hi => splitF_tight (n := m) ho1 hM1.1 hfM i hi
        obtain ⟨l, hl⟩ : ∃ l, l = low m o := ⟨_, rfl⟩
        have el : ((m : Int) + 1 - (o : Int)) / 2 = (l : Int) := by unfold low at hl; omega
        rw [← hl] at qe
        generalize splitF m o g = F at *
        clear hl hbA hb3 i2 j1 hfM
        go_wp2_with fail
        rw [el]
        clear el eo
        go_loopw [11] (fun i wr' => ∃ j q : Nat, j ≤ m ∧ i = .int .i64 j ∧ wr' = w3.drewN q) (fun i _ => m - (intOf i).toNat)
        case atStart => exact ⟨0, 0, Nat.zero_le _, rfl, rfl⟩
        case round =>
          obtain ⟨j, q, hj, rfl, rfl⟩ := hrel
          by_cases hlt2 : j < m
          · obtain ⟨b1, off1, rfl, hl1, c1⟩ := q1.at_ hlt2
            have h1 := qe j hlt2
            clear qe q1
            have h2 : -(2 * M + 1) ≤ F j ∧ F j ≤ 2 * M + 1 := h1.1
            have h3 : j < l → 1 < m → -(M + (M + 1) / 2 + 1) ≤ F j ∧ F j ≤ M + (M + 1) / 2 + 1 := h1.2
            clear h1
            have s1 : IntKind.i64.wrap (0 - F j) = 0 - F j := IntWalk.i64_in _ (by omega)
            have hx : (F j < -F j ∧ -F j ≤ 2 * M + 1) ∨ (¬ F j < -F j ∧ F j ≤ 2 * M + 1) := by omega
            by_cases hlj : j < l
            · by_cases hone : 1 < m
              · have h4 := h3 hlj hone
                clear h3
                have hone' : (1 : Int) < (m : Int) := by omega
                rcases hx with ⟨hx, hx2⟩ | ⟨hx, hx2⟩
                all_goals
                  go_wp2_with fail
                  go_quiet (fail)
                  go_wp2_with fail
                  go_roundw
                  case rel => exact ⟨j + 1, _, by omega, by go_num, rfl⟩
                  case measure => simp [intOf]; omega
              · have hone' : ¬ (1 : Int) < (m : Int) := by omega
                clear h3
                rcases hx with ⟨hx, hx2⟩ | ⟨hx, hx2⟩
                all_goals first
                  | (exfalso; omega)
                  | (go_wp2_with fail
                     go_quiet (fail)
                     go_wp2_with fail
                     go_roundw
                     case rel => exact ⟨j + 1, _, by omega, by go_num, rfl⟩
                     case measure => simp [intOf]; omega)
            · clear h3
              rcases hx with ⟨hx, hx2⟩ | ⟨hx, hx2⟩
              all_goals
                go_wp2_with fail
                go_quiet (fail)
                go_wp2_with fail
                go_roundw
                case rel => exact ⟨j + 1, _, by omega, by go_num, rfl⟩
                case measure => simp [intOf]; omega
          · go_wp2_with fail
            go_ret
            exact ⟨rfl, below_drewN hb q⟩
end Go.Proofs.Ytgaojpobdgopbaa
