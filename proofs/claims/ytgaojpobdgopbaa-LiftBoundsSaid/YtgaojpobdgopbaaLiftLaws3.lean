/- WALKS of the laws of rows: the same everywhere; a rising line. -/
import Derived.Test.YtgaojpobdgopbaaLiftLaws2
namespace Go.Proofs.Ytgaojpobdgopbaa
open Go.RowKit
set_option maxHeartbeats 1000000
set_option linter.unusedVariables false

theorem splitF_flat {n o : Nat} {c : Int} (hn : n ≠ 1) (ho : o ≤ 1) (i : Nat) (hi : i < n) : splitF n o (fun _ => c) i = if i < low n o then c else 0 := by
  have h2 : 2 ≤ n := by omega
  have e1 : ∀ k, k < n → lift1 n o (fun _ => c) n k = if k % 2 = o then c else 0 := fun k hk => by
    unfold lift1 besF
    by_cases h : k % 2 = o
    · rw [if_neg (by omega), if_pos h]
    · rw [if_pos ⟨h, hk⟩, if_neg h]
      show c - (c + c) / 2 = 0
      omega
  unfold splitF
  rw [if_neg hn]
  have hs := spot_lt ho hi
  unfold lift2 besF
  rw [e1 _ hs, e1 _ (lft_lt h2 hs), e1 _ (rgt_lt h2 hs)]
  have p1 := lft_par (spot n o i)
  have p2 := rgt_par h2 hs
  by_cases h : i < low n o
  · have hp : spot n o i % 2 = o := by unfold spot; rw [if_pos h]; omega
    rw [if_pos ⟨hp, hs⟩, if_pos hp, if_neg (by omega), if_neg (by omega), if_pos h]; omega
  · have hp : ¬ spot n o i % 2 = o := by unfold spot; rw [if_neg h]; omega
    rw [if_neg (by omega), if_neg hp, if_neg h]

set_option maxRecDepth 100000 in
theorem liftFlat_walk (a b c : Int) (w : World) :
    Calls Try.prog 3 #[.int .i64 a, .int .i64 b, .int .i64 c] w fun e w' => e = .returned (.bool true) ∧ Below w.heap.size w w' := by
  go_enter Try.func3, Try.ntmps3
  go_wp2_with fail
  refine (known9 _).mono ?_
  rintro e w1 ⟨rfl, hb1⟩
  go_wp2_with fail
  refine (within9n a 1000 (by omega) (by omega) _).mono ?_
  rintro e w1' ⟨t, ht, rfl, rfl⟩
  go_wp2_with fail
  refine (within9n b 40 (by omega) (by omega) _).mono ?_
  rintro e w1' ⟨n, hn, rfl, rfl⟩
  go_wp2_with fail
  refine (within9n c 1048576 (by omega) (by omega) _).mono ?_
  rintro e w1' ⟨s, hs, rfl, rfl⟩
  obtain ⟨v, hv⟩ : ∃ v : Int, v = (s : Int) - 524288 := ⟨_, rfl⟩
  have hv1 : -524288 ≤ v ∧ v < 524288 := by omega
  rw [show (s : Int) = v + 524288 by omega]
  have es : v + 524288 - 524288 = v := by omega
  clear hv hs
  have hmk := fun u => run_make_row' (P := Try.prog) 24 3 (.int .i64 0) 8 Try.underlying24 int_info rfl .i64 .i64 n (by omega) (by omega) u
  go_wp2_with fail
  clear hmk
  have o0 : OwnI (w1.alloc (.cells (madeCells #[.int .i64 0] n) 3)) w1.heap.size 3 (.slice (some ⟨w1.heap.size, 0, none⟩) n n) n (fun j => if j < 0 then v else 0) := (OwnI.made w1 w1.heap.size n 3 (Nat.le_refl _) (by omega)).congr fun k hk => by simp
  have bA := (Below.refl w1.heap.size w1).alloc (Nat.le_refl _) (.cells (madeCells #[.int .i64 0] n) 3)
  go_loopw [8] (fun i wr => ∃ k : Nat, k ≤ n ∧ i = .int .i64 k ∧ OwnI wr w1.heap.size 3 (.slice (some ⟨w1.heap.size, 0, none⟩) n n) n (fun j => if j < k then v else 0) ∧ Below w1.heap.size w1 wr) (fun i _ => n - (intOf i).toNat)
  case atStart => exact ⟨0, Nat.zero_le _, rfl, o0, bA⟩
  case round =>
    obtain ⟨k, hk, rfl, own, hbel⟩ := hrel
    clear o0 bA
    have hsz := hbel.size
    by_cases hlt : k < n
    · have c1 := own.cell hlt
      have c2 := own.frozen k
      go_wp2_with fail
      go_roundw
      case rel => exact ⟨k + 1, by omega, by go_num, (own.stored k v).congr fun j hj => by
          by_cases h : j = k
          · rw [if_pos h, if_pos (by omega)]
          · rw [if_neg h]
            by_cases h2 : j < k
            · rw [if_pos h2, if_pos (by omega)]
            · rw [if_neg h2, if_neg (by omega)], hbel.setCell (p := ⟨w1.heap.size, k, none⟩) (Nat.le_refl _) _⟩
      case measure => simp [intOf]; omega
    · obtain rfl : k = n := by omega
      have i1 := (own.congr (g := fun _ => v) (fun j hj => by rw [if_pos hj])).ints
      have hb2 := below_trans hb1 hbel
      clear own hbel hb1
      go_wp2_with fail
      refine (split_any t _ k k (fun _ => v) wr i1 (by omega) (fun _ _ => by show -72057594037927936 ≤ v ∧ v ≤ 72057594037927936; omega) (by omega)).mono ?_
      obtain ⟨o, ho⟩ : ∃ o, o = t % 2 := ⟨_, rfl⟩
      rw [← ho]
      have ho1 : o ≤ 1 := by omega
      have eo : (t : Int) % 2 = (o : Int) := by omega
      clear ho
      rintro e w2 ⟨B1, d1, rfl, j1, hb3⟩
      have hb := below_trans hb2 hb3
      clear hb2 hb3 i1
      by_cases hn1 : k = 1
      · subst hn1
        obtain ⟨g1, rfl⟩ := j1.row (by omega)
        have c1 := j1.cell (k := 0) (by omega)
        obtain rfl | rfl : o = 0 ∨ o = 1 := by omega
        · rw [show splitF 1 0 (fun _ => v) 0 = v from rfl] at c1
          go_wp2_with fail
          go_ret
          exact ⟨rfl, hb⟩
        · rw [show splitF 1 1 (fun _ => v) 0 = 2 * v from rfl] at c1
          go_wp2_with fail
          go_ret
          exact ⟨rfl, hb⟩
      · have j2 := j1.congr (g := fun i => if i < low k o then v else 0) (fun i hi => splitF_flat hn1 ho1 i hi)
        have t1 : ((k : Int) == 1) = false := by rw [beq_eq_false_iff_ne]; omega
        obtain ⟨l, hl⟩ : ∃ l, l = low k o := ⟨_, rfl⟩
        have el : ((k : Int) + 1 - (o : Int)) / 2 = (l : Int) := by unfold low at hl; omega
        rw [← hl] at j2
        have hlk : l ≤ k := by unfold low at hl; omega
        clear hl j1
        go_wp2_with fail
        rw [el]
        clear el eo
        go_loopw [11] (fun i wr' => ∃ j : Nat, j ≤ k ∧ i = .int .i64 j ∧ wr' = w2) (fun i _ => k - (intOf i).toNat)
        case atStart => exact ⟨0, Nat.zero_le _, rfl, rfl⟩
        case round =>
          obtain ⟨j, hj, rfl, rfl⟩ := hrel
          by_cases hlt2 : j < k
          · obtain ⟨g1, rfl⟩ := j2.row (by omega)
            have c1 := j2.cell hlt2
            clear j2
            by_cases h3 : j < l
            · rw [if_pos h3] at c1
              go_wp2_with fail
              go_roundw
              case rel => exact ⟨j + 1, by omega, by go_num, trivial⟩
              case measure => simp [intOf]; omega
            · rw [if_neg h3] at c1
              go_wp2_with fail
              go_roundw
              case rel => exact ⟨j + 1, by omega, by go_num, trivial⟩
              case measure => simp [intOf]; omega
          · go_wp2_with fail
            go_ret
            exact ⟨rfl, hb⟩
end Go.Proofs.Ytgaojpobdgopbaa
