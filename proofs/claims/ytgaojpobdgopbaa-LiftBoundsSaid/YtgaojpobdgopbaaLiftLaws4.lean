/- WALKS of the laws of rows: a number added; a row turned about. -/
import Derived.Test.YtgaojpobdgopbaaLiftLaws3
import Derived.Test.YtgaojpobdgopbaaLiftLaw2
namespace Go.Proofs.Ytgaojpobdgopbaa
open Go.RowKit
set_option maxHeartbeats 2000000
set_option linter.unusedVariables false

set_option maxRecDepth 100000 in
theorem liftSums_walk (a : Int) (A : Option Addr) (n c : Nat) (f : Nat → Int) (b : Int) (w : World) (ha : IntsAt w w.heap.size A n f) (hn : n ≤ 9223372036854775807) :
    Calls Try.prog 6 #[.int .i64 a, .slice A n c, .int .i64 b] w fun e w' => e = .returned (.bool true) ∧ Below w.heap.size w w' := by
  obtain ⟨m, hm1, hm60, hm3⟩ : ∃ m, m ≤ n ∧ m ≤ 60 ∧ (n ≤ m ∨ 60 ≤ m) := ⟨min n 60, by omega, by omega, by omega⟩
  go_enter Try.func6, Try.ntmps6
  go_wp2_with fail
  refine (known9 _).mono ?_
  rintro e w1 ⟨rfl, hb1⟩
  go_wp2_with fail
  refine (within9n a 1000 (by omega) (by omega) _).mono ?_
  rintro e w1' ⟨t, ht, rfl, rfl⟩
  go_wp2_with fail
  refine (within9n b 262144 (by omega) (by omega) _).mono ?_
  rintro e w1' ⟨s, hs, rfl, rfl⟩
  obtain ⟨v, hv⟩ : ∃ v : Int, v = (s : Int) - 131072 := ⟨_, rfl⟩
  have hv1 : -131072 ≤ v ∧ v < 131072 := by omega
  rw [show (s : Int) = v + 131072 by omega]
  have es : v + 131072 - 131072 = v := by omega
  clear hv hs
  go_wp2_with fail
  refine (row9m A n c m f w1 ((ha.below hb1).more hb1.size) hn hm1 hm60 hm3).mono ?_
  rintro e w2 ⟨A', c', rfl, own, hb2⟩
  have i2 := own.ints
  have hb := below_trans hb1 hb2
  clear hb1 hb2 own ha
  by_cases hm : m = 1
  · have t1 : ((m : Int) == 1) = true := by rw [beq_iff_eq]; omega
    go_wp2_with fail
    go_ret
    exact ⟨rfl, hb⟩
  have t1 : ((m : Int) == 1) = false := by rw [beq_eq_false_iff_ne]; omega
  have hmk := fun u => run_make_row' (P := Try.prog) 24 3 (.int .i64 0) 8 Try.underlying24 int_info rfl .i64 .i64 m (by omega) (by omega) u
  go_wp2_with fail
  clear hmk
  have o0 : OwnI (w2.alloc (.cells (madeCells #[.int .i64 0] m) 3)) w2.heap.size 3 (.slice (some ⟨w2.heap.size, 0, none⟩) m m) m (fun j => if j < 0 then rowF f j + v else 0) := (OwnI.made w2 w2.heap.size m 3 (Nat.le_refl _) (by omega)).congr fun k hk => by simp
  have bA := (Below.refl w2.heap.size w2).alloc (Nat.le_refl _) (.cells (madeCells #[.int .i64 0] m) 3)
  go_loopw [9] (fun i wr => ∃ k : Nat, k ≤ m ∧ i = .int .i64 k ∧ OwnI wr w2.heap.size 3 (.slice (some ⟨w2.heap.size, 0, none⟩) m m) m (fun j => if j < k then rowF f j + v else 0) ∧ Below w2.heap.size w2 wr) (fun i _ => m - (intOf i).toNat)
  case atStart => exact ⟨0, Nat.zero_le _, rfl, o0, bA⟩
  case round =>
    obtain ⟨k, hk, rfl, own, hbel⟩ := hrel
    clear o0 bA
    have hsz := hbel.size
    have i3 := i2.below hbel
    by_cases hlt : k < m
    · have c1 := own.cell hlt
      have c2 := own.frozen k
      obtain ⟨b1, off1, rfl, hl1, c3⟩ := i3.at_ hlt
      have hbd := rowF_bd f k
      clear i3 i2
      go_wp2_with fail
      go_roundw
      case rel => exact ⟨k + 1, by omega, by go_num, (own.stored k _).congr fun j hj => by
          by_cases h : j = k
          · rw [if_pos h, if_pos (by omega), h]
          · rw [if_neg h]
            by_cases h2 : j < k
            · rw [if_pos h2, if_pos (by omega)]
            · rw [if_neg h2, if_neg (by omega)], hbel.setCell (p := ⟨w2.heap.size, k, none⟩) (Nat.le_refl _) _⟩
      case measure => simp [intOf]; omega
    · have ek : k = m := by omega
      rw [ek] at own ⊢
      clear ek hk hlt k
      have i4 := (own.congr (g := fun j => rowF f j + v) (fun j hj => by rw [if_pos hj])).ints
      have i5 := i3.more hsz
      have hb2 := below_trans hb hbel
      clear own hbel hb i3 i2
      go_wp2_with fail
      refine (split_any t A' m c' (rowF f) wr i5 (by omega) (row_within _ _) (by omega)).mono ?_
      obtain ⟨o, ho⟩ : ∃ o, o = t % 2 := ⟨_, rfl⟩
      rw [← ho]
      have HO := Lib.hid ho
      have ho1 : o ≤ 1 := by omega
      have eo : (t : Int) % 2 = (o : Int) := by omega
      clear ho
      rintro e w3 ⟨B1, d1, rfl, j1, hb3⟩
      have i6 := (i4.below hb3).more hb3.size
      have hb4 := below_trans hb2 hb3
      clear hb2 hb3 i4 i5
      go_wp2_with fail
      refine (split_any t _ m m (fun j => rowF f j + v) w3 i6 (by omega) (fun k _ => by have := rowF_bd f k; show -72057594037927936 ≤ rowF f k + v ∧ rowF f k + v ≤ 72057594037927936; omega) (by omega)).mono ?_
      rw [← HO.out]
      rintro e w4 ⟨B2, d2, rfl, j2, hb5⟩
      have hb6 := below_trans hb4 hb5
      have q1 := j1.ints.below hb5
      have q2 := (j2.congr (g := fun i => splitF m o (rowF f) i + (if i < low m o then v else 0)) (fun i hi => splitF_sum ho1 hm (fun k _ => rfl) i hi)).ints
      have qb : ∀ i, i < m → -4194304 ≤ splitF m o (rowF f) i ∧ splitF m o (rowF f) i ≤ 4194304 := fun i hi => by
        have h : Within m 524288 (rowF f) := fun k _ => by have := rowF_bd f k; omega
        have := splitF_bd ho1 h i hi
        omega
      obtain ⟨l, hl⟩ : ∃ l, l = low m o := ⟨_, rfl⟩
      have el : ((m : Int) + 1 - (o : Int)) / 2 = (l : Int) := by unfold low at hl; omega
      rw [← hl] at q2
      have hlk : l ≤ m := by unfold low at hl; omega
      generalize splitF m o (rowF f) = F at *
      clear hl hb4 hb5 i6 j1 j2 HO
      go_wp2_with fail
      rw [el]
      clear el eo
      go_loopw [13] (fun i wr' => ∃ j q : Nat, j ≤ m ∧ i = .int .i64 j ∧ wr' = w4.drewN q) (fun i _ => m - (intOf i).toNat)
      case atStart => exact ⟨0, 0, Nat.zero_le _, rfl, rfl⟩
      case round =>
        obtain ⟨j, q, hj, rfl, rfl⟩ := hrel
        by_cases hlt2 : j < m
        · obtain ⟨b1, off1, rfl, hl1, c1⟩ := q1.at_ hlt2
          obtain ⟨b2, off2, rfl, hl2, c2⟩ := q2.at_ hlt2
          have hq := qb j hlt2
          clear q1 q2 qb
          by_cases h3 : j < l
          · rw [if_pos h3] at c2
            have s1 : IntKind.i64.wrap (F j + v) = F j + v := IntWalk.i64_in _ (by omega)
            have h4 : (j : Int) < (l : Int) := by omega
            have h5 : decide (l ≤ j) = false := by rw [decide_eq_false_iff_not]; omega
            go_wp2_with fail
            go_quiet (fail)
            go_wp2_with fail
            go_roundw
            case rel => exact ⟨j + 1, _, by omega, by go_num, rfl⟩
            case measure => simp [intOf]; omega
          · rw [if_neg h3, Int.add_zero] at c2
            have h4 : ¬ (j : Int) < (l : Int) := by omega
            have h5 : (l : Int) ≤ (j : Int) := by omega
            go_wp2_with fail
            go_quiet (fail)
            go_wp2_with fail
            go_roundw
            case rel => exact ⟨j + 1, _, by omega, by go_num, rfl⟩
            case measure => simp [intOf]; omega
        · go_wp2_with fail
          go_ret
          exact ⟨rfl, below_drewN hb6 q⟩
end Go.Proofs.Ytgaojpobdgopbaa
