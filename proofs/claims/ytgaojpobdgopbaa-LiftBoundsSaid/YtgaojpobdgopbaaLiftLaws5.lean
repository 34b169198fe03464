/- WALKS of the laws of rows: a row turned about. -/
import Derived.Test.YtgaojpobdgopbaaLiftLaws4
namespace Go.Proofs.Ytgaojpobdgopbaa
open Go.RowKit
set_option maxHeartbeats 2000000
set_option linter.unusedVariables false

set_option maxRecDepth 100000 in
theorem liftMirrors_walk (a : Int) (A : Option Addr) (n c : Nat) (f : Nat → Int) (w : World) (ha : IntsAt w w.heap.size A n f) (hn : n ≤ 9223372036854775807) :
    Calls Try.prog 4 #[.int .i64 a, .slice A n c] w fun e w' => e = .returned (.bool true) ∧ Below w.heap.size w w' := by
  obtain ⟨m, hm1, hm60, hm3⟩ : ∃ m, m ≤ n ∧ m ≤ 60 ∧ (n ≤ m ∨ 60 ≤ m) := ⟨min n 60, by omega, by omega, by omega⟩
  go_enter Try.func4, Try.ntmps4
  go_wp2_with fail
  refine (known9 _).mono ?_
  rintro e w1 ⟨rfl, hb1⟩
  go_wp2_with fail
  refine (within9n a 1000 (by omega) (by omega) _).mono ?_
  rintro e w1' ⟨t, ht, rfl, rfl⟩
  go_wp2_with fail
  refine (row9m A n c m f w1 ((ha.below hb1).more hb1.size) hn hm1 hm60 hm3).mono ?_
  rintro e w2 ⟨A', c', rfl, own, hb2⟩
  have i2 := own.ints
  have hb := below_trans hb1 hb2
  clear hb1 hb2 own ha
  by_cases hm : m % 2 = 0
  · have t1 : ((m : Int) % 2 == 0) = true := by rw [beq_iff_eq]; omega
    go_wp2_with fail
    go_ret
    exact ⟨rfl, hb⟩
  have t1 : ((m : Int) % 2 == 0) = false := by rw [beq_eq_false_iff_ne]; omega
  have hm2 : m % 2 = 1 := by omega
  have hmk := fun u => run_make_row' (P := Try.prog) 24 3 (.int .i64 0) 8 Try.underlying24 int_info rfl .i64 .i64 m (by omega) (by omega) u
  go_wp2_with fail
  clear hmk
  have o0 : OwnI (w2.alloc (.cells (madeCells #[.int .i64 0] m) 3)) w2.heap.size 3 (.slice (some ⟨w2.heap.size, 0, none⟩) m m) m (fun j => if j < 0 then rowF f (m - 1 - j) else 0) := (OwnI.made w2 w2.heap.size m 3 (Nat.le_refl _) (by omega)).congr fun k hk => by simp
  have bA := (Below.refl w2.heap.size w2).alloc (Nat.le_refl _) (.cells (madeCells #[.int .i64 0] m) 3)
  go_loopw [8] (fun i wr => ∃ k : Nat, k ≤ m ∧ i = .int .i64 k ∧ OwnI wr w2.heap.size 3 (.slice (some ⟨w2.heap.size, 0, none⟩) m m) m (fun j => if j < k then rowF f (m - 1 - j) else 0) ∧ Below w2.heap.size w2 wr) (fun i _ => m - (intOf i).toNat)
  case atStart => exact ⟨0, Nat.zero_le _, rfl, o0, bA⟩
  case round =>
    obtain ⟨k, hk, rfl, own, hbel⟩ := hrel
    clear o0 bA
    have hsz := hbel.size
    have i3 := i2.below hbel
    by_cases hlt : k < m
    · have c1 := own.cell hlt
      have c2 := own.frozen k
      obtain ⟨b1, off1, rfl, hl1, c3⟩ := i3.at_ (show m - 1 - k < m by omega)
      obtain ⟨r, hr⟩ : ∃ r, r = m - 1 - k := ⟨_, rfl⟩
      have er : (m : Int) - 1 - (k : Int) = (r : Int) := by omega
      have hrm : r < m := by omega
      rw [← hr] at c3
      have HR := Lib.hid hr
      clear hr
      clear i3 i2
      go_wp2_with fail
      go_roundw
      case rel => exact ⟨k + 1, by omega, by go_num, (own.stored k _).congr fun j hj => by
          by_cases h : j = k
          · rw [if_pos h, if_pos (by omega), h, HR.out]
          · rw [if_neg h]
            by_cases h2 : j < k
            · rw [if_pos h2, if_pos (by omega)]
            · rw [if_neg h2, if_neg (by omega)], hbel.setCell (p := ⟨w2.heap.size, k, none⟩) (Nat.le_refl _) _⟩
      case measure => simp [intOf]; omega
    · have ek : k = m := by omega
      rw [ek] at own ⊢
      clear ek hk hlt k
      have i4 := (own.congr (g := fun j => rowF f (m - 1 - j)) (fun j hj => by rw [if_pos hj])).ints
      have i5 := i3.more hsz
      have hb2 := below_trans hb hbel
      clear own hbel hb i3 i2
      go_wp2_with fail
      refine (split_any t A' m c' (rowF f) wr i5 (by omega) (row_within _ _) (by omega)).mono ?_
      obtain ⟨o, ho⟩ : ∃ o, o = t % 2 := ⟨_, rfl⟩
      rw [← ho]
      have HO := Lib.hid ho
      have ho1 : o ≤ 1 := by omega
      have eo : (t : Int) % 2 = (o : Int) := by omega
      clear ho
      rintro e w3 ⟨B1, d1, rfl, j1, hb3⟩
      have i6 := (i4.below hb3).more hb3.size
      have hb4 := below_trans hb2 hb3
      clear hb2 hb3 i4 i5
      go_wp2_with fail
      refine (split_any t _ m m (fun j => rowF f (m - 1 - j)) w3 i6 (by omega) (fun k _ => by have := rowF_bd f k; have := rowF_bd f (m - 1 - k); show -72057594037927936 ≤ rowF f (m - 1 - k) ∧ rowF f (m - 1 - k) ≤ 72057594037927936; omega) (by omega)).mono ?_
      rw [← HO.out]
      rintro e w4 ⟨B2, d2, rfl, j2, hb5⟩
      have hb6 := below_trans hb4 hb5
      have q1 := j1.ints.below hb5
      have q2 := j2.ints
      have qe : ∀ i, i < m → splitF m o (rowF f) i = splitF m o (fun j => rowF f (m - 1 - j)) (if low m o ≤ i then m - 1 - (i - low m o) else low m o - 1 - i) := fun i hi => splitF_turned ho1 hm2 (fun k _ => rfl) i hi
      have hlk := low_le (n := m) ho1
      obtain ⟨l, hl⟩ : ∃ l, l = low m o := ⟨_, rfl⟩
      have el : ((m : Int) + 1 - (o : Int)) / 2 = (l : Int) := by unfold low at hl; omega
      rw [← hl] at qe hlk
      generalize splitF m o (fun j => rowF f (m - 1 - j)) = G at *
      generalize splitF m o (rowF f) = F at *
      clear hl hb4 hb5 i6 j1 j2 HO
      go_wp2_with fail
      rw [el]
      clear el eo
      go_loopw [12] (fun i wr' => ∃ j q : Nat, j ≤ m ∧ i = .int .i64 j ∧ wr' = w4.drewN q) (fun i _ => m - (intOf i).toNat)
      case atStart => exact ⟨0, 0, Nat.zero_le _, rfl, rfl⟩
      case round =>
        obtain ⟨j, q, hj, rfl, rfl⟩ := hrel
        by_cases hlt2 : j < m
        · obtain ⟨b1, off1, rfl, hl1, c1⟩ := q1.at_ hlt2
          rw [qe j hlt2] at c1
          by_cases h3 : l ≤ j
          · rw [if_pos h3] at c1
            obtain ⟨b2, off2, rfl, hl2, c2⟩ := q2.at_ (show m - 1 - (j - l) < m by omega)
            obtain ⟨r, hr⟩ : ∃ r, r = m - 1 - (j - l) := ⟨_, rfl⟩
            have er : (m : Int) - 1 - ((j : Int) - (l : Int)) = (r : Int) := by omega
            have hrm : r < m := by omega
            rw [← hr] at c1 c2
            have h4 : (l : Int) ≤ (j : Int) := by omega
            clear hr q1 q2 qe
            go_wp2_with fail
            try go_quiet (fail)
            try go_wp2_with fail
            go_roundw
            case rel => exact ⟨j + 1, _, by omega, by go_num, rfl⟩
            case measure => simp [intOf]; omega
          · rw [if_neg h3] at c1
            obtain ⟨b2, off2, rfl, hl2, c2⟩ := q2.at_ (show l - 1 - j < m by omega)
            obtain ⟨r, hr⟩ : ∃ r, r = l - 1 - j := ⟨_, rfl⟩
            have er : (l : Int) - 1 - (j : Int) = (r : Int) := by omega
            have hrm : r < m := by omega
            rw [← hr] at c1 c2
            have h4 : ¬ (l : Int) ≤ (j : Int) := by omega
            clear hr q1 q2 qe
            go_wp2_with fail
            try go_quiet (fail)
            try go_wp2_with fail
            go_roundw
            case rel => exact ⟨j + 1, _, by omega, by go_num, rfl⟩
            case measure => simp [intOf]; omega
        · go_wp2_with fail
          go_ret
          exact ⟨rfl, below_drewN hb6 q⟩
end Go.Proofs.Ytgaojpobdgopbaa
