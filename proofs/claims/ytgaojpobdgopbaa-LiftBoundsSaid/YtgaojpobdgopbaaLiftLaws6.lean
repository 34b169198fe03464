/- WALKS of the laws of rows: a rising line. -/
import Derived.Test.YtgaojpobdgopbaaLiftLaws5
namespace Go.Proofs.Ytgaojpobdgopbaa
open Go.RowKit
set_option maxHeartbeats 2000000
set_option linter.unusedVariables false

set_option maxRecDepth 100000 in
theorem liftLine_walk (a b c : Int) (w : World) :
    Calls Try.prog 7 #[.int .i64 a, .int .i64 b, .int .i64 c] w fun e w' => e = .returned (.bool true) ∧ Below w.heap.size w w' := by
  go_enter Try.func7, Try.ntmps7
  go_wp2_with fail
  refine (known9 _).mono ?_
  rintro e w1 ⟨rfl, hb1⟩
  go_wp2_with fail
  refine (within9n a 1000 (by omega) (by omega) _).mono ?_
  rintro e w1' ⟨t, ht, rfl, rfl⟩
  go_wp2_with fail
  refine (within9n b 40 (by omega) (by omega) _).mono ?_
  rintro e w1' ⟨s, hs, rfl, rfl⟩
  obtain ⟨n, hn⟩ : ∃ n : Nat, n = 2 + s := ⟨_, rfl⟩
  have en : 2 + (s : Int) = (n : Int) := by omega
  have hn2 : 2 ≤ n := by omega
  have hn40 : n ≤ 42 := by omega
  clear hn
  go_wp2_with fail
  refine (within9n c 100 (by omega) (by omega) _).mono ?_
  rintro e w1' ⟨r, hr, rfl, rfl⟩
  obtain ⟨st, hst⟩ : ∃ st : Int, st = 2 * (r : Int) := ⟨_, rfl⟩
  have est : 2 * (r : Int) = st := by omega
  have hst1 : 0 ≤ st ∧ st ≤ 200 := by omega
  have HST := Lib.hid hst
  clear hst
  have hmk := fun u => run_make_row' (P := Try.prog) 24 3 (.int .i64 0) 8 Try.underlying24 int_info rfl .i64 .i64 n (by omega) (by omega) u
  go_wp2_with fail
  try rw [en]
  try rw [est]
  clear hmk en est hr hs
  have o0 : OwnI (w1.alloc (.cells (madeCells #[.int .i64 0] n) 3)) w1.heap.size 3 (.slice (some ⟨w1.heap.size, 0, none⟩) n n) n (fun j => if j < 0 then (j : Int) * st else 0) := (OwnI.made w1 w1.heap.size n 3 (Nat.le_refl _) (by omega)).congr fun k hk => by simp
  have bA := (Below.refl w1.heap.size w1).alloc (Nat.le_refl _) (.cells (madeCells #[.int .i64 0] n) 3)
  have hfb : ∀ k : Nat, k < n → 0 ≤ (k : Int) * st ∧ (k : Int) * st ≤ 8400 := fun k hk => by
    have h1 := Int.mul_nonneg (a := (k : Int)) (b := st) (by omega) hst1.1
    have h2 := Int.mul_le_mul (a := (k : Int)) (b := st) (c := 42) (d := 200) (by omega) hst1.2 hst1.1 (by omega)
    omega
  go_loopw [8] (fun i wr => ∃ k : Nat, k ≤ n ∧ i = .int .i64 k ∧ OwnI wr w1.heap.size 3 (.slice (some ⟨w1.heap.size, 0, none⟩) n n) n (fun j => if j < k then (j : Int) * st else 0) ∧ Below w1.heap.size w1 wr) (fun i _ => n - (intOf i).toNat)
  case atStart => exact ⟨0, Nat.zero_le _, rfl, o0, bA⟩
  case round =>
    obtain ⟨k, hk, rfl, own, hbel⟩ := hrel
    clear o0 bA
    have hsz := hbel.size
    by_cases hlt : k < n
    · have c1 := own.cell hlt
      have c2 := own.frozen k
      have hp := hfb k hlt
      clear hfb
      go_wp2_with fail
      go_roundw
      case rel => exact ⟨k + 1, by omega, by go_num, (own.stored k _).congr fun j hj => by
          by_cases h : j = k
          · rw [if_pos h, if_pos (by omega), h]
          · rw [if_neg h]
            by_cases h2 : j < k
            · rw [if_pos h2, if_pos (by omega)]
            · rw [if_neg h2, if_neg (by omega)], hbel.setCell (p := ⟨w1.heap.size, k, none⟩) (Nat.le_refl _) _⟩
      case measure => simp [intOf]; omega
    · have ek : k = n := by omega
      rw [ek] at own ⊢
      clear ek hk hlt k
      have i1 := (own.congr (g := fun j => (j : Int) * st) (fun j hj => by rw [if_pos hj])).ints
      have hb2 := below_trans hb1 hbel
      clear own hbel hb1
      go_wp2_with fail
      refine (split_any t _ n n (fun j => (j : Int) * st) wr i1 (by omega) (fun k hk => by have := hfb k hk; show -72057594037927936 ≤ (k : Int) * st ∧ (k : Int) * st ≤ 72057594037927936; omega) (by omega)).mono ?_
      obtain ⟨o, ho⟩ : ∃ o, o = t % 2 := ⟨_, rfl⟩
      rw [← ho]
      have ho1 : o ≤ 1 := by omega
      have eo : (t : Int) % 2 = (o : Int) := by omega
      clear ho
      rintro e w2 ⟨B1, d1, rfl, j1, hb3⟩
      have hb := below_trans hb2 hb3
      have q1 := j1.ints
      have qe : ∀ i, i < n → low n o ≤ i → splitF n o (fun j => (j : Int) * st) i = if 2 * (i - low n o) + (1 - o) = 0 then -st else if 2 * (i - low n o) + (1 - o) = n - 1 then st else 0 := fun i hi hl => by
        have := splitF_line (r := (r : Int)) ho1 hn2 (f := fun j => (j : Int) * st) (fun k _ => by rw [HST.out]) i hi hl
        rw [this, HST.out]
      have hsp : ∀ i, i < n → low n o ≤ i → 2 * (i - low n o) + (1 - o) < n := fun i hi hl => by
        have h := spot_lt ho1 hi
        unfold spot at h
        rwa [if_neg (by omega)] at h
      have hlk := low_le (n := n) ho1
      obtain ⟨l, hl⟩ : ∃ l, l = low n o := ⟨_, rfl⟩
      have el : ((n : Int) + 1 - (o : Int)) / 2 = (l : Int) := by unfold low at hl; omega
      rw [← hl] at qe hlk hsp
      generalize splitF n o (fun j => (j : Int) * st) = F at *
      clear hl hb2 hb3 i1 j1 HST hfb
      go_wp2_with fail
      rw [el]
      try rw [eo]
      clear el
      go_loopw [11] (fun i wr' => ∃ j q : Nat, l ≤ j ∧ j ≤ n ∧ i = .int .i64 j ∧ wr' = w2.drewN q) (fun i _ => n - (intOf i).toNat)
      case atStart => exact ⟨l, 0, Nat.le_refl _, hlk, rfl, rfl⟩
      case round =>
        obtain ⟨j, q, hlj, hj, rfl, rfl⟩ := hrel
        by_cases hlt2 : j < n
        · obtain ⟨b1, off1, rfl, hl1, c1⟩ := q1.at_ hlt2
          rw [qe j hlt2 hlj] at c1
          have hpn := hsp j hlt2 hlj
          obtain ⟨p, hp⟩ : ∃ p, p = 2 * (j - l) + (1 - o) := ⟨_, rfl⟩
          rw [← hp] at c1 hpn
          have ep : 2 * ((j : Int) - (l : Int)) + 1 - (o : Int) = (p : Int) := by omega
          clear hp qe q1 hsp
          by_cases h0 : p = 0
          · rw [if_pos h0] at c1
            have t1 : ((p : Int) == 0) = true := by rw [beq_iff_eq]; omega
            go_wp2_with fail
            go_roundw
            case rel => exact ⟨j + 1, _, by omega, by omega, by go_num, rfl⟩
            case measure => simp [intOf]; omega
          · rw [if_neg h0] at c1
            have t1 : ((p : Int) == 0) = false := by rw [beq_eq_false_iff_ne]; omega
            have t3 : (0 : Int) < (p : Int) := by omega
            by_cases h9 : p = n - 1
            · rw [if_pos h9] at c1
              have t2 : ((p : Int) == (n : Int) - 1) = true := by rw [beq_iff_eq]; omega
              have t4 : ¬ (p : Int) < (n : Int) - 1 := by omega
              have t5 : (1 : Int) < (n : Int) := by omega
              go_wp2_with fail
              go_roundw
              case rel => exact ⟨j + 1, _, by omega, by omega, by go_num, rfl⟩
              case measure => simp [intOf]; omega
            · rw [if_neg h9] at c1
              have t2 : ((p : Int) == (n : Int) - 1) = false := by rw [beq_eq_false_iff_ne]; omega
              have t4 : (p : Int) < (n : Int) - 1 := by omega
              go_wp2_with fail
              go_roundw
              case rel => exact ⟨j + 1, _, by omega, by omega, by go_num, rfl⟩
              case measure => simp [intOf]; omega
        · go_wp2_with fail
          go_ret
          exact ⟨rfl, below_drewN hb q⟩
end Go.Proofs.Ytgaojpobdgopbaa
