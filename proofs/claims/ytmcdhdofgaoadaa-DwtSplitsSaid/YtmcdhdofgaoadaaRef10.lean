/- CONTRACTS of waveletref10.lows, cut, half, rows, columns (not back). -/
import Derived.Test.YtmcdhdofgaoadaaDSplit
import Derived.Test.YtmcdhdofgaoadaaRSplit9b
import Derived.Test.YtmcdhdofgaoadaaDwtTwice
namespace Go.Proofs.Ytmcdhdofgaoadaa
open Go.RowKit
set_option maxHeartbeats 8000000
set_option linter.unusedVariables false
set_option linter.unusedSimpArgs false

theorem rlows_any (x W : Nat) (hx : x ≤ 1048576) (hW : W ≤ 1048576) (w : World) :
    Calls Try.prog 33 #[.int .i64 x, .int .i64 ((x : Int) + W)] w fun e w' => e = .returned (.int .i64 (low W (x % 2) : Nat)) ∧ w' = w := by
  have q0 := hf_tdiv x
  have q2 := hf_tdiv2 x W
  have hx6 : hf x ≤ 1048577 := by unfold hf; omega
  have hlw : low W (x % 2) ≤ W := low_le (by omega)
  generalize low W (x % 2) = lw at *
  have t7 : IntKind.i64.wrap ((hf x : Int) + lw - hf x) = lw := by rw [show (hf x : Int) + lw - hf x = lw by omega]; exact IntWalk.i64_in _ (by omega)
  generalize hf x = hx' at *
  go_enter Try.func33, Try.ntmps33
  go_wp2_with fail
  go_ret
  exact ⟨ret_int (by omega), rfl⟩

theorem rhalf_any (x y W H : Nat) (hx : x ≤ 1048576) (hy : y ≤ 1048576) (hW : W ≤ 1048576) (hH : H ≤ 1048576) (w : World) :
    Calls Try.prog 35 #[.agg #[.int .i64 x, .int .i64 y, .int .i64 ((x : Int) + W), .int .i64 ((y : Int) + H)]] w fun e w' => e = .returned (.agg #[.int .i64 (hf x), .int .i64 (hf y), .int .i64 ((hf x : Int) + (low W (x % 2) : Nat)), .int .i64 ((hf y : Int) + (low H (y % 2) : Nat))]) ∧ Below w.heap.size w w' := by
  have q0 := hf_tdiv x
  have q1 := hf_tdiv y
  have q2 := hf_tdiv2 x W
  have q3 := hf_tdiv2 y H
  have hx6 : hf x ≤ 1048577 := by unfold hf; omega
  have hy6 : hf y ≤ 1048577 := by unfold hf; omega
  have hlw : low W (x % 2) ≤ W := low_le (by omega)
  have hlh : low H (y % 2) ≤ H := low_le (by omega)
  generalize low W (x % 2) = lw at *
  generalize low H (y % 2) = lh at *
  generalize hf x = hx' at *
  generalize hf y = hy' at *
  go_enter Try.func35, Try.ntmps35
  go_wp2_with fail
  refine bodyPost_ret (v := .agg #[.int .i64 hx', .int .i64 hy', .int .i64 ((hx' : Int) + lw), .int .i64 ((hy' : Int) + lh)]) (by simp [results, Try.results35, go_sem]) rfl ⟨rfl, ?_⟩
  first
    | exact below_alloc (below_alloc (Below.refl _ _) _) _
    | exact (below_alloc (below_alloc (Below.refl _ _) _) _).drew

theorem rcut_any (A : Option Addr) (W H c : Nat) (f : Nat → Int) (a b n m : Nat) (X1 Y1 : Int) (hX1 : X1 = (a : Int) + n) (hY1 : Y1 = (b : Int) + m) (w : World) (N : Nat) (hN : H * W = N) (ha : IntsAt w w.heap.size A N f) (hc : N ≤ c) (hN2 : N ≤ 1099511627776) (hW : W ≤ 1048576) (hH : H ≤ 1048576) (h1 : a + n ≤ W) (h2 : b + m ≤ H) :
    Calls Try.prog 34 #[.int .i64 W, .slice A N c, .int .i64 a, .int .i64 b, .int .i64 X1, .int .i64 Y1] w fun e w' => ∃ A' c', e = .returned (.slice A' (m * n) c') ∧ m * n ≤ c' ∧ OwnI w' w.heap.size 3 (.slice A' (m * n) c') (m * n) (cutF W a b n f) ∧ Below w.heap.size w w' := by
  subst hX1 hY1
  obtain ⟨M, hM⟩ : ∃ M, m * n = M := ⟨_, rfl⟩
  have hM2 : M ≤ N := by rw [← hM, ← hN]; exact Nat.mul_le_mul (by omega) (by omega)
  rw [hM]
  have HM := Lib.hid hM
  have HN := Lib.hid hN
  clear hM hN
  go_enter Try.func34, Try.ntmps34
  go_wp2_with fail
  go_loopw [13, 14] (fun out y wr => ∃ (j Q cx : Nat) (X : Option Addr), j ≤ m ∧ j * n = Q ∧ out = .slice X Q cx ∧ y = .int .i64 ((b : Int) + j) ∧ OwnI wr w.heap.size 3 (.slice X Q cx) Q (cutF W a b n f) ∧ Below w.heap.size w wr) (fun _ y _ => m + b - (intOf y).toNat)
  case atStart => exact ⟨0, 0, 0, none, Nat.zero_le _, Nat.zero_mul _, rfl, by simp, OwnI.nil_ _ _ _ _, Below.refl _ _⟩
  case round =>
    obtain ⟨j, Q, cx, X, hj, hQ, rfl, rfl, own, hbel⟩ := hrel
    have HQ := Lib.hid hQ
    clear hQ
    have hsz := hbel.size
    by_cases hlt : j < m
    · have hPW := mul_le_of (W := W) h2 hlt
      rw [HN.out] at hPW
      obtain ⟨P, hP⟩ : ∃ P, (b + j) * W = P := ⟨_, rfl⟩
      rw [hP] at hPW
      have sP : IntKind.i64.wrap (((b : Int) + j) * W) = (P : Int) := by
        rw [show ((b : Int) + j) * W = (P : Int) by rw [← hP]; simp]
        exact IntWalk.i64_in _ (by omega)
      have HP := Lib.hid hP
      clear hP
      obtain ⟨A', c', hc', hsl, hI⟩ := slice_ints (P := Try.prog) 24 3 int_info Try.underlying24 (lo := P + a) (n := n) (ha.below hbel) (by omega) hc ((P : Int) + a) ((P : Int) + ((a : Int) + n)) (by omega) (by omega)
      have hQM : Q + n ≤ M := by
        have := Nat.mul_le_mul_right n (show j + 1 ≤ m by omega)
        rw [HM.out, Nat.add_mul, HQ.out, Nat.one_mul] at this
        exact this
      clear ha
      go_wp2_with (first
        | (at_builtin; refine wpList_appN rfl _ _ 24 rfl 3 int_info Try.underlying24 w.heap.size X Q cx (cutF W a b n f) rfl own _ A' n c' _ rfl hI (by omega) (by omega) ?_; intro A2 c2 w2 o2 st2))
      have hb1 : Below w.heap.size w w2 := hbel.trans st2.below
      have o3 := o2.congr (fun k hk => join_cut HQ.out HP.out k hk)
      clear o2 st2 hbel own
      go_wp2_with fail
      go_roundw
      case rel => exact ⟨j + 1, Q + n, c2, A2, by omega, by rw [Nat.add_mul, HQ.out, Nat.one_mul], rfl, by go_num, o3, hb1⟩
      case measure => simp [intOf]; omega
    · obtain rfl : j = m := by omega
      obtain rfl : Q = M := HQ.out.symm.trans HM.out
      have hcap := own.cap.1
      go_wp2_with fail
      go_ret
      exact ⟨X, cx, rfl, hcap, own, hbel⟩

theorem join_rows {W y : Nat} {D : (Nat → Int) → Nat → Int} {f : Nat → Int} {P : Nat} (hP : y * W = P) (k : Nat) (hk : k < P + W) : joinRow P (rowsF W D f) (D (fun x => f (P + x))) k = rowsF W D f k := by
  unfold joinRow
  split
  · rfl
  · rename_i h
    obtain ⟨i, hi⟩ : ∃ i, k = P + i := ⟨k - P, by omega⟩
    subst hi
    have hin : i < W := by omega
    unfold rowsF
    rw [at_div hP hin, at_mod hP hin, hP, Nat.add_sub_cancel_left]

theorem rrows_any (A : Option Addr) (W H c at_ : Nat) (f : Nat → Int) (w : World) (N : Nat) (hN : H * W = N) (ha : IntsAt w w.heap.size A N f) (hc : N ≤ c) (hN2 : N ≤ 1099511627775) (hW : W ≤ 1048576) (hH : H ≤ 1048576) (hat : at_ ≤ 1048576) (hM : Within N 72057594037927936 f) :
    Calls Try.prog 31 #[.int .i64 W, .int .i64 H, .int .i64 at_, .slice A N c, .bool false] w fun e w' => ∃ A' c', e = .returned (.slice A' N c') ∧ N ≤ c' ∧ OwnI w' w.heap.size 3 (.slice A' N c') N (rowsF W (splitF W (at_ % 2)) f) ∧ Below w.heap.size w w' := by
  have HN := Lib.hid hN
  clear hN
  go_enter Try.func31, Try.ntmps31
  go_wp2_with fail
  go_loopw [11, 12] (fun out y wr => ∃ (j Q cx : Nat) (X : Option Addr), j ≤ H ∧ j * W = Q ∧ out = .slice X Q cx ∧ y = .int .i64 j ∧ OwnI wr w.heap.size 3 (.slice X Q cx) Q (rowsF W (splitF W (at_ % 2)) f) ∧ Below w.heap.size w wr) (fun _ y _ => H - (intOf y).toNat)
  case atStart => exact ⟨0, 0, 0, none, Nat.zero_le _, Nat.zero_mul _, rfl, rfl, OwnI.nil_ _ _ _ _, Below.refl _ _⟩
  case round =>
    obtain ⟨j, Q, cx, X, hj, hQ, rfl, rfl, own, hbel⟩ := hrel
    have hsz := hbel.size
    by_cases hlt : j < H
    · have hQW : Q + W ≤ N := by
        have := Nat.mul_le_mul_right W (show j + 1 ≤ H by omega)
        rw [HN.out, Nat.add_mul, hQ, Nat.one_mul] at this
        exact this
      have sP : IntKind.i64.wrap ((j : Int) * W) = (Q : Int) := by
        rw [show (j : Int) * W = (Q : Int) by rw [← hQ]; simp]
        exact IntWalk.i64_in _ (by omega)
      have sP2 : IntKind.i64.wrap (((j : Int) + 1) * W) = (Q : Int) + W := by
        rw [show ((j : Int) + 1) * W = (Q : Int) + W by rw [← hQ, Int.add_mul]; simp]
        exact IntWalk.i64_in _ (by omega)
      obtain ⟨A', c', hc', hsl, hI⟩ := slice_ints (P := Try.prog) 24 3 int_info Try.underlying24 (lo := Q) (n := W) (ha.below hbel) (by omega) hc (Q : Int) ((Q : Int) + W) rfl (by omega)
      have RS := Lib.hid (rsplit_any at_ A' W c' (fun x => f (Q + x)) wr (hI.more hsz) (by omega) (fun k hk => hM _ (by omega)) (by omega))
      have HQ := Lib.hid hQ
      clear hQ hI
      go_wp2_with fail
      refine RS.out.mono ?_
      rintro e w2 ⟨A3, c3, rfl, o3, b3⟩
      have own2 := own.below b3
      have hb2 := below_trans hbel b3
      have i3 := o3.ints
      have hsz2 := hb2.size
      clear o3 own RS
      go_wp2_with (first
        | (at_builtin; refine wpList_appN rfl _ _ 24 rfl 3 int_info Try.underlying24 w.heap.size X Q cx (rowsF W (splitF W (at_ % 2)) f) rfl own2 _ A3 W c3 _ rfl i3 (by omega) (by omega) ?_; intro A4 c4 w4 o4 st4))
      have hb4 : Below w.heap.size w w4 := hb2.trans st4.below
      have o5 := o4.congr (fun k hk => join_rows (D := splitF W (at_ % 2)) (f := f) HQ.out k hk)
      clear o4 st4 hb2 own2
      go_wp2_with fail
      go_roundw
      case rel => exact ⟨j + 1, Q + W, c4, A4, by omega, by rw [Nat.add_mul, HQ.out, Nat.one_mul], rfl, by go_num, o5, hb4⟩
      case measure => simp [intOf]; omega
    · obtain rfl : j = H := by omega
      obtain rfl : Q = N := hQ.symm.trans HN.out
      have hcap := own.cap.1
      clear hQ
      go_wp2_with fail
      go_ret
      exact ⟨X, cx, rfl, hcap, own, hbel⟩
end Go.Proofs.Ytmcdhdofgaoadaa
