/- CONTRACTS of waveletref12.Tiles, waveletlaw12.tiles. -/
import Derived.Test.YtpgkdpoehkdhcaaRef12b
import Derived.Test.YtpgkdpoehkdhcaaTiles
namespace Go.Proofs.Ytpgkdpoehkdhcaa
open Go.RowKit
set_option maxHeartbeats 400000
set_option linter.unusedVariables false
set_option linter.unusedSimpArgs false
set_option maxRecDepth 100000

theorem mxI_comm (a b : Int) : mxI a b = mxI b a := by unfold mxI; split <;> split <;> omega
theorem mnI_comm (a b : Int) : mnI a b = mnI b a := by unfold mnI; split <;> split <;> omega
theorem gridAt_at {W x y : Nat} (hx : x < W) : gridAt W (y * W + x) = (x, y) := by
  unfold gridAt
  rw [Nat.mul_comm y W, Nat.mul_add_mod, Nat.mod_eq_of_lt hx, Nat.mul_add_div (by omega), Nat.div_eq_of_lt hx, Nat.add_zero]

theorem rtiles_any (Xn Yn On Pn txn tyn : Nat) (A : Option Addr) (n c : Nat) (lv cw ch pr st od ly : Int) (rct sop eph : Bool) (hX : Xn ≤ 1024) (hY : Yn ≤ 1024) (hO : On ≤ 1024) (hP : Pn ≤ 1024) (h1 : 1 ≤ txn) (h2 : txn ≤ 1048576) (h3 : 1 ≤ tyn) (h4 : tyn ≤ 1048576) (w : World) (W H : Nat) (hW : W = byN Xn txn) (hH : H = byN Yn tyn) :
    Calls Try.prog 12 #[imgV Xn Yn On Pn A n c, parV txn tyn lv cw ch pr st od ly rct sop eph] w fun e w' => ∃ A' c', e = .returned (.slice A' (W * H) c') ∧ OwnC w' w.heap.size 38 4 (.slice A' (W * H) c') (W * H) (fun k => rcL (tileR Xn Yn On Pn txn tyn (gridAt W k))) ∧ Below w.heap.size w w' := by
  have J1 := Lib.hid (fun v => by have := ceil12_any (Xn : Int) txn (by omega) (by omega) v; rw [clI_nat _ _ h1, ← hW] at this; exact this)
  have J2 := Lib.hid (fun v => by have := ceil12_any (Yn : Int) tyn (by omega) (by omega) v; rw [clI_nat _ _ h3, ← hH] at this; exact this)
  have l1 : W ≤ 1024 := by have : byN Xn txn ≤ Xn := byN_le h1; omega
  have l2 : H ≤ 1024 := by have : byN Yn tyn ≤ Yn := byN_le h3; omega
  have l3 : W * H ≤ 1024 * 1024 := Nat.mul_le_mul l1 l2
  obtain ⟨f, hf⟩ : ∃ f : Nat → List Value, f = fun k => rcL (tileR Xn Yn On Pn txn tyn (gridAt W k)) := ⟨_, rfl⟩
  have hfl : ∀ k, (f k).length = 4 := fun k => by rw [hf]; rfl
  rw [← hf]
  clear hW hH
  unfold imgV parV
  go_enter Try.func12, Try.ntmps12
  go_wp2_with fail
  generalize hw2 : World.alloc (World.alloc w _) _ = w2
  have m0 : w2.cell? ⟨w.heap.size, 0, none⟩ = some (.int .i64 Xn) := by rw [← hw2]; simp [go_sem]
  have m1 : w2.cell? ⟨w.heap.size, 1, none⟩ = some (.int .i64 Yn) := by rw [← hw2]; simp [go_sem]
  have m2 : w2.cell? ⟨w.heap.size, 2, none⟩ = some (.int .i64 On) := by rw [← hw2]; simp [go_sem]
  have m3 : w2.cell? ⟨w.heap.size, 3, none⟩ = some (.int .i64 Pn) := by rw [← hw2]; simp [go_sem]
  have p0 : w2.cell? ⟨w.heap.size + 1, 0, none⟩ = some (.int .i64 txn) := by rw [← hw2]; simp [go_sem]
  have p1 : w2.cell? ⟨w.heap.size + 1, 1, none⟩ = some (.int .i64 tyn) := by rw [← hw2]; simp [go_sem]
  have hs2 : w2.heap.size = w.heap.size + 2 := by rw [← hw2]; simp
  have hb2 : Below w.heap.size w w2 := by rw [← hw2]; exact below_alloc (below_alloc (Below.refl _ _) _) _
  clear hw2
  obtain ⟨q, hq⟩ : ∃ q, w.heap.size = q := ⟨_, rfl⟩
  rw [hq] at m0 m1 m2 m3 p0 p1 hs2 hb2
  rw [hq]
  go_loopw [5, 6] (fun s j wr => ∃ (y : Nat) (X : Option Addr) (cx : Nat), y ≤ H ∧ j = .int .i64 y ∧ s = .slice X (y * W) cx ∧ OwnC wr (q + 2) 38 4 (.slice X (y * W) cx) (y * W) f ∧ Below (q + 2) w2 wr) (fun _ j _ => H - (intOf j).toNat)
  case atStart => exact ⟨0, none, 0, Nat.zero_le _, rfl, by rw [Nat.zero_mul], by rw [Nat.zero_mul]; exact OwnC.nil_ _ _ _ _ _ hfl, Below.refl _ _⟩
  case round =>
    obtain ⟨y, X, cx, hy, rfl, rfl, own, hbel⟩ := hrel
    have a0 := (hbel.cell (p := ⟨q, 0, none⟩) (by simp only; omega)).trans m0
    have a1 := (hbel.cell (p := ⟨q, 1, none⟩) (by simp only; omega)).trans m1
    have b0 := (hbel.cell (p := ⟨q + 1, 0, none⟩) (by simp only; omega)).trans p0
    have b1 := (hbel.cell (p := ⟨q + 1, 1, none⟩) (by simp only; omega)).trans p1
    by_cases hlt : y < H
    · have hyW : y * W + W ≤ 1024 * 1024 := Nat.le_trans (by rw [← Nat.succ_mul, Nat.mul_comm]; exact Nat.mul_le_mul_left W hlt) l3
      obtain ⟨yW, hyw⟩ : ∃ z, y * W = z := ⟨_, rfl⟩
      have HYW := Lib.hid hyw
      rw [hyw] at own hyW
      rw [hyw]
      clear hyw
      go_wp2_with (go_at_call 24; refine (J2.out _).mono ?_; rintro e w' ⟨rfl, hw'⟩; obtain rfl := hw'.symm; dsimp only)
      obtain ⟨wa, hwa⟩ : ∃ wa, wa = wr := ⟨_, rfl⟩
      subst hwa
      go_loopw [5, 7] (fun s i wr => ∃ (x : Nat) (X : Option Addr) (cx : Nat), x ≤ W ∧ i = .int .i64 x ∧ s = .slice X (yW + x) cx ∧ OwnC wr (q + 2) 38 4 (.slice X (yW + x) cx) (yW + x) f ∧ Below (q + 2) w2 wr) (fun _ i _ => W - (intOf i).toNat)
      case atStart => exact ⟨0, X, cx, Nat.zero_le _, rfl, rfl, own, hbel⟩
      case round =>
        clear own hbel a0 a1 b0 b1
        obtain ⟨x, X, cx, hx, rfl, rfl, own, hbel⟩ := hrel
        have a0 := (hbel.cell (p := ⟨q, 0, none⟩) (by simp only; omega)).trans m0
        have a1 := (hbel.cell (p := ⟨q, 1, none⟩) (by simp only; omega)).trans m1
        have a2 := (hbel.cell (p := ⟨q, 2, none⟩) (by simp only; omega)).trans m2
        have a3 := (hbel.cell (p := ⟨q, 3, none⟩) (by simp only; omega)).trans m3
        have b0 := (hbel.cell (p := ⟨q + 1, 0, none⟩) (by simp only; omega)).trans p0
        have b1 := (hbel.cell (p := ⟨q + 1, 1, none⟩) (by simp only; omega)).trans p1
        by_cases hlx : x < W
        · have hfx : f (yW + x) = rcL (tileR Xn Yn On Pn txn tyn (x, y)) := by rw [hf, ← HYW.out]; simp only [gridAt_at hlx]
          have k1 : (x : Int) * txn ≤ 1024 * 1048576 ∧ 0 ≤ (x : Int) * txn := ⟨Int.mul_le_mul (by omega) (by omega) (by omega) (by omega), Int.mul_nonneg (by omega) (by omega)⟩
          have k2 : (y : Int) * tyn ≤ 1024 * 1048576 ∧ 0 ≤ (y : Int) * tyn := ⟨Int.mul_le_mul (by omega) (by omega) (by omega) (by omega), Int.mul_nonneg (by omega) (by omega)⟩
          have k3 : ((x : Int) + 1) * txn ≤ 1024 * 1048576 ∧ 0 ≤ ((x : Int) + 1) * txn := ⟨Int.mul_le_mul (by omega) (by omega) (by omega) (by omega), Int.mul_nonneg (by omega) (by omega)⟩
          have k4 : ((y : Int) + 1) * tyn ≤ 1024 * 1048576 ∧ 0 ≤ ((y : Int) + 1) * tyn := ⟨Int.mul_le_mul (by omega) (by omega) (by omega) (by omega), Int.mul_nonneg (by omega) (by omega)⟩
          have hr : rcL (tileR Xn Yn On Pn txn tyn (x, y)) = [.int .i64 (mxI ((x : Int) * txn) On), .int .i64 (mxI ((y : Int) * tyn) Pn), .int .i64 (mnI (((x : Int) + 1) * txn) Xn), .int .i64 (mnI (((y : Int) + 1) * tyn) Yn)] := by
            unfold tileR bothR rcL
            simp only
            rw [mxI_comm On, mxI_comm Pn, mnI_comm Xn, mnI_comm Yn]
          rw [hr] at hfx
          clear hr
          unfold mxI mnI at hfx
          obtain ⟨xa, hxa⟩ : ∃ z : Int, (x : Int) * txn = z := ⟨_, rfl⟩
          rw [hxa] at k1 hfx
          obtain ⟨ya, hya⟩ : ∃ z : Int, (y : Int) * tyn = z := ⟨_, rfl⟩
          rw [hya] at k2 hfx
          obtain ⟨xb, hxb⟩ : ∃ z : Int, ((x : Int) + 1) * txn = z := ⟨_, rfl⟩
          rw [hxb] at k3 hfx
          obtain ⟨yb, hyb⟩ : ∃ z : Int, ((y : Int) + 1) * tyn = z := ⟨_, rfl⟩
          rw [hyb] at k4 hfx
          obtain ⟨r0, hr0⟩ : ∃ r : Int, (if xa < (On : Int) then (On : Int) else xa) = r := ⟨_, rfl⟩
          obtain ⟨r1, hr1⟩ : ∃ r : Int, (if ya < (Pn : Int) then (Pn : Int) else ya) = r := ⟨_, rfl⟩
          obtain ⟨r2, hr2⟩ : ∃ r : Int, (if (Xn : Int) < xb then (Xn : Int) else xb) = r := ⟨_, rfl⟩
          obtain ⟨r3, hr3⟩ : ∃ r : Int, (if (Yn : Int) < yb then (Yn : Int) else yb) = r := ⟨_, rfl⟩
          rw [hr0, hr1, hr2, hr3] at hfx
          have HFX := Lib.hid hfx
          clear hfx
          have hcel : ∀ (j : Nat) (u : Value), (f (yW + x))[j]? = some u → (wr.alloc (.cells #[.int .i64 r0, .int .i64 r1, .int .i64 r2, .int .i64 r3] 38)).cell? ⟨wr.heap.size, j, none⟩ = some u := fun j u hj => by
            rw [HFX.out] at hj
            rw [cell_of_row _ _ _ _ _ (0, 0) (heap_alloc_new wr _)]
            simpa using hj
          have HC := Lib.hid hcel
          clear hcel
          have hsz : q + 2 ≤ wr.heap.size := by have := hbel.size; omega
          go_wp2_with (first | (go_at_call 24; refine (J1.out _).mono ?_; rintro e w' ⟨rfl, hw'⟩; obtain rfl := hw'.symm; dsimp only) | (at_builtin; refine wpList_appC wr ((Below.refl _ _).alloc (Nat.le_refl _) _) (KeepsOthers.alloc _ _) rfl _ _ 33 rfl 38 4 rect_elem (q + 2) X (yW + x) cx f rfl own wr.heap.size rfl HC.out (fun u hu => by rw [HFX.out] at hu; simp at hu; rcases hu with rfl | rfl | rfl | rfl <;> rfl) (by omega) hsz ?_; intro g1 cap1 w5 o5 st5 lt5))
          have hb5 := hbel.trans st5.below
          go_roundw
          case rel => exact ⟨x + 1, _, cap1, by omega, by go_num, rfl, o5, hb5⟩
          case measure => simp [intOf]; omega
        · obtain rfl : x = W := by omega
          have hz : yW + x = (y + 1) * x := by rw [← HYW.out, Nat.add_mul, Nat.one_mul]
          rw [hz] at own
          rw [hz]
          clear hz
          go_wp2_with (go_at_call 24; refine (J1.out _).mono ?_; rintro e w' ⟨rfl, rfl⟩; dsimp only)
          go_roundw
          case rel => exact ⟨y + 1, X, cx, by omega, by go_num, rfl, own, hbel⟩
          case measure => simp [intOf]; omega
    · obtain rfl : y = H := by omega
      have hbw := hb2.trans (hbel.mono (by omega))
      go_wp2_with (go_at_call 24; refine (J2.out _).mono ?_; rintro e w' ⟨rfl, rfl⟩; dsimp only)
      go_ret
      rw [Nat.mul_comm W y]
      exact ⟨X, cx, rfl, own.mono (by omega), by rw [hq]; exact hbw⟩
end Go.Proofs.Ytpgkdpoehkdhcaa
