/- CONTRACT of waveletref12.numbers: where the numbers are good, the components decide. -/
import Derived.Test.YtmieoifagnpbiaaNumA
import Derived.Test.YtmieoifagnpbiaaCan3
import Derived.Test.YtmieoifagnpbiaaLoad
import Derived.Deep.CutBlock
namespace Go.Proofs.Ytmieoifagnpbiaa
open Go.RowKit
set_option maxHeartbeats 16000000
set_option linter.unusedVariables false
set_option linter.unusedSimpArgs false
set_option maxRecDepth 100000
theorem num_plain (X Y Ox Oy : Int) (A : Option Addr) (n c : Nat) (tx ty lv cw ch pr st od ly : Int) (rct sop eph : Bool) (w : World) (Xn Yn txn tyn : Nat) (hX : X = Xn) (hY : Y = Yn) (htx : tx = txn) (hty : ty = tyn) (hXb : Xn ≤ 64) (hYb : Yn ≤ 64) (ht : 1 ≤ txn ∧ txn ≤ 65536) (hu : 1 ≤ tyn ∧ tyn ≤ 65536) (h0 : ¬ tx ≤ Ox) (h2 : ¬ ty ≤ Oy) (hc : ¬ 16 < byN Xn txn * byN Yn tyn) (g0 : ¬ lv < 0) (g1 : ¬ 5 < lv) (g2 : ¬ cw < 2) (g3 : ¬ 6 < cw) (g4 : ¬ ch < 2) (g5 : ¬ 6 < ch) (g6 : ¬ pr < 1) (g7 : ¬ 15 < pr) (g8 : ¬ st < 0) (g9 : ¬ 63 < st) (g10 : ¬ od < 0) (g11 : ¬ 4 < od) (g12 : ¬ ly < 1) (g13 : ¬ 8 < ly) (hr : rct = false) : Calls Try.prog 43 #[imgV X Y Ox Oy A n c, parV tx ty lv cw ch pr st od ly rct sop eph] w fun e w' => e = .returned (.int .i64 0) ∧ Below w.heap.size w w' := by
  subst hr
  subst hX hY htx hty
  obtain ⟨W, hW⟩ : ∃ z, byN Xn txn = z := ⟨_, rfl⟩
  obtain ⟨H, hH⟩ : ∃ z, byN Yn tyn = z := ⟨_, rfl⟩
  have G1 := Lib.hid (fun v => by have := ceil12_any (Xn : Int) txn (by omega) (by omega) v; rw [clI_nat _ _ ht.1, hW] at this; exact this)
  have G2 := Lib.hid (fun v => by have := ceil12_any (Yn : Int) tyn (by omega) (by omega) v; rw [clI_nat _ _ hu.1, hH] at this; exact this)
  have hW64 : W ≤ 64 := by have := byN_le (n := Xn) ht.1; omega
  have hH64 : H ≤ 64 := by have := byN_le (n := Yn) hu.1; omega
  have hWH : W * H ≤ 64 * 64 := Nat.mul_le_mul hW64 hH64
  rw [hW, hH] at hc
  obtain ⟨wh, hwh⟩ : ∃ z, W * H = z := ⟨_, rfl⟩
  have k1 : IntKind.i64.wrap ((W : Int) * (H : Int)) = (wh : Int) := by rw [show (W : Int) * (H : Int) = ((W * H : Nat) : Int) from (Int.natCast_mul _ _).symm, hwh]; exact wr (by omega)
  rw [hwh] at hc
  have h1 : ¬ (65536 : Int) < txn := by omega
  have h3 : ¬ (65536 : Int) < tyn := by omega
  have hb := below_alloc (below_alloc (Below.refl w.heap.size w) (.cells #[.int .i64 (Xn : Int), .int .i64 (Yn : Int), .int .i64 Ox, .int .i64 Oy, .slice A n c] 25)) (.cells #[.int .i64 (txn : Int), .int .i64 (tyn : Int), .int .i64 lv, .int .i64 cw, .int .i64 ch, .int .i64 pr, .int .i64 st, .int .i64 od, .int .i64 ly, .bool false, .bool sop, .bool eph] 27)
  clear hW hH hwh hWH ht hu
  unfold imgV parV
  go_enter Try.func43, Try.ntmps43
  go_wp2_with fail
  go_quiet (first | (go_at_call 48; first | (with_reducible exact Calls.quiet_of_same (G1.out _)) | (with_reducible exact Calls.quiet_of_same (G2.out _))))
  go_wp2_with fail
  go_ret
  exact ⟨rfl, below_drewN hb _⟩
theorem num_few (X Y Ox Oy : Int) (A : Option Addr) (n c : Nat) (tx ty lv cw ch pr st od ly : Int) (rct sop eph : Bool) (w : World) (Xn Yn txn tyn : Nat) (hX : X = Xn) (hY : Y = Yn) (htx : tx = txn) (hty : ty = tyn) (hXb : Xn ≤ 64) (hYb : Yn ≤ 64) (ht : 1 ≤ txn ∧ txn ≤ 65536) (hu : 1 ≤ tyn ∧ tyn ≤ 65536) (h0 : ¬ tx ≤ Ox) (h2 : ¬ ty ≤ Oy) (hc : ¬ 16 < byN Xn txn * byN Yn tyn) (g0 : ¬ lv < 0) (g1 : ¬ 5 < lv) (g2 : ¬ cw < 2) (g3 : ¬ 6 < cw) (g4 : ¬ ch < 2) (g5 : ¬ 6 < ch) (g6 : ¬ pr < 1) (g7 : ¬ 15 < pr) (g8 : ¬ st < 0) (g9 : ¬ 63 < st) (g10 : ¬ od < 0) (g11 : ¬ 4 < od) (g12 : ¬ ly < 1) (g13 : ¬ 8 < ly) (hr : rct = true) (hn : n < 3) : Calls Try.prog 43 #[imgV X Y Ox Oy A n c, parV tx ty lv cw ch pr st od ly rct sop eph] w fun e w' => e = .returned (.int .i64 3) ∧ Below w.heap.size w w' := by
  subst hr
  subst hX hY htx hty
  obtain ⟨W, hW⟩ : ∃ z, byN Xn txn = z := ⟨_, rfl⟩
  obtain ⟨H, hH⟩ : ∃ z, byN Yn tyn = z := ⟨_, rfl⟩
  have G1 := Lib.hid (fun v => by have := ceil12_any (Xn : Int) txn (by omega) (by omega) v; rw [clI_nat _ _ ht.1, hW] at this; exact this)
  have G2 := Lib.hid (fun v => by have := ceil12_any (Yn : Int) tyn (by omega) (by omega) v; rw [clI_nat _ _ hu.1, hH] at this; exact this)
  have hW64 : W ≤ 64 := by have := byN_le (n := Xn) ht.1; omega
  have hH64 : H ≤ 64 := by have := byN_le (n := Yn) hu.1; omega
  have hWH : W * H ≤ 64 * 64 := Nat.mul_le_mul hW64 hH64
  rw [hW, hH] at hc
  obtain ⟨wh, hwh⟩ : ∃ z, W * H = z := ⟨_, rfl⟩
  have k1 : IntKind.i64.wrap ((W : Int) * (H : Int)) = (wh : Int) := by rw [show (W : Int) * (H : Int) = ((W * H : Nat) : Int) from (Int.natCast_mul _ _).symm, hwh]; exact wr (by omega)
  rw [hwh] at hc
  have h1 : ¬ (65536 : Int) < txn := by omega
  have h3 : ¬ (65536 : Int) < tyn := by omega
  have hb := below_alloc (below_alloc (Below.refl w.heap.size w) (.cells #[.int .i64 (Xn : Int), .int .i64 (Yn : Int), .int .i64 Ox, .int .i64 Oy, .slice A n c] 25)) (.cells #[.int .i64 (txn : Int), .int .i64 (tyn : Int), .int .i64 lv, .int .i64 cw, .int .i64 ch, .int .i64 pr, .int .i64 st, .int .i64 od, .int .i64 ly, .bool true, .bool sop, .bool eph] 27)
  clear hW hH hwh hWH ht hu
  unfold imgV parV
  go_enter Try.func43, Try.ntmps43
  go_wp2_with fail
  go_quiet (first | (go_at_call 48; first | (with_reducible exact Calls.quiet_of_same (G1.out _)) | (with_reducible exact Calls.quiet_of_same (G2.out _))))
  go_wp2_with fail
  go_ret
  exact ⟨rfl, below_drewN hb _⟩
end Go.Proofs.Ytmieoifagnpbiaa
