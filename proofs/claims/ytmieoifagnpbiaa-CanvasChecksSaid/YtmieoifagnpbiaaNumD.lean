/- CONTRACT of waveletref12.numbers: where the components are compared, the components decide. -/
import Derived.Test.YtmieoifagnpbiaaNumA
import Derived.Test.YtmieoifagnpbiaaCan3
import Derived.Test.YtmieoifagnpbiaaLoad
import Derived.Deep.CutBlock
namespace Go.Proofs.Ytmieoifagnpbiaa
open Go.RowKit
set_option maxHeartbeats 16000000
set_option linter.unusedVariables false
set_option linter.unusedSimpArgs false
set_option maxRecDepth 100000
theorem num_comps (X Y Ox Oy : Int) (A : Option Addr) (n c : Nat) (tx ty lv cw ch pr st od ly : Int) (rct sop eph : Bool) (w : World) (Xn Yn txn tyn : Nat) (hX : X = Xn) (hY : Y = Yn) (htx : tx = txn) (hty : ty = tyn) (hXb : Xn ≤ 64) (hYb : Yn ≤ 64) (ht : 1 ≤ txn ∧ txn ≤ 65536) (hu : 1 ≤ tyn ∧ tyn ≤ 65536) (h0 : ¬ tx ≤ Ox) (h2 : ¬ ty ≤ Oy) (hc : ¬ 16 < byN Xn txn * byN Yn tyn) (g0 : ¬ lv < 0) (g1 : ¬ 5 < lv) (g2 : ¬ cw < 2) (g3 : ¬ 6 < cw) (g4 : ¬ ch < 2) (g5 : ¬ 6 < ch) (g6 : ¬ pr < 1) (g7 : ¬ 15 < pr) (g8 : ¬ st < 0) (g9 : ¬ 63 < st) (g10 : ¬ od < 0) (g11 : ¬ 4 < od) (g12 : ¬ ly < 1) (g13 : ¬ 8 < ly) (hr : rct = true) (F : Nat → CompD) (hn : 3 ≤ n) (hn4 : n ≤ 4) (ha : CompsAt w w.heap.size A n F) (E : Int) (hE : (if alikeB n F then (0 : Int) else 3) = E) : Calls Try.prog 43 #[imgV X Y Ox Oy A n c, parV tx ty lv cw ch pr st od ly rct sop eph] w fun e w' => e = .returned (.int .i64 E) ∧ Below w.heap.size w w' := by
  subst hr
  subst hX hY htx hty
  obtain ⟨W, hW⟩ : ∃ z, byN Xn txn = z := ⟨_, rfl⟩
  obtain ⟨H, hH⟩ : ∃ z, byN Yn tyn = z := ⟨_, rfl⟩
  have G1 := Lib.hid (fun v => by have := ceil12_any (Xn : Int) txn (by omega) (by omega) v; rw [clI_nat _ _ ht.1, hW] at this; exact this)
  have G2 := Lib.hid (fun v => by have := ceil12_any (Yn : Int) tyn (by omega) (by omega) v; rw [clI_nat _ _ hu.1, hH] at this; exact this)
  have hW64 : W ≤ 64 := by have := byN_le (n := Xn) ht.1; omega
  have hH64 : H ≤ 64 := by have := byN_le (n := Yn) hu.1; omega
  have hWH : W * H ≤ 64 * 64 := Nat.mul_le_mul hW64 hH64
  rw [hW, hH] at hc
  obtain ⟨wh, hwh⟩ : ∃ z, W * H = z := ⟨_, rfl⟩
  have k1 : IntKind.i64.wrap ((W : Int) * (H : Int)) = (wh : Int) := by rw [show (W : Int) * (H : Int) = ((W * H : Nat) : Int) from (Int.natCast_mul _ _).symm, hwh]; exact wr (by omega)
  rw [hwh] at hc
  have h1 : ¬ (65536 : Int) < txn := by omega
  have h3 : ¬ (65536 : Int) < tyn := by omega
  have hb := below_alloc (below_alloc (Below.refl w.heap.size w) (.cells #[.int .i64 (Xn : Int), .int .i64 (Yn : Int), .int .i64 Ox, .int .i64 Oy, .slice A n c] 25)) (.cells #[.int .i64 (txn : Int), .int .i64 (tyn : Int), .int .i64 lv, .int .i64 cw, .int .i64 ch, .int .i64 pr, .int .i64 st, .int .i64 od, .int .i64 ly, .bool true, .bool sop, .bool eph] 27)
  clear hW hH hwh hWH ht hu
  unfold imgV parV
  go_enter Try.func43, Try.ntmps43
  go_wp2_with fail
  go_quiet (first | (go_at_call 48; first | (with_reducible exact Calls.quiet_of_same (G1.out _)) | (with_reducible exact Calls.quiet_of_same (G2.out _))))
  obtain ⟨q, hq⟩ : ∃ q, w.heap.size = q := ⟨_, rfl⟩
  generalize hV : World.drewN _ _ = V
  have img : V.heap[q]? = some (.cells #[.int .i64 (Xn : Int), .int .i64 (Yn : Int), .int .i64 Ox, .int .i64 Oy, .slice A n c] 25 (0, 0)) := by rw [← hV, ← hq]; exact (Below.heap_alloc _ _ _ (by simp)).trans (heap_alloc_new w _)
  have par : V.heap[q + 1]? = some (.cells #[.int .i64 (txn : Int), .int .i64 (tyn : Int), .int .i64 lv, .int .i64 cw, .int .i64 ch, .int .i64 pr, .int .i64 st, .int .i64 od, .int .i64 ly, .bool true, .bool sop, .bool eph] 27 (0, 0)) := by rw [← hV, ← hq]; exact heap_alloc_new2 w _ _
  have bV : Below q w V := by rw [← hV, ← hq]; exact below_drewN hb _
  have hs : V.heap.size = q + 2 := by rw [← hV, ← hq]; simp
  rw [hq] at hb ⊢
  clear hV hb k1 h0 h1 h2 h3
  obtain ⟨b, off, rfl, hlb, hk⟩ := ha (by omega)
  rw [hq] at hlb
  have mv : ∀ (j : Nat) (v : Value), w.cell? ⟨b, j, none⟩ = some v → V.cell? ⟨b, j, none⟩ = some v := fun j v h => (bV.cell (p := ⟨b, j, none⟩) hlb).trans h
  have HK := Lib.hid (fun k hkn => by
    obtain ⟨a1, a2, a3, a4, a5⟩ := hk k hkn
    exact (show _ ∧ _ ∧ _ ∧ _ ∧ _ from ⟨mv _ _ a1, mv _ _ a2, mv _ _ a3, mv _ _ a4, mv _ _ a5⟩))
  clear hk mv ha
  obtain ⟨z1, z2, z3, z4, z5⟩ := HK.out 0 (by omega)
  rw [Nat.zero_mul, Nat.add_zero] at z1 z2 z3 z4 z5
  have i_4 : V.cell? ⟨q, 4, none⟩ = some (.slice (some ⟨b, off, none⟩) n c) := cell_of_row _ _ 4 _ _ (0, 0) img
  have p_2 : V.cell? ⟨q + 1, 2, none⟩ = some (.int .i64 lv) := cell_of_row _ _ 2 _ _ (0, 0) par
  have p_3 : V.cell? ⟨q + 1, 3, none⟩ = some (.int .i64 cw) := cell_of_row _ _ 3 _ _ (0, 0) par
  have p_4 : V.cell? ⟨q + 1, 4, none⟩ = some (.int .i64 ch) := cell_of_row _ _ 4 _ _ (0, 0) par
  have p_5 : V.cell? ⟨q + 1, 5, none⟩ = some (.int .i64 pr) := cell_of_row _ _ 5 _ _ (0, 0) par
  have p_6 : V.cell? ⟨q + 1, 6, none⟩ = some (.int .i64 st) := cell_of_row _ _ 6 _ _ (0, 0) par
  have p_7 : V.cell? ⟨q + 1, 7, none⟩ = some (.int .i64 od) := cell_of_row _ _ 7 _ _ (0, 0) par
  have p_8 : V.cell? ⟨q + 1, 8, none⟩ = some (.int .i64 ly) := cell_of_row _ _ 8 _ _ (0, 0) par
  have p_9 : V.cell? ⟨q + 1, 9, none⟩ = some (.bool true) := cell_of_row _ _ 9 _ _ (0, 0) par
  have n3 : ¬ n < 3 := by omega
  have n0 : ¬ n = 0 := by omega
  have HE := Lib.hid hE
  clear par hE
  go_upto_region 12 with fail
  clear hc g0 g1 g2 g3 g4 g5 g6 g7 g8 g9 g10 g11 g12 g13 p_2 p_3 p_4 p_5 p_6 p_7 p_8 p_9 z1 z2 z3 z4 z5 i_4
  obtain ⟨ga, hga⟩ : ∃ g, q + 2 = g := ⟨_, rfl⟩
  have hvg : V.heap.size = ga := by rw [hs, hga]
  generalize hV1 : World.alloc V _ = V1
  have ra : V1.heap[ga]? = some (.cells #[.int .i64 (F 0).dp, .bool (F 0).sg, .int .i64 (F 0).dx, .int .i64 (F 0).dy, .slice (F 0).A (F 0).n (F 0).c] 34 (0, 0)) := by rw [← hV1, ← hvg]; exact heap_alloc_new V _
  have img1 : V1.heap[q]? = V.heap[q]? := by rw [← hV1]; exact Below.heap_alloc V _ q (by omega)
  replace img1 := img1.trans img
  have b1 : Below ga V V1 := by rw [← hV1, ← hvg]; exact below_alloc (Below.refl _ _) _
  have s1 : V1.heap.size = ga + 1 := by rw [← hV1, World.size_alloc, hvg]
  have hgq : q + 1 < ga := by omega
  rw [hga]
  clear hV1 hga img hs hvg
  obtain ⟨dp0, hdp0⟩ : ∃ v, (F 0).dp = v := ⟨_, rfl⟩
  obtain ⟨sg0, hsg0⟩ : ∃ v, (F 0).sg = v := ⟨_, rfl⟩
  obtain ⟨dx0, hdx0⟩ : ∃ v, (F 0).dx = v := ⟨_, rfl⟩
  obtain ⟨dy0, hdy0⟩ : ∃ v, (F 0).dy = v := ⟨_, rfl⟩
  rw [hdp0, hsg0, hdx0, hdy0] at ra ⊢
  have D1 := Lib.hid hdp0
  have D2 := Lib.hid hsg0
  have D3 := Lib.hid hdx0
  have D4 := Lib.hid hdy0
  clear hdp0 hsg0 hdx0 hdy0
  go_wp2_with fail
  go_loopw [6] (fun i wr => ∃ k : Nat, 1 ≤ k ∧ k ≤ 3 ∧ i = .int .i64 (k : Int) ∧ (2 ≤ k → sameC (F 1) (F 0) = true) ∧ (3 ≤ k → sameC (F 2) (F 0) = true) ∧ Below (ga + 1) V1 wr) (fun i _ => 3 - (intOf i).toNat)
  case atStart => exact ⟨1, by omega, by omega, rfl, fun h => by omega, fun h => by omega, Below.refl _ _⟩
  case round =>
    obtain ⟨k, hk1, hk3, rfl, hs1, hs2, hbel⟩ := hrel
    obtain ⟨wa, hwa⟩ : ∃ wa, wa = wr := ⟨_, rfl⟩
    subst hwa
    have i_4 : wa.cell? ⟨q, 4, none⟩ = some (.slice (some ⟨b, off, none⟩) n c) := (hbel.cell (p := ⟨q, 4, none⟩) (by simp only; omega)).trans (cell_of_row _ _ 4 _ _ (0, 0) img1)
    have a_0 : wa.cell? ⟨ga, 0, none⟩ = some (.int .i64 dp0) := (hbel.cell (p := ⟨ga, 0, none⟩) (by simp only; omega)).trans (cell_of_row _ _ 0 _ _ (0, 0) ra)
    have a_1 : wa.cell? ⟨ga, 1, none⟩ = some (.bool sg0) := (hbel.cell (p := ⟨ga, 1, none⟩) (by simp only; omega)).trans (cell_of_row _ _ 1 _ _ (0, 0) ra)
    have a_2 : wa.cell? ⟨ga, 2, none⟩ = some (.int .i64 dx0) := (hbel.cell (p := ⟨ga, 2, none⟩) (by simp only; omega)).trans (cell_of_row _ _ 2 _ _ (0, 0) ra)
    have a_3 : wa.cell? ⟨ga, 3, none⟩ = some (.int .i64 dy0) := (hbel.cell (p := ⟨ga, 3, none⟩) (by simp only; omega)).trans (cell_of_row _ _ 3 _ _ (0, 0) ra)
    have hbw : Below q w wa := bV.trans ((b1.trans (hbel.mono (by omega))).mono (by omega))
    by_cases hlt : k < 3
    · obtain ⟨y1, y2, y3, y4, y5⟩ := HK.out k (by omega)
      have mv : ∀ (j : Nat) (v : Value), V.cell? ⟨b, j, none⟩ = some v → wa.cell? ⟨b, j, none⟩ = some v := fun j v h => (hbel.cell (p := ⟨b, j, none⟩) (by simp only; omega)).trans ((b1.cell (p := ⟨b, j, none⟩) (by simp only; omega)).trans h)
      replace y1 := mv _ _ y1
      replace y2 := mv _ _ y2
      replace y3 := mv _ _ y3
      replace y4 := mv _ _ y4
      replace y5 := mv _ _ y5
      have hsz : ga + 1 ≤ wa.heap.size := by have := hbel.size; omega
      have gl : ga < wa.heap.size := by omega
      have gne : ¬ ga = wa.heap.size := by omega
      obtain ⟨dpk, hdpk⟩ : ∃ v, (F k).dp = v := ⟨_, rfl⟩
      obtain ⟨sgk, hsgk⟩ : ∃ v, (F k).sg = v := ⟨_, rfl⟩
      obtain ⟨dxk, hdxk⟩ : ∃ v, (F k).dx = v := ⟨_, rfl⟩
      obtain ⟨dyk, hdyk⟩ : ∃ v, (F k).dy = v := ⟨_, rfl⟩
      rw [hdpk] at y1
      rw [hsgk] at y2
      rw [hdxk] at y3
      rw [hdyk] at y4
      have hbad : (dpk ≠ dp0 ∨ sgk ≠ sg0 ∨ dxk ≠ dx0 ∨ dyk ≠ dy0) → E = 3 := fun h => by
        have h := sameC_bad (a := F k) (b := F 0) (by rw [hdpk, hsgk, hdxk, hdyk, D1.out, D2.out, D3.out, D4.out]; exact h)
        rw [← HE.out]
        have : k = 1 ∨ k = 2 := by omega
        have hal : alikeB n F = false := by
          unfold alikeB
          rcases this with rfl | rfl
          · rw [h]; simp
          · rw [h]; simp
        rw [hal]; rfl
      have hgood : dpk = dp0 → sgk = sg0 → dxk = dx0 → dyk = dy0 → (2 ≤ k + 1 → sameC (F 1) (F 0) = true) ∧ (3 ≤ k + 1 → sameC (F 2) (F 0) = true) := fun e1 e2 e3 e4 => by
        have h := sameC_good (a := F k) (b := F 0) (by rw [hdpk, D1.out]; exact e1) (by rw [hsgk, D2.out]; exact e2) (by rw [hdxk, D3.out]; exact e3) (by rw [hdyk, D4.out]; exact e4)
        have : k = 1 ∨ k = 2 := by omega
        rcases this with rfl | rfl
        · exact ⟨fun _ => h, fun h => by omega⟩
        · exact ⟨fun _ => hs1 (by omega), fun _ => h⟩
      have HBAD := Lib.hid hbad
      have HGOOD := Lib.hid hgood
      have k7 : IntKind.i64.wrap ((k : Int) + 1) = ((k + 1 : Nat) : Int) := by rw [show (k : Int) + 1 = ((k + 1 : Nat) : Int) by omega]; exact wr (by omega)
      have kn : k < n := by omega
      have bz := below_alloc (Below.refl wa.heap.size wa) (.cells #[.int .i64 dpk, .bool sgk, .int .i64 dxk, .int .i64 dyk, .slice (F k).A (F k).n (F k).c] 34)
      have bz1 := hbel.trans (bz.mono hsz)
      have bzw := hbw.trans (bz.mono (by omega))
      clear hbad hgood mv hdpk hsgk hdxk hdyk hs1 hs2 bz
      by_cases e1 : dp0 = dpk
      · by_cases e2 : sg0 = sgk
        · by_cases e3 : dx0 = dxk
          · by_cases e4 : dy0 = dyk
            · have HG := Lib.hid (HGOOD.out e1.symm e2.symm e3.symm e4.symm)
              subst e1 e2 e3 e4
              go_wp2_with fail
              go_roundw
              case rel => exact ⟨k + 1, by omega, by omega, by go_num, HG.out.1, HG.out.2, bz1⟩
              case measure => simp [intOf]; omega
            · obtain rfl := HBAD.out (.inr (.inr (.inr fun h => e4 h.symm)))
              subst e1 e2 e3
              go_wp2_with fail
              go_ret
              exact ⟨rfl, by first | exact bzw | (rw [hq]; exact bzw)⟩
          · obtain rfl := HBAD.out (.inr (.inr (.inl fun h => e3 h.symm)))
            subst e1 e2
            go_wp2_with fail
            go_ret
            exact ⟨rfl, by first | exact bzw | (rw [hq]; exact bzw)⟩
        · obtain rfl := HBAD.out (.inr (.inl fun h => e2 h.symm))
          subst e1
          go_wp2_with fail
          go_ret
          exact ⟨rfl, by first | exact bzw | (rw [hq]; exact bzw)⟩
      · obtain rfl := HBAD.out (.inl fun h => e1 h.symm)
        go_wp2_with fail
        go_ret
        exact ⟨rfl, by first | exact bzw | (rw [hq]; exact bzw)⟩
    · obtain rfl : k = 3 := by omega
      have hE0 : E = 0 := by
        rw [← HE.out]
        have : alikeB n F = true := by unfold alikeB; rw [hs1 (by omega), hs2 (by omega)]; simp; omega
        rw [this]; rfl
      subst hE0
      clear HK hs1 hs2
      go_wp2_with fail
      go_ret
      exact ⟨rfl, by first | exact hbw | (rw [hq]; exact hbw)⟩
end Go.Proofs.Ytmieoifagnpbiaa
