/- CONTRACT of dwt.Split: the walk. -/
import Derived.Test.YtmcdhdofgaoadaaDSplit
import Derived.Deep.RegionHeld3
namespace Go.Proofs.Ytmcdhdofgaoadaa
open Go.RowKit
set_option maxHeartbeats 16000000
set_option linter.unusedVariables false
set_option linter.unusedSimpArgs false

theorem OwnI.away {w : World} {B T : Nat} {A : Option Addr} {n c : Nat} {f : Nat → Int} (h : OwnI w B T (.slice A n c) n f) : ∀ ad, A = some ad → B ≤ ad.block := by
  obtain ⟨_, _, e, _, _, _, hA⟩ := h.form
  injection e with e _ _
  subst e
  exact hA

set_option maxRecDepth 100000 in
theorem dsplit_any : ∀ (l : Nat), l ≤ 5 → ∀ (x y W H N : Nat), H * W = N → x ≤ 1048576 → y ≤ 1048576 → W ≤ 4096 → H ≤ 4096 → ∀ (A : Option Addr) (c : Nat) (f : Nat → Int) (M : Int) (w : World), IntsAt w w.heap.size A N f → Within N M f → 0 ≤ M → (M + 1) * 16 ^ l ≤ 4503599627370496 →
    Calls Try.prog 15 #[rectV x y W H, .int .i64 l, .slice A N c] w fun e w' => ∃ v, e = .returned v ∧ RowsAt w' w.heap.size v (bandsF l x y W H f) ∧ Below w.heap.size w w' := by
  intro l
  induction l with
  | zero =>
    intro _ x y W H N hN hx hy hW hH A c f M w ha hM hM0 hM1
    have hN2 : N ≤ 16777216 := by rw [← hN]; exact Nat.mul_le_mul hH hW
    have FI := Lib.hid (fits_any x y W H 0 (by omega) (by omega) hW hH (by omega))
    have SI := Lib.hid (sides_any x y W H (by omega) (by omega) (by omega) (by omega))
    have sN : IntKind.i64.wrap ((W : Int) * H) = (N : Int) := by
      rw [show (W : Int) * H = (N : Int) by rw [← hN, Nat.mul_comm]; simp]
      exact IntWalk.i64_in _ (by omega)
    have hmk := fun u => run_make_row' (P := Try.prog) 24 3 (.int .i64 0) 8 Try.underlying24 int_info rfl .i64 .i64 N (by omega) (by omega) u
    have HN := Lib.hid hN
    clear hN
    have hbf : bandsF 0 x y W H f = [(N, f)] := by unfold bandsF; rw [HN.out]
    have HBF := Lib.hid hbf
    clear hbf
    unfold rectV at FI SI ⊢
    simp only [Int.ofNat_zero] at FI ⊢
    go_enter Try.func15, Try.ntmps15
    go_wp2_with fail
    generalize hwa : World.alloc w _ = wa
    have c0 : wa.cell? ⟨w.heap.size, 0, none⟩ = some (.int .i64 x) := by rw [← hwa]; simp
    have c1 : wa.cell? ⟨w.heap.size, 1, none⟩ = some (.int .i64 y) := by rw [← hwa]; simp
    have c2 : wa.cell? ⟨w.heap.size, 2, none⟩ = some (.int .i64 ((x : Int) + W)) := by rw [← hwa]; simp
    have c3 : wa.cell? ⟨w.heap.size, 3, none⟩ = some (.int .i64 ((y : Int) + H)) := by rw [← hwa]; simp
    have hba : Below w.heap.size w wa := by rw [← hwa]; exact below_alloc (Below.refl _ _) _
    have hsa : w.heap.size < wa.heap.size := by rw [← hwa]; simp
    clear hwa
    refine (FI.out wa).mono ?_
    rintro e w2 ⟨rfl, hb2⟩
    replace c0 := (hb2.cell (p := ⟨w.heap.size, 0, none⟩) hsa).trans c0
    replace c1 := (hb2.cell (p := ⟨w.heap.size, 1, none⟩) hsa).trans c1
    replace c2 := (hb2.cell (p := ⟨w.heap.size, 2, none⟩) hsa).trans c2
    replace c3 := (hb2.cell (p := ⟨w.heap.size, 3, none⟩) hsa).trans c3
    go_wp2_with fail
    refine (SI.out w2).mono ?_
    rintro e w3 ⟨rfl, hb3⟩
    have hB3 := hba.trans ((hb2.mono (Nat.le_of_lt hsa)).trans (hb3.mono (Nat.le_trans (Nat.le_of_lt hsa) hb2.size)))
    clear c0 c1 c2 c3 hb2 hb3 hba FI SI
    have q0 := PInt.made w3 N
    have i0 := (ha.below hB3).alloc hB3.size (.cells (madeCells #[.int .i64 0] N) 3)
    have b0 : Below w3.heap.size w3 (w3.alloc (.cells (madeCells #[.int .i64 0] N) 3)) := below_alloc (Below.refl _ _) _
    go_wp2_with (first
      | (refine wpList_copyI rfl _ _ 24 rfl Try.underlying24 (by kernel_rfl) _ A N N N c rfl rfl w3.heap.size N 0 N _ f q0 (Nat.min_self N).symm (fun _ => rfl) _ i0 (by omega) w3.heap.size w3 b0 (Nat.le_refl _) ?_; intro w4 p4 b4))
    have p5 := p4.congr (h := f) (fun k hk => by unfold overF; rw [if_pos ⟨by omega, by omega⟩, Nat.sub_zero])
    have i5 := p5.ints p5.lt
    have hB4 := hB3.trans (b4.mono hB3.size)
    go_ret
    refine ⟨_, rfl, ?_, below_alloc hB4 _⟩
    rw [HBF.out]
    exact RowsAt.lit w4 w.heap.size _ N N f hB4.size (Nat.le_refl _) i5
  | succ l ih =>
    intro hl x y W H N hN hx hy hW hH A c f M w ha hM hM0 hM1
    have hN2 : N ≤ 16777216 := by rw [← hN]; exact Nat.mul_le_mul hH hW
    have hM2 : M + 1 ≤ 281474976710656 := by
      have h16 : (16 : Int) ^ (l + 1) = 16 * 16 ^ l := by rw [Int.pow_succ, Int.mul_comm]
      have hp : (1 : Int) ≤ 16 ^ l := Int.pow_pos (by omega)
      have h1 : (M + 1) * 1 ≤ (M + 1) * 16 ^ l := Int.mul_le_mul_of_nonneg_left hp (by omega)
      rw [h16, ← Int.mul_assoc, Int.mul_comm (M + 1) 16, Int.mul_assoc] at hM1
      omega
    have hM3 : (16 * M + 15 + 1) * 16 ^ l ≤ 4503599627370496 := by
      rw [show 16 * M + 15 + 1 = (M + 1) * 16 by omega, Int.mul_assoc, ← Int.pow_succ']
      exact hM1
    have FI := Lib.hid (fits_any x y W H (l + 1) (by omega) (by omega) hW hH hl)
    have SI := Lib.hid (sides_any x y W H (by omega) (by omega) (by omega) (by omega))
    have PA := Lib.hid (parts_any x y W H (by omega) (by omega) (by omega) (by omega))
    have HA := Lib.hid (halved_any x y W H (by omega) (by omega) (by omega) (by omega))
    have sN : IntKind.i64.wrap ((W : Int) * H) = (N : Int) := by
      rw [show (W : Int) * H = (N : Int) by rw [← hN, Nat.mul_comm]; simp]
      exact IntWalk.i64_in _ (by omega)
    have hmk := fun u => run_make_row' (P := Try.prog) 24 3 (.int .i64 0) 8 Try.underlying24 int_info rfl .i64 .i64 N (by omega) (by omega) u
    have HN := Lib.hid hN
    have HM3 := Lib.hid hM3
    have IH := Lib.hid (ih (by omega))
    have hl1 : ¬ ((l : Int) + 1 < 1) := by omega
    clear hN hM3 hM1 ih
    have hV : rectV x y W H = .agg #[.int .i64 x, .int .i64 y, .int .i64 ((x : Int) + W), .int .i64 ((y : Int) + H)] := rfl
    rw [hV] at FI SI PA HA ⊢
    clear hV
    simp only [Int.natCast_add, Int.cast_ofNat_Int] at FI ⊢
    go_enter Try.func15, Try.ntmps15
    go_wp2_with fail
    generalize hwa : World.alloc w _ = wa
    have c0 : wa.cell? ⟨w.heap.size, 0, none⟩ = some (.int .i64 x) := by rw [← hwa]; simp
    have c1 : wa.cell? ⟨w.heap.size, 1, none⟩ = some (.int .i64 y) := by rw [← hwa]; simp
    have c2 : wa.cell? ⟨w.heap.size, 2, none⟩ = some (.int .i64 ((x : Int) + W)) := by rw [← hwa]; simp
    have c3 : wa.cell? ⟨w.heap.size, 3, none⟩ = some (.int .i64 ((y : Int) + H)) := by rw [← hwa]; simp
    have hba : Below w.heap.size w wa := by rw [← hwa]; exact below_alloc (Below.refl _ _) _
    have hsa : w.heap.size < wa.heap.size := by rw [← hwa]; simp
    clear hwa
    refine (FI.out wa).mono ?_
    rintro e w2 ⟨rfl, hb2⟩
    replace c0 := (hb2.cell (p := ⟨w.heap.size, 0, none⟩) hsa).trans c0
    replace c1 := (hb2.cell (p := ⟨w.heap.size, 1, none⟩) hsa).trans c1
    replace c2 := (hb2.cell (p := ⟨w.heap.size, 2, none⟩) hsa).trans c2
    replace c3 := (hb2.cell (p := ⟨w.heap.size, 3, none⟩) hsa).trans c3
    go_wp2_with fail
    refine (SI.out w2).mono ?_
    rintro e w3 ⟨rfl, hb3⟩
    have hB3 := hba.trans ((hb2.mono (Nat.le_of_lt hsa)).trans (hb3.mono (Nat.le_trans (Nat.le_of_lt hsa) hb2.size)))
    have hs3 : w.heap.size < w3.heap.size := Nat.lt_of_lt_of_le hsa (Nat.le_trans hb2.size hb3.size)
    replace c0 := (hb3.cell (p := ⟨w.heap.size, 0, none⟩) (Nat.lt_of_lt_of_le hsa hb2.size)).trans c0
    replace c1 := (hb3.cell (p := ⟨w.heap.size, 1, none⟩) (Nat.lt_of_lt_of_le hsa hb2.size)).trans c1
    replace c2 := (hb3.cell (p := ⟨w.heap.size, 2, none⟩) (Nat.lt_of_lt_of_le hsa hb2.size)).trans c2
    replace c3 := (hb3.cell (p := ⟨w.heap.size, 3, none⟩) (Nat.lt_of_lt_of_le hsa hb2.size)).trans c3
    clear hb2 hb3 hba FI SI hsa
    have q0 := PInt.made w3 N
    have i0 := (ha.below hB3).alloc hB3.size (.cells (madeCells #[.int .i64 0] N) 3)
    have b0 : Below w3.heap.size w3 (w3.alloc (.cells (madeCells #[.int .i64 0] N) 3)) := below_alloc (Below.refl _ _) _
    go_wp2_with (first
      | (refine wpList_copyI rfl _ _ 24 rfl Try.underlying24 (by kernel_rfl) _ A N N N c rfl rfl w3.heap.size N 0 N _ f q0 (Nat.min_self N).symm (fun _ => rfl) _ i0 (by omega) w3.heap.size w3 b0 (Nat.le_refl _) ?_; intro w4 p4 b4))
    clear q0 i0 b0 hmk
    replace p4 := p4.congr (h := f) (fun k hk => by unfold overF; rw [if_pos ⟨by omega, by omega⟩, Nat.sub_zero])
    replace c0 := (b4.cell (p := ⟨w.heap.size, 0, none⟩) hs3).trans c0
    replace c1 := (b4.cell (p := ⟨w.heap.size, 1, none⟩) hs3).trans c1
    replace c2 := (b4.cell (p := ⟨w.heap.size, 2, none⟩) hs3).trans c2
    replace c3 := (b4.cell (p := ⟨w.heap.size, 3, none⟩) hs3).trans c3
    have F1 : ∀ (args : Array Value) (w : World), (callFunc 24 args).run Try.prog w = .ok (.enter 24 args) w := fun _ _ => by kernel_rfl
    refine (columns_any 24 #[.pointer (some ⟨w.heap.size, 0, none⟩)] F1 w3.heap.size N W H HN.out (by omega) (by omega) (by omega) (splitF H (y % 2)) M f w3.heap.size w4 w4 p4 (Below.refl _ _) (Nat.le_refl _) hM (fun A c h w1 hb1 hi hw => Lib.hid (dsplit1_any w.heap.size y (by omega) A H c h w1 ((hb1.cell (p := ⟨w.heap.size, 1, none⟩) hs3).trans c1) hi (by omega) (fun k hk => by have := hw k hk; omega)))).mono ?_
    rintro e w5 ⟨rfl, p5, b5⟩
    have m5 := colF_within (o := y % 2) HN.out (by omega) hM
    replace c0 := (b5.cell (p := ⟨w.heap.size, 0, none⟩) hs3).trans c0
    replace c1 := (b5.cell (p := ⟨w.heap.size, 1, none⟩) hs3).trans c1
    replace c2 := (b5.cell (p := ⟨w.heap.size, 2, none⟩) hs3).trans c2
    replace c3 := (b5.cell (p := ⟨w.heap.size, 3, none⟩) hs3).trans c3
    go_wp2_with fail
    have F2 : ∀ (args : Array Value) (w : World), (callFunc 27 args).run Try.prog w = .ok (.enter 27 args) w := fun _ _ => by kernel_rfl
    refine (rows_any 27 #[.pointer (some ⟨w.heap.size, 0, none⟩)] F2 w3.heap.size N W H HN.out (by omega) (by omega) (by omega) (splitF W (x % 2)) (4 * M + 3) _ w3.heap.size w5 w5 p5 (Below.refl _ _) (Nat.le_refl _) m5 (fun A c h w1 hb1 hi hw => Lib.hid (dsplit2_any w.heap.size x (by omega) A W c h w1 ((hb1.cell (p := ⟨w.heap.size, 0, none⟩) hs3).trans c0) hi (by omega) (fun k hk => by have := hw k hk; omega)))).mono ?_
    rintro e w6 ⟨rfl, p6, b6⟩
    replace c0 := (b6.cell (p := ⟨w.heap.size, 0, none⟩) hs3).trans c0
    replace c1 := (b6.cell (p := ⟨w.heap.size, 1, none⟩) hs3).trans c1
    replace c2 := (b6.cell (p := ⟨w.heap.size, 2, none⟩) hs3).trans c2
    replace c3 := (b6.cell (p := ⟨w.heap.size, 3, none⟩) hs3).trans c3
    replace p6 : PInt w6 w3.heap.size N (planeF x y W H f) := p6
    have m6 := planeF_within (x := x) (y := y) HN.out hM
    have hB6 : Below w.heap.size w w6 := hB3.trans (((b4.trans b5).trans b6).mono (Nat.le_of_lt hs3))
    have hs6 : w.heap.size < w6.heap.size := Nat.lt_of_lt_of_le hs3 (Nat.le_trans b4.size (Nat.le_trans b5.size b6.size))
    have hg6 := p6.lt
    clear F1 F2 m5 p5 p4 b4 b5 b6 hB3
    have hlw : low W (x % 2) ≤ W := low_le (by omega)
    have hlh : low H (y % 2) ≤ H := low_le (by omega)
    have hbf : bandsF (l + 1) x y W H f = bandsF l (hf x) (hf y) (low W (x % 2)) (low H (y % 2)) (cutF W 0 0 (low W (x % 2)) (planeF x y W H f)) ++ highs W H (low W (x % 2)) (low H (y % 2)) (planeF x y W H f) := rfl
    have HBF := Lib.hid hbf
    clear hbf
    generalize low W (x % 2) = lw at *
    generalize low H (y % 2) = lh at *
    generalize hG : planeF x y W H f = G at *
    go_wp2_with fail
    refine (PA.out w6).mono ?_
    rintro e w7 ⟨rfl, b7⟩
    unfold partsV
    replace c0 := (b7.cell (p := ⟨w.heap.size, 0, none⟩) hs6).trans c0
    replace c1 := (b7.cell (p := ⟨w.heap.size, 1, none⟩) hs6).trans c1
    replace c2 := (b7.cell (p := ⟨w.heap.size, 2, none⟩) hs6).trans c2
    replace c3 := (b7.cell (p := ⟨w.heap.size, 3, none⟩) hs6).trans c3
    have p7 := p6.below b7 hg6
    have hB7 := hB6.trans (b7.mono (Nat.le_of_lt hs6))
    have hs7 := Nat.lt_of_lt_of_le hs6 b7.size
    clear b7 p6 hB6
    go_wp2_with fail
    generalize hw8 : World.alloc w7 _ = w8
    have d0 : w8.cell? ⟨w7.heap.size, 0, none⟩ = some (.int .i64 0) := by rw [← hw8]; simp
    have d1 : w8.cell? ⟨w7.heap.size, 1, none⟩ = some (.int .i64 0) := by rw [← hw8]; simp
    have d2 : w8.cell? ⟨w7.heap.size, 2, none⟩ = some (.int .i64 (lw : Int)) := by rw [← hw8]; simp
    have d3 : w8.cell? ⟨w7.heap.size, 3, none⟩ = some (.int .i64 (lh : Int)) := by rw [← hw8]; simp
    have d4 : w8.cell? ⟨w7.heap.size, 4, none⟩ = some (.int .i64 (lw : Int)) := by rw [← hw8]; simp
    have d5 : w8.cell? ⟨w7.heap.size, 5, none⟩ = some (.int .i64 0) := by rw [← hw8]; simp
    have d6 : w8.cell? ⟨w7.heap.size, 6, none⟩ = some (.int .i64 (W : Int)) := by rw [← hw8]; simp
    have d7 : w8.cell? ⟨w7.heap.size, 7, none⟩ = some (.int .i64 (lh : Int)) := by rw [← hw8]; simp
    have d8 : w8.cell? ⟨w7.heap.size, 8, none⟩ = some (.int .i64 0) := by rw [← hw8]; simp
    have d9 : w8.cell? ⟨w7.heap.size, 9, none⟩ = some (.int .i64 (lh : Int)) := by rw [← hw8]; simp
    have d10 : w8.cell? ⟨w7.heap.size, 10, none⟩ = some (.int .i64 (lw : Int)) := by rw [← hw8]; simp
    have d11 : w8.cell? ⟨w7.heap.size, 11, none⟩ = some (.int .i64 (H : Int)) := by rw [← hw8]; simp
    have d12 : w8.cell? ⟨w7.heap.size, 12, none⟩ = some (.int .i64 (lw : Int)) := by rw [← hw8]; simp
    have d13 : w8.cell? ⟨w7.heap.size, 13, none⟩ = some (.int .i64 (lh : Int)) := by rw [← hw8]; simp
    have d14 : w8.cell? ⟨w7.heap.size, 14, none⟩ = some (.int .i64 (W : Int)) := by rw [← hw8]; simp
    have d15 : w8.cell? ⟨w7.heap.size, 15, none⟩ = some (.int .i64 (H : Int)) := by rw [← hw8]; simp
    have b8 : Below w7.heap.size w7 w8 := by rw [← hw8]; exact below_alloc (Below.refl _ _) _
    have hs8 : w7.heap.size < w8.heap.size := by rw [← hw8]; simp
    clear hw8
    replace c0 := (b8.cell (p := ⟨w.heap.size, 0, none⟩) hs7).trans c0
    replace c1 := (b8.cell (p := ⟨w.heap.size, 1, none⟩) hs7).trans c1
    replace c2 := (b8.cell (p := ⟨w.heap.size, 2, none⟩) hs7).trans c2
    replace c3 := (b8.cell (p := ⟨w.heap.size, 3, none⟩) hs7).trans c3
    have p8 := p7.below b8 p7.lt
    have hB8 := hB7.trans (b8.mono (Nat.le_of_lt hs7))
    have hsw8 := Nat.lt_trans hs7 hs8
    clear p7 b8 hB7
    obtain ⟨w9, hw9⟩ : ∃ w9, w9 = w8.drew := ⟨_, rfl⟩
    have S0 : w8.cell? ⟨w.heap.size, 0, none⟩ = some (.int .i64 x) ∧ w8.cell? ⟨w.heap.size, 1, none⟩ = some (.int .i64 y) ∧ w8.cell? ⟨w.heap.size, 2, none⟩ = some (.int .i64 ((x : Int) + W)) ∧ w8.cell? ⟨w.heap.size, 3, none⟩ = some (.int .i64 ((y : Int) + H)) ∧ w8.cell? ⟨w7.heap.size, 0, none⟩ = some (.int .i64 0) ∧ w8.cell? ⟨w7.heap.size, 1, none⟩ = some (.int .i64 0) ∧ w8.cell? ⟨w7.heap.size, 2, none⟩ = some (.int .i64 (lw : Int)) ∧ w8.cell? ⟨w7.heap.size, 3, none⟩ = some (.int .i64 (lh : Int)) := ⟨c0, c1, c2, c3, d0, d1, d2, d3⟩
    have hS0 : w9.cell? ⟨w.heap.size, 0, none⟩ = some (.int .i64 x) ∧ w9.cell? ⟨w.heap.size, 1, none⟩ = some (.int .i64 y) ∧ w9.cell? ⟨w.heap.size, 2, none⟩ = some (.int .i64 ((x : Int) + W)) ∧ w9.cell? ⟨w.heap.size, 3, none⟩ = some (.int .i64 ((y : Int) + H)) ∧ w9.cell? ⟨w7.heap.size, 0, none⟩ = some (.int .i64 0) ∧ w9.cell? ⟨w7.heap.size, 1, none⟩ = some (.int .i64 0) ∧ w9.cell? ⟨w7.heap.size, 2, none⟩ = some (.int .i64 (lw : Int)) ∧ w9.cell? ⟨w7.heap.size, 3, none⟩ = some (.int .i64 (lh : Int)) := by rw [hw9]; exact S0
    have p9 : PInt w9 w3.heap.size N G := by rw [hw9]; exact p8
    have hs9 : w9.heap.size = w8.heap.size := by rw [hw9]; rfl
    have u1 : w.heap.size < w9.heap.size := by rw [hs9]; exact hsw8
    have u2 : w7.heap.size < w9.heap.size := by rw [hs9]; exact hs8
    obtain ⟨k0, k1, k2, k3, k4, k5, k6, k7⟩ := hS0
    have HW9 := Lib.hid hw9
    clear hw9
    have CU : ∀ (v1 : World), PInt v1 w3.heap.size N G → Calls Try.prog 30 #[.slice (some ⟨w3.heap.size, 0, none⟩) N N, .int .i64 W, .agg #[.int .i64 0, .int .i64 0, .int .i64 lw, .int .i64 lh]] v1 fun e w' => ∃ A' c', e = .returned (.slice A' (lh * lw) c') ∧ lh * lw ≤ c' ∧ OwnI w' v1.heap.size 3 (.slice A' (lh * lw) c') (lh * lw) (cutF W 0 0 lw G) ∧ Below v1.heap.size v1 w' := fun v1 hp =>
      cutV_any w3.heap.size N W H G 0 0 lw lh 0 0 lw lh rfl rfl (by simp) (by simp) v1 HN.out hp (by omega) (by omega) (by omega) (by omega) (by omega)
    have SP : ∀ (v2 : World) (A1 : Option Addr) (cc1 : Nat), IntsAt v2 v2.heap.size A1 (lh * lw) (cutF W 0 0 lw G) → Calls Try.prog 15 #[rectV (hf x) (hf y) lw lh, .int .i64 l, .slice A1 (lh * lw) cc1] v2 fun e w' => ∃ v, e = .returned v ∧ RowsAt w' v2.heap.size v (bandsF l (hf x) (hf y) lw lh (cutF W 0 0 lw G)) ∧ Below v2.heap.size v2 w' := fun v2 A1 cc1 hi =>
      IH.out (hf x) (hf y) lw lh (lh * lw) rfl (by unfold hf; omega) (by unfold hf; omega) (by omega) (by omega) A1 cc1 _ (16 * M + 15) v2 hi (cut_within HN.out (by omega) (by omega) m6) (by omega) HM3.out
    have CU := Lib.hid CU
    have SP := Lib.hid SP
    clear IH
    have sl1 : IntKind.i64.wrap (l : Int) = l := IntWalk.i64_in _ (by omega)
    go_region_held3 (fun w' => w'.cell? ⟨w.heap.size, 0, none⟩ = some (.int .i64 x) ∧ w'.cell? ⟨w.heap.size, 1, none⟩ = some (.int .i64 y) ∧ w'.cell? ⟨w.heap.size, 2, none⟩ = some (.int .i64 ((x : Int) + W)) ∧ w'.cell? ⟨w.heap.size, 3, none⟩ = some (.int .i64 ((y : Int) + H)) ∧ w'.cell? ⟨w7.heap.size, 0, none⟩ = some (.int .i64 0) ∧ w'.cell? ⟨w7.heap.size, 1, none⟩ = some (.int .i64 0) ∧ w'.cell? ⟨w7.heap.size, 2, none⟩ = some (.int .i64 (lw : Int)) ∧ w'.cell? ⟨w7.heap.size, 3, none⟩ = some (.int .i64 (lh : Int)))
      (first | exact S3 | exact S2 | exact S1 | exact S0)
      (first
        | (go_simp; first
        | (go_at_call 29; refine (HA.out _).mono ?_; rintro e v1 ⟨rfl, b1⟩; rw [← HW9.out] at b1; have S1 : v1.cell? ⟨w.heap.size, 0, none⟩ = some (.int .i64 x) ∧ v1.cell? ⟨w.heap.size, 1, none⟩ = some (.int .i64 y) ∧ v1.cell? ⟨w.heap.size, 2, none⟩ = some (.int .i64 ((x : Int) + W)) ∧ v1.cell? ⟨w.heap.size, 3, none⟩ = some (.int .i64 ((y : Int) + H)) ∧ v1.cell? ⟨w7.heap.size, 0, none⟩ = some (.int .i64 0) ∧ v1.cell? ⟨w7.heap.size, 1, none⟩ = some (.int .i64 0) ∧ v1.cell? ⟨w7.heap.size, 2, none⟩ = some (.int .i64 (lw : Int)) ∧ v1.cell? ⟨w7.heap.size, 3, none⟩ = some (.int .i64 (lh : Int)) := ⟨(b1.cell (p := ⟨w.heap.size, 0, none⟩) u1).trans k0, (b1.cell (p := ⟨w.heap.size, 1, none⟩) u1).trans k1, (b1.cell (p := ⟨w.heap.size, 2, none⟩) u1).trans k2, (b1.cell (p := ⟨w.heap.size, 3, none⟩) u1).trans k3, (b1.cell (p := ⟨w7.heap.size, 0, none⟩) u2).trans k4, (b1.cell (p := ⟨w7.heap.size, 1, none⟩) u2).trans k5, (b1.cell (p := ⟨w7.heap.size, 2, none⟩) u2).trans k6, (b1.cell (p := ⟨w7.heap.size, 3, none⟩) u2).trans k7⟩; have t1 := Nat.lt_of_lt_of_le u1 b1.size; have t2 := Nat.lt_of_lt_of_le u2 b1.size; have p10 := p9.below b1 p9.lt; dsimp only)
        | (go_at_call 30; refine (CU.out v1 p10).mono ?_; rintro e v2 ⟨A1, cc1, rfl, hcc1, o1, b2⟩; obtain ⟨j0, j1, j2, j3, j4, j5, j6, j7⟩ := S1; have S2 : v2.cell? ⟨w.heap.size, 0, none⟩ = some (.int .i64 x) ∧ v2.cell? ⟨w.heap.size, 1, none⟩ = some (.int .i64 y) ∧ v2.cell? ⟨w.heap.size, 2, none⟩ = some (.int .i64 ((x : Int) + W)) ∧ v2.cell? ⟨w.heap.size, 3, none⟩ = some (.int .i64 ((y : Int) + H)) ∧ v2.cell? ⟨w7.heap.size, 0, none⟩ = some (.int .i64 0) ∧ v2.cell? ⟨w7.heap.size, 1, none⟩ = some (.int .i64 0) ∧ v2.cell? ⟨w7.heap.size, 2, none⟩ = some (.int .i64 (lw : Int)) ∧ v2.cell? ⟨w7.heap.size, 3, none⟩ = some (.int .i64 (lh : Int)) := ⟨(b2.cell (p := ⟨w.heap.size, 0, none⟩) t1).trans j0, (b2.cell (p := ⟨w.heap.size, 1, none⟩) t1).trans j1, (b2.cell (p := ⟨w.heap.size, 2, none⟩) t1).trans j2, (b2.cell (p := ⟨w.heap.size, 3, none⟩) t1).trans j3, (b2.cell (p := ⟨w7.heap.size, 0, none⟩) t2).trans j4, (b2.cell (p := ⟨w7.heap.size, 1, none⟩) t2).trans j5, (b2.cell (p := ⟨w7.heap.size, 2, none⟩) t2).trans j6, (b2.cell (p := ⟨w7.heap.size, 3, none⟩) t2).trans j7⟩; have t3 := Nat.lt_of_lt_of_le t1 b2.size; have t4 := Nat.lt_of_lt_of_le t2 b2.size; have i11 := o1.ints; have b12 := below_trans b1 b2; dsimp only)
        | (go_at_call 15; refine (SP.out v2 A1 cc1 i11).mono ?_; rintro e v3 ⟨vb, rfl, r3, b3⟩; obtain ⟨i0, i1, i2, i3, i4, i5, i6, i7⟩ := S2; have S3 : v3.cell? ⟨w.heap.size, 0, none⟩ = some (.int .i64 x) ∧ v3.cell? ⟨w.heap.size, 1, none⟩ = some (.int .i64 y) ∧ v3.cell? ⟨w.heap.size, 2, none⟩ = some (.int .i64 ((x : Int) + W)) ∧ v3.cell? ⟨w.heap.size, 3, none⟩ = some (.int .i64 ((y : Int) + H)) ∧ v3.cell? ⟨w7.heap.size, 0, none⟩ = some (.int .i64 0) ∧ v3.cell? ⟨w7.heap.size, 1, none⟩ = some (.int .i64 0) ∧ v3.cell? ⟨w7.heap.size, 2, none⟩ = some (.int .i64 (lw : Int)) ∧ v3.cell? ⟨w7.heap.size, 3, none⟩ = some (.int .i64 (lh : Int)) := ⟨(b3.cell (p := ⟨w.heap.size, 0, none⟩) t3).trans i0, (b3.cell (p := ⟨w.heap.size, 1, none⟩) t3).trans i1, (b3.cell (p := ⟨w.heap.size, 2, none⟩) t3).trans i2, (b3.cell (p := ⟨w.heap.size, 3, none⟩) t3).trans i3, (b3.cell (p := ⟨w7.heap.size, 0, none⟩) t4).trans i4, (b3.cell (p := ⟨w7.heap.size, 1, none⟩) t4).trans i5, (b3.cell (p := ⟨w7.heap.size, 2, none⟩) t4).trans i6, (b3.cell (p := ⟨w7.heap.size, 3, none⟩) t4).trans i7⟩; have b13 := below_trans b12 b3; dsimp only)
        | fail)
        | fail)
    have pl3 := p9.below b13 p9.lt
    have e4 : v3.cell? ⟨w7.heap.size, 4, none⟩ = some (.int .i64 (lw : Int)) := (b13.cell (p := ⟨w7.heap.size, 4, none⟩) u2).trans (by rw [HW9.out]; exact d4)
    have e5 : v3.cell? ⟨w7.heap.size, 5, none⟩ = some (.int .i64 0) := (b13.cell (p := ⟨w7.heap.size, 5, none⟩) u2).trans (by rw [HW9.out]; exact d5)
    have e6 : v3.cell? ⟨w7.heap.size, 6, none⟩ = some (.int .i64 (W : Int)) := (b13.cell (p := ⟨w7.heap.size, 6, none⟩) u2).trans (by rw [HW9.out]; exact d6)
    have e7 : v3.cell? ⟨w7.heap.size, 7, none⟩ = some (.int .i64 (lh : Int)) := (b13.cell (p := ⟨w7.heap.size, 7, none⟩) u2).trans (by rw [HW9.out]; exact d7)
    have e8 : v3.cell? ⟨w7.heap.size, 8, none⟩ = some (.int .i64 0) := (b13.cell (p := ⟨w7.heap.size, 8, none⟩) u2).trans (by rw [HW9.out]; exact d8)
    have e9 : v3.cell? ⟨w7.heap.size, 9, none⟩ = some (.int .i64 (lh : Int)) := (b13.cell (p := ⟨w7.heap.size, 9, none⟩) u2).trans (by rw [HW9.out]; exact d9)
    have e10 : v3.cell? ⟨w7.heap.size, 10, none⟩ = some (.int .i64 (lw : Int)) := (b13.cell (p := ⟨w7.heap.size, 10, none⟩) u2).trans (by rw [HW9.out]; exact d10)
    have e11 : v3.cell? ⟨w7.heap.size, 11, none⟩ = some (.int .i64 (H : Int)) := (b13.cell (p := ⟨w7.heap.size, 11, none⟩) u2).trans (by rw [HW9.out]; exact d11)
    have e12 : v3.cell? ⟨w7.heap.size, 12, none⟩ = some (.int .i64 (lw : Int)) := (b13.cell (p := ⟨w7.heap.size, 12, none⟩) u2).trans (by rw [HW9.out]; exact d12)
    have e13 : v3.cell? ⟨w7.heap.size, 13, none⟩ = some (.int .i64 (lh : Int)) := (b13.cell (p := ⟨w7.heap.size, 13, none⟩) u2).trans (by rw [HW9.out]; exact d13)
    have e14 : v3.cell? ⟨w7.heap.size, 14, none⟩ = some (.int .i64 (W : Int)) := (b13.cell (p := ⟨w7.heap.size, 14, none⟩) u2).trans (by rw [HW9.out]; exact d14)
    have e15 : v3.cell? ⟨w7.heap.size, 15, none⟩ = some (.int .i64 (H : Int)) := (b13.cell (p := ⟨w7.heap.size, 15, none⟩) u2).trans (by rw [HW9.out]; exact d15)
    have hB9 : Below w.heap.size w w9 := by rw [HW9.out]; exact hB8.drew
    have hBv := hB9.trans (b13.mono (Nat.le_of_lt u1))
    have hsv := b12.size
    have hlt7 : w7.heap.size < v2.heap.size := t4
    have hlt3 : w3.heap.size < v2.heap.size := Nat.lt_of_lt_of_le p9.lt hsv
    obtain ⟨LB, hLB⟩ : ∃ LB, LB = bandsF l (hf x) (hf y) lw lh (cutF W 0 0 lw G) := ⟨_, rfl⟩
    rw [← hLB] at r3
    have hLBn : LB.length = 3 * l + 1 := by rw [hLB, bandsF_len]
    have HLB := Lib.hid hLBn
    have HLE := Lib.hid hLB
    clear hLB hLBn S3 i0 i1 i2 i3 i4 i5 i6 i7 j0 j1 j2 j3 j4 j5 j6 j7 k0 k1 k2 k3 k4 k5 k6 k7 d0 d1 d2 d3 d4 d5 d6 d7 d8 d9 d10 d11 d12 d13 d14 d15 c0 c1 c2 c3 S0 CU SP sl1 b12 b13 b1 b2 o1 i11 p10 p9 p8 hB8 hB9 ha hM m6 HA PA sN
    rename_i heldx
    clear heldx
    go_wp2_with fail
    go_loopw [11, 58] (fun out i wr => ∃ k : Nat, k ≤ 3 ∧ i = .int .i64 k ∧ RowsAt wr v2.heap.size out (LB ++ (highs W H lw lh G).take k) ∧ Below v2.heap.size v3 wr) (fun _ i _ => 3 - (intOf i).toNat)
    case atStart => exact ⟨0, by omega, rfl, by simpa using r3, Below.refl _ _⟩
    case round =>
      obtain ⟨k, hk, rfl, r3, hbel⟩ := hrel
      have pl := pl3.below hbel hlt3
      replace e4 := (hbel.cell (p := ⟨w7.heap.size, 4, none⟩) hlt7).trans e4
      replace e5 := (hbel.cell (p := ⟨w7.heap.size, 5, none⟩) hlt7).trans e5
      replace e6 := (hbel.cell (p := ⟨w7.heap.size, 6, none⟩) hlt7).trans e6
      replace e7 := (hbel.cell (p := ⟨w7.heap.size, 7, none⟩) hlt7).trans e7
      replace e8 := (hbel.cell (p := ⟨w7.heap.size, 8, none⟩) hlt7).trans e8
      replace e9 := (hbel.cell (p := ⟨w7.heap.size, 9, none⟩) hlt7).trans e9
      replace e10 := (hbel.cell (p := ⟨w7.heap.size, 10, none⟩) hlt7).trans e10
      replace e11 := (hbel.cell (p := ⟨w7.heap.size, 11, none⟩) hlt7).trans e11
      replace e12 := (hbel.cell (p := ⟨w7.heap.size, 12, none⟩) hlt7).trans e12
      replace e13 := (hbel.cell (p := ⟨w7.heap.size, 13, none⟩) hlt7).trans e13
      replace e14 := (hbel.cell (p := ⟨w7.heap.size, 14, none⟩) hlt7).trans e14
      replace e15 := (hbel.cell (p := ⟨w7.heap.size, 15, none⟩) hlt7).trans e15
      have hsz := Nat.le_trans b3.size hbel.size
      clear pl3
      obtain rfl | rfl | rfl | rfl : k = 0 ∨ k = 1 ∨ k = 2 ∨ k = 3 := by omega
      · skip
        have r4 := (r3.alloc (.cells #[.int .i64 (lw : Int), .int .i64 0, .int .i64 (W : Int), .int .i64 (lh : Int)] 23))
        have pw := pl.alloc (.cells #[.int .i64 (lw : Int), .int .i64 0, .int .i64 (W : Int), .int .i64 (lh : Int)] 23)
        have hbw := hbel.alloc hsz (.cells #[.int .i64 (lw : Int), .int .i64 0, .int .i64 (W : Int), .int .i64 (lh : Int)] 23)
        go_wp2_with fail
        refine (cutV_any w3.heap.size N W H G lw 0 (W - lw) lh _ _ _ _ rfl rfl (by first | simp | omega) (by first | simp | omega) _ HN.out pw (by omega) (by omega) (by omega) (by omega) (by omega)).mono ?_
        rintro e v4 ⟨A2, cc2, rfl, hcc2, o2, b4⟩
        have i4 := o2.ints
        have hA := o2.away
        have hne : ∀ ad, A2 = some ad → u11.ownBlock ≠ some ad.block := fun ad had he => by
          have h5 := hA ad had
          have h6 := (r4.lt _ he).2
          omega
        have r5 := r4.below b4
        have hb4 := hbw.trans (b4.mono (Nat.le_trans hsz (by simp)))
        have hs4 : v2.heap.size ≤ v4.heap.size := Nat.le_trans b3.size hb4.size
        have hI : IntsAt v4 v4.heap.size A2 (lh * (W - lw)) (cutF W lw 0 (W - lw) G) := i4
        clear o2 hA r4 pw hbw i4 hbel r3 pl
        go_wp2_with (first
          | (at_builtin; refine wpList_appR rfl _ _ 30 rfl sl_info Try.underlying30 v2.heap.size v4 u11 _ rfl r5 (below_alloc (Below.refl _ _) _) v4.heap.size rfl A2 _ cc2 _ (by simp) hcc2 hI (fun _ => hne) (by simp only [List.length_append, HLB.out]; simp [highs]; omega) hs4 ?_; intro out2 w5 r6 b6))
        have hb6 := hb4.trans b6
        have r7 : RowsAt w5 v2.heap.size out2 (LB ++ (highs W H lw lh G).take 1) := by
          rw [show LB ++ (highs W H lw lh G).take 1 = (LB ++ (highs W H lw lh G).take 0) ++ [(lh * (W - lw), cutF W lw 0 (W - lw) G)] by simp [highs]]
          exact r6
        clear r6 r5 b6 hb4
        go_wp2_with fail
        go_roundw
        case rel => exact ⟨1, by omega, by go_num, r7, hb6⟩
        case measure => simp [intOf]
      · skip
        have r4 := (r3.alloc (.cells #[.int .i64 0, .int .i64 (lh : Int), .int .i64 (lw : Int), .int .i64 (H : Int)] 23))
        have pw := pl.alloc (.cells #[.int .i64 0, .int .i64 (lh : Int), .int .i64 (lw : Int), .int .i64 (H : Int)] 23)
        have hbw := hbel.alloc hsz (.cells #[.int .i64 0, .int .i64 (lh : Int), .int .i64 (lw : Int), .int .i64 (H : Int)] 23)
        go_wp2_with fail
        refine (cutV_any w3.heap.size N W H G 0 lh lw (H - lh) _ _ _ _ rfl rfl (by first | simp | omega) (by first | simp | omega) _ HN.out pw (by omega) (by omega) (by omega) (by omega) (by omega)).mono ?_
        rintro e v4 ⟨A2, cc2, rfl, hcc2, o2, b4⟩
        have i4 := o2.ints
        have hA := o2.away
        have hne : ∀ ad, A2 = some ad → u11.ownBlock ≠ some ad.block := fun ad had he => by
          have h5 := hA ad had
          have h6 := (r4.lt _ he).2
          omega
        have r5 := r4.below b4
        have hb4 := hbw.trans (b4.mono (Nat.le_trans hsz (by simp)))
        have hs4 : v2.heap.size ≤ v4.heap.size := Nat.le_trans b3.size hb4.size
        have hI : IntsAt v4 v4.heap.size A2 ((H - lh) * lw) (cutF W 0 lh lw G) := i4
        clear o2 hA r4 pw hbw i4 hbel r3 pl
        go_wp2_with (first
          | (at_builtin; refine wpList_appR rfl _ _ 30 rfl sl_info Try.underlying30 v2.heap.size v4 u11 _ rfl r5 (below_alloc (Below.refl _ _) _) v4.heap.size rfl A2 _ cc2 _ (by simp) hcc2 hI (fun _ => hne) (by simp only [List.length_append, HLB.out]; simp [highs]; omega) hs4 ?_; intro out2 w5 r6 b6))
        have hb6 := hb4.trans b6
        have r7 : RowsAt w5 v2.heap.size out2 (LB ++ (highs W H lw lh G).take 2) := by
          rw [show LB ++ (highs W H lw lh G).take 2 = (LB ++ (highs W H lw lh G).take 1) ++ [((H - lh) * lw, cutF W 0 lh lw G)] by simp [highs]]
          exact r6
        clear r6 r5 b6 hb4
        go_wp2_with fail
        go_roundw
        case rel => exact ⟨2, by omega, by go_num, r7, hb6⟩
        case measure => simp [intOf]
      · skip
        have r4 := (r3.alloc (.cells #[.int .i64 (lw : Int), .int .i64 (lh : Int), .int .i64 (W : Int), .int .i64 (H : Int)] 23))
        have pw := pl.alloc (.cells #[.int .i64 (lw : Int), .int .i64 (lh : Int), .int .i64 (W : Int), .int .i64 (H : Int)] 23)
        have hbw := hbel.alloc hsz (.cells #[.int .i64 (lw : Int), .int .i64 (lh : Int), .int .i64 (W : Int), .int .i64 (H : Int)] 23)
        go_wp2_with fail
        refine (cutV_any w3.heap.size N W H G lw lh (W - lw) (H - lh) _ _ _ _ rfl rfl (by first | simp | omega) (by first | simp | omega) _ HN.out pw (by omega) (by omega) (by omega) (by omega) (by omega)).mono ?_
        rintro e v4 ⟨A2, cc2, rfl, hcc2, o2, b4⟩
        have i4 := o2.ints
        have hA := o2.away
        have hne : ∀ ad, A2 = some ad → u11.ownBlock ≠ some ad.block := fun ad had he => by
          have h5 := hA ad had
          have h6 := (r4.lt _ he).2
          omega
        have r5 := r4.below b4
        have hb4 := hbw.trans (b4.mono (Nat.le_trans hsz (by simp)))
        have hs4 : v2.heap.size ≤ v4.heap.size := Nat.le_trans b3.size hb4.size
        have hI : IntsAt v4 v4.heap.size A2 ((H - lh) * (W - lw)) (cutF W lw lh (W - lw) G) := i4
        clear o2 hA r4 pw hbw i4 hbel r3 pl
        go_wp2_with (first
          | (at_builtin; refine wpList_appR rfl _ _ 30 rfl sl_info Try.underlying30 v2.heap.size v4 u11 _ rfl r5 (below_alloc (Below.refl _ _) _) v4.heap.size rfl A2 _ cc2 _ (by simp) hcc2 hI (fun _ => hne) (by simp only [List.length_append, HLB.out]; simp [highs]; omega) hs4 ?_; intro out2 w5 r6 b6))
        have hb6 := hb4.trans b6
        have r7 : RowsAt w5 v2.heap.size out2 (LB ++ (highs W H lw lh G).take 3) := by
          rw [show LB ++ (highs W H lw lh G).take 3 = (LB ++ (highs W H lw lh G).take 2) ++ [((H - lh) * (W - lw), cutF W lw lh (W - lw) G)] by simp [highs]]
          exact r6
        clear r6 r5 b6 hb4
        go_wp2_with fail
        go_roundw
        case rel => exact ⟨3, by omega, by go_num, r7, hb6⟩
        case measure => simp [intOf]
      · have hBr := hBv.trans (hbel.mono (Nat.le_of_lt (Nat.lt_trans (Nat.lt_of_lt_of_le hs3 (Nat.le_refl _)) hlt3)))
        have r7 : RowsAt wr w.heap.size u11 (bandsF (l + 1) x y W H f) := by
          rw [HBF.out, ← HLE.out]
          exact r3.mono (Nat.le_of_lt (Nat.lt_trans hs3 hlt3))
        go_wp2_with fail
        go_ret
        exact ⟨_, rfl, r7, hBr⟩
end Go.Proofs.Ytmcdhdofgaoadaa
