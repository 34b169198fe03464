/- THE WALK OF CanvasSamples. -/
import Derived.Test.YtmieoifagnpbiaaCanSamp
import Derived.Test.YtmieoifagnpbiaaKnown12
import Derived.BigQuiet
namespace Go.Proofs.Ytmieoifagnpbiaa
open Go.RowKit
set_option maxHeartbeats 4000000
set_option linter.unusedVariables false
set_option linter.unusedSimpArgs false
set_option maxRecDepth 100000

theorem samples_0_true (x y dx dy depth which : Int) (hk : which % 6 = 0) (w : World) : Calls Try.prog 6 #[.int .i64 x, .int .i64 y, .int .i64 dx, .int .i64 dy, .int .i64 depth, .bool true, .int .i64 which] w fun e w' => e = .returned (.bool true) ∧ Below w.heap.size w w' := by
  have WW := Lib.hid (fun (v : World) => by have := within12 which 6 (by omega) (by omega) v; rw [hk] at this; exact this)
  have W20 := Lib.hid (fun (a : Int) (v : World) => within12e a 20 (by omega) (by omega) v)
  have W4_ := Lib.hid (fun (a : Int) (v : World) => within12e a 4 (by omega) (by omega) v)
  have W16 := Lib.hid (fun (a : Int) (v : World) => within12e a 16 (by omega) (by omega) v)
  clear hk
  go_enter Try.func6, Try.ntmps6
  go_wp2_with fail
  refine (known12 _).mono ?_
  rintro e w1 ⟨rfl, hb1⟩
  go_wp2_with fail
  refine (W20.out _ _).mono ?_
  rintro e w1' ⟨vx, x1, x2, rfl, rfl⟩
  go_wp2_with fail
  refine (W20.out _ _).mono ?_
  rintro e w1' ⟨vy, y1, y2, rfl, rfl⟩
  obtain ⟨Xn, hXn⟩ : ∃ Xn : Nat, 1 + vx = Xn := Int.eq_ofNat_of_zero_le (by omega)
  obtain ⟨Yn, hYn⟩ : ∃ Yn : Nat, 1 + vy = Yn := Int.eq_ofNat_of_zero_le (by omega)
  have x3 : 1 ≤ Xn ∧ Xn ≤ 20 := by omega
  have y3 : 1 ≤ Yn ∧ Yn ≤ 20 := by omega
  go_wp2_with fail
  refine (one_any Xn Yn 0 0 _).mono ?_
  clear hXn hYn x1 x2 y1 y2 W20
  rintro e w2 ⟨b, rfl, gb, hbb, hb2⟩
  unfold parV
  have hbl := below_trans hb1 hb2
  have hlt : b < w2.heap.size := (Array.getElem?_eq_some_iff.1 gb).1
  have hws := hbl.size
  have hwb := Nat.le_trans hb1.size hbb
  clear hb1 hb2 hbb
  go_wp2_with fail
  generalize hw3 : World.alloc (World.alloc w2 _) _ = W3
  have gm3 : W3.heap[w2.heap.size]? = some (.cells #[.int .i64 Xn, .int .i64 Yn, .int .i64 0, .int .i64 0, .slice (some ⟨b, 0, none⟩) 1 1] 25 (0, 0)) := by rw [← hw3]; exact (Below.heap_alloc _ _ _ (by simp)).trans (heap_alloc_new w2 _)
  have gp3 : W3.heap[w2.heap.size + 1]? = some (.cells #[.int .i64 64, .int .i64 64, .int .i64 2, .int .i64 4, .int .i64 4, .int .i64 15, .int .i64 0, .int .i64 0, .int .i64 1, .bool false, .bool false, .bool false] 27 (0, 0)) := by rw [← hw3]; exact heap_alloc_new2 w2 _ _
  have gb3 : W3.heap[b]? = some (.cells #[.int .i64 8, .bool false, .int .i64 1, .int .i64 1, .slice none 0 0] 34 (0, 0)) := by rw [← hw3]; exact (Below.heap_alloc _ _ _ (by simp; omega)).trans ((Below.heap_alloc _ _ _ (by omega)).trans gb)
  have hs3 : W3.heap.size = w2.heap.size + 2 := by rw [← hw3]; simp
  have hbl3 : Below w.heap.size w W3 := by rw [← hw3]; exact below_alloc (below_alloc hbl _) _
  obtain ⟨q, hq⟩ : ∃ q, w2.heap.size = q := ⟨_, rfl⟩
  clear hw3 gb hbl
  rw [hq] at gm3 gp3 hs3 hws hlt
  rw [hq]
  clear hq
  have c0 : W3.cell? ⟨b, 0, none⟩ = some (.int .i64 8) := cell_of_row _ _ 0 _ _ (0, 0) gb3
  have c1 : W3.cell? ⟨b, 1, none⟩ = some (.bool false) := cell_of_row _ _ 1 _ _ (0, 0) gb3
  have c2 : W3.cell? ⟨b, 2, none⟩ = some (.int .i64 1) := cell_of_row _ _ 2 _ _ (0, 0) gb3
  have c3 : W3.cell? ⟨b, 3, none⟩ = some (.int .i64 1) := cell_of_row _ _ 3 _ _ (0, 0) gb3
  have fb : ∀ j, W3.frozen? ⟨b, j, none⟩ = false := fun j => frozen_of_row _ _ j _ _ gb3
  refine (W4_.out _ _).mono ?_
  rintro e w4 ⟨vdx, z1, z2, rfl, rfl⟩
  obtain ⟨dxn, hdx⟩ : ∃ d : Nat, 1 + vdx = d := Int.eq_ofNat_of_zero_le (by omega)
  have z3 : 1 ≤ dxn ∧ dxn ≤ 4 := by omega
  go_wp2_with fail
  refine (W4_.out _ _).mono ?_
  rintro e w4 ⟨vdy, z4, z5, rfl, rfl⟩
  obtain ⟨dyn, hdy⟩ : ∃ d : Nat, 1 + vdy = d := Int.eq_ofNat_of_zero_le (by omega)
  have z6 : 1 ≤ dyn ∧ dyn ≤ 4 := by omega
  go_wp2_with fail
  refine (W16.out _ _).mono ?_
  rintro e w4 ⟨vdp, z7, z8, rfl, rfl⟩
  obtain ⟨dp, hdp⟩ : ∃ d : Nat, 1 + vdp = d := Int.eq_ofNat_of_zero_le (by omega)
  have z9 : 1 ≤ dp ∧ dp ≤ 16 := by omega
  go_wp2_with fail
  clear hdx hdy hdp z1 z2 z4 z5 z7 z8 c0 c1 c2 c3 fb W4_ W16
  generalize hw5 : World.setCell (World.setCell (World.setCell (World.setCell W3 _ _) _ _) _ _) _ _ = W5
  have gb5 : W5.heap[b]? = some (.cells #[.int .i64 dp, .bool true, .int .i64 dxn, .int .i64 dyn, .slice none 0 0] 34 (0, 0)) := by rw [← hw5]; exact heap_set1 (heap_set1 (heap_set1 (heap_set1 gb3 _) _) _) _
  have far : ∀ p, p ≠ b → W5.heap[p]? = W3.heap[p]? := fun p hp => by
    rw [← hw5]
    exact (Below.heap_setCell _ ⟨b, 1, none⟩ _ p hp).trans ((Below.heap_setCell _ ⟨b, 0, none⟩ _ p hp).trans ((Below.heap_setCell _ ⟨b, 3, none⟩ _ p hp).trans (Below.heap_setCell _ ⟨b, 2, none⟩ _ p hp)))
  have gm5 := (far q (by omega)).trans gm3
  have gp5 := (far (q + 1) (by omega)).trans gp3
  have hs5 : W5.heap.size = q + 2 := by rw [← hw5]; simp [hs3]
  have hbl5 : Below w.heap.size w W5 := by rw [← hw5]; exact (((hbl3.setCell (p := ⟨b, 2, none⟩) hwb _).setCell (p := ⟨b, 3, none⟩) hwb _).setCell (p := ⟨b, 0, none⟩) hwb _).setCell (p := ⟨b, 1, none⟩) hwb _
  clear hw5 far gb3 gm3 gp3 hs3 hbl3
  have c0 : W5.cell? ⟨b, 0, none⟩ = some (.int .i64 dp) := cell_of_row _ _ 0 _ _ (0, 0) gb5
  have c2 : W5.cell? ⟨b, 2, none⟩ = some (.int .i64 dxn) := cell_of_row _ _ 2 _ _ (0, 0) gb5
  have c3 : W5.cell? ⟨b, 3, none⟩ = some (.int .i64 dyn) := cell_of_row _ _ 3 _ _ (0, 0) gb5
  have c4 : W5.cell? ⟨b, 4, none⟩ = some (.slice none 0 0) := cell_of_row _ _ 4 _ _ (0, 0) gb5
  have f4 : W5.frozen? ⟨b, 4, none⟩ = false := frozen_of_row _ _ 4 _ _ gb5
  have m0 : W5.cell? ⟨q, 0, none⟩ = some (.int .i64 Xn) := cell_of_row _ _ 0 _ _ (0, 0) gm5
  have m1 : W5.cell? ⟨q, 1, none⟩ = some (.int .i64 Yn) := cell_of_row _ _ 1 _ _ (0, 0) gm5
  have e1 : ((Xn : Int) + dxn - 1).tdiv dxn = ((byN Xn dxn : Nat) : Int) := by
    rw [show (Xn : Int) + dxn - 1 = ((Xn + dxn - 1 : Nat) : Int) by omega]; rfl
  have e2 : ((Yn : Int) + dyn - 1).tdiv dyn = ((byN Yn dyn : Nat) : Int) := by
    rw [show (Yn : Int) + dyn - 1 = ((Yn + dyn - 1 : Nat) : Int) by omega]; rfl
  have a1 : byN Xn dxn ≤ Xn := byN_le (by omega)
  have a2 : byN Yn dyn ≤ Yn := byN_le (by omega)
  have a3 : 1 ≤ byN Xn dxn := (Nat.le_div_iff_mul_le (by omega)).2 (by omega)
  have a4 : 1 ≤ byN Yn dyn := (Nat.le_div_iff_mul_le (by omega)).2 (by omega)
  have har : areaN Xn Yn 0 0 dxn dyn = byN Xn dxn * byN Yn dyn := by
    unfold areaN
    have h0 : ∀ d, 1 ≤ d → byN 0 d = 0 := fun d hd => by unfold byN; exact Nat.div_eq_of_lt (by omega)
    rw [h0 _ (by omega), h0 _ (by omega), Nat.sub_zero, Nat.sub_zero]
  generalize byN Xn dxn = A1 at *
  generalize byN Yn dyn = B1 at *
  have p1 : A1 * B1 ≤ 20 * 20 := Nat.mul_le_mul (by omega) (by omega)
  have p2 : 1 ≤ A1 * B1 := Nat.mul_pos (by omega) (by omega)
  have p3 : (A1 : Int) * B1 = ((A1 * B1 : Nat) : Int) := by simp
  generalize A1 * B1 = N at *
  have HN400 := Lib.hid (show N ≤ 400 from p1)
  have HAR := Lib.hid har
  clear har
  obtain ⟨sx, hsx⟩ : ∃ s, (Xn : Int) + dxn = s := ⟨_, rfl⟩
  obtain ⟨sx1, hsx1⟩ : ∃ t, sx - 1 = t := ⟨_, rfl⟩
  obtain ⟨sy, hsy⟩ : ∃ s, (Yn : Int) + dyn = s := ⟨_, rfl⟩
  obtain ⟨sy1, hsy1⟩ : ∃ t, sy - 1 = t := ⟨_, rfl⟩
  rw [hsx, hsx1] at e1
  rw [hsy, hsy1] at e2
  have w1 : IntKind.i64.wrap sx = sx := wr (by omega)
  have w2' : IntKind.i64.wrap sx1 = sx1 := wr (by omega)
  have w3' : IntKind.i64.wrap sy = sy := wr (by omega)
  have w4' : IntKind.i64.wrap sy1 = sy1 := wr (by omega)
  have w5' : IntKind.i64.wrap (A1 : Int) = A1 := wr (by omega)
  have w6' : IntKind.i64.wrap (B1 : Int) = B1 := wr (by omega)
  have w7' : IntKind.i64.wrap (N : Int) = N := wr (by omega)
  have nz1 : ((dxn : Int) = 0) = False := eq_false (by omega)
  have nz2 : ((dyn : Int) = 0) = False := eq_false (by omega)
  go_quiet (fail)
  clear e1 e2 a1 a2 a3 a4 p1 p3 w1 w2' w3' w4' w5' w6' w7' nz1 nz2 hsx hsx1 hsy hsy1 m0 m1 c2 c3
  have p1 : N ≤ 400 := HN400.out
  obtain ⟨m, e1, e2, e3, e4⟩ : ∃ m : Nat, 2 ^ dp = 2 * m ∧ 2 ^ (dp - 1) = m ∧ 1 ≤ m ∧ m ≤ 32768 := by
    obtain ⟨k, rfl⟩ : ∃ k, dp = k + 1 := ⟨dp - 1, by omega⟩
    refine ⟨2 ^ k, by rw [Nat.pow_succ, Nat.mul_comm], rfl, Nat.one_le_two_pow, ?_⟩
    calc 2 ^ k ≤ 2 ^ 15 := Nat.pow_le_pow_right (by omega) (by omega)
      _ = 32768 := rfl
  have hlo : loB dp true = -(m : Nat) := by unfold loB; rw [e2]; rfl
  have hhi : hiB dp true = ((m : Nat) : Int) - 1 := by unfold hiB; first | rw [e1]; rfl | rw [e2]; rfl
  have u1 : IntKind.u64.wrap (dp : Int) = dp := by rw [IntKind.wrap_u64]; omega
  have mn : min dp 64 = dp := by omega
  have e5 : (2 : Int) ^ dp = 2 * (m : Int) := by
    have : (2 : Int) ^ dp = ((2 ^ dp : Nat) : Int) := by simp
    rw [this, e1]; simp
  have q1 : IntKind.i64.wrap (2 ^ dp) = 2 * (m : Int) := by rw [e5]; exact wr (by omega)
  have q2 : IntKind.i64.wrap (2 * (m : Int) - 1) = 2 * (m : Int) - 1 := wr (by omega)
  have HM2 := Lib.hid e2
  have HLO := Lib.hid hlo
  have HHI := Lib.hid hhi
  clear hlo hhi e1 e2 e5
  have hmk := fun u => run_make_row' (P := Try.prog) 32 3 (.int .i64 0) 8 Try.underlying32 int_info12 rfl .i64 .i64 N (by omega) (by omega) u
  have af4 : ∀ t, ((W5.drewN t).alloc (.cells (madeCells #[.int .i64 0] N) 3)).cell? ⟨b, 4, none⟩ = some (.slice none 0 0) := fun t => (World.cell?_of_block (Below.heap_alloc (W5.drewN t) _ b (by show b < W5.heap.size; omega))).trans c4
  have ag4 : ∀ t, ((W5.drewN t).alloc (.cells (madeCells #[.int .i64 0] N) 3)).frozen? ⟨b, 4, none⟩ = false := fun t => (World.frozen?_of_block (a := ⟨b, 4, none⟩) (Below.heap_alloc (W5.drewN t) _ b (by show b < W5.heap.size; omega))).trans f4
  go_wp2_with fail
  have c0' : (W5.drewN nq).cell? ⟨b, 0, none⟩ = some (.int .i64 dp) := c0
  go_quiet (fail)
  go_wp2_with fail
  have u3 : IntKind.i64.wrap ((dp : Int) - 1) = ((dp - 1 : Nat) : Int) := by rw [show (dp : Int) - 1 = ((dp - 1 : Nat) : Int) by omega]; exact wr (by omega)
  have u4 : IntKind.u64.wrap ((dp - 1 : Nat) : Int) = ((dp - 1 : Nat) : Int) := by rw [IntKind.wrap_u64]; omega
  have u5 : (dp : Int) - 1 = ((dp - 1 : Nat) : Int) := by omega
  have u6 : min (dp - 1) 64 = dp - 1 := by omega
  have u8 : IntKind.i64.wrap (2 ^ (dp - 1)) = (m : Int) := by
    rw [show (2 : Int) ^ (dp - 1) = ((2 ^ (dp - 1) : Nat) : Int) by simp, HM2.out]; exact wr (by omega)
  have u9 : IntKind.i64.wrap (0 - (m : Int)) = -(m : Int) := by rw [show (0 : Int) - m = -(m : Int) by omega]; exact wr (by omega)
  have u10 : IntKind.i64.wrap ((m : Int) - 1) = (m : Int) - 1 := wr (by omega)
  generalize dp - 1 = dp1 at *
  go_quiet (fail)
  go_wp2_with fail
  generalize hw7 : World.setCell (World.alloc (World.drewN W5 _) _) _ _ = W7
  have gb7 : W7.heap[b]? = some (.cells #[.int .i64 dp, .bool true, .int .i64 dxn, .int .i64 dyn, .slice (some ⟨q + 2, 0, none⟩) N N] 34 (0, 0)) := by rw [← hw7]; exact heap_set1 ((Below.heap_alloc (W5.drewN _) _ b (by show b < W5.heap.size; omega)).trans gb5) _
  have far : ∀ p, p ≠ b → p < q + 2 → W7.heap[p]? = W5.heap[p]? := fun p hp hp2 => by
    rw [← hw7]
    exact (Below.heap_setCell _ ⟨b, 4, none⟩ _ p hp).trans (Below.heap_alloc (W5.drewN _) _ p (by show p < W5.heap.size; omega))
  have gm7 := (far q (by omega) (by omega)).trans gm5
  have gp7 := (far (q + 1) (by omega) (by omega)).trans gp5
  have hs7 : W7.heap.size = q + 3 := by rw [← hw7]; simp [World.drewN, hs5]
  have hbl7 : Below w.heap.size w W7 := by rw [← hw7]; exact (below_alloc (below_drewN hbl5 _) _).setCell (p := ⟨b, 4, none⟩) hwb _
  have own : OwnI W7 (q + 2) 3 (.slice (some ⟨q + 2, 0, none⟩) N N) N (fun _ => 0) := by
    rw [← hw7, ← hs5]
    refine OwnI.other (OwnI.made (W5.drewN _) W5.heap.size N 3 (Nat.le_refl _) (by omega)) ?_ _
    simp only [Value.ownBlock, ne_eq, Option.some.injEq, World.drewN]
    omega
  clear hw7 far gb5 gm5 gp5 hs5 hbl5 hmk af4 ag4 c4 f4 c0 c0'
  refine (WW.out _).mono ?_
  rintro e w8 ⟨rfl, rfl⟩
  clear WW
  have c4 : W7.cell? ⟨b, 4, none⟩ = some (.slice (some ⟨q + 2, 0, none⟩) N N) := cell_of_row _ _ 4 _ _ (0, 0) gb7
  have f4 : W7.frozen? ⟨b, 4, none⟩ = false := frozen_of_row _ _ 4 _ _ gb7
  have t3 : (W7.alloc (.cells #[.int .i64 0] 3)).cell? ⟨q + 3, 0, none⟩ = some (.int .i64 ((fun _ => (0 : Int)) N)) := by rw [← hs7]; exact (cell_of_row _ _ 0 _ _ (0, 0) (heap_alloc_new W7 _))
  have F1 := Lib.hid (fun (V : World) (h : Below (q + 2) W7 V) => (And.intro ((h.cell (p := ⟨b, 4, none⟩) (show b < q + 2 by omega)).trans c4) ((h.frozen (p := ⟨b, 4, none⟩) (show b < q + 2 by omega)).trans f4)))
  have MK := Lib.hid (fun (V : World) (h : Below (q + 2) W7 V) (v : Value) => show (V.setCell ⟨b, 4, none⟩ v).cell? ⟨q, 0, none⟩ = some (.int .i64 Xn) ∧ (V.setCell ⟨b, 4, none⟩ v).cell? ⟨q, 1, none⟩ = some (.int .i64 Yn) ∧ (V.setCell ⟨b, 4, none⟩ v).cell? ⟨q, 2, none⟩ = some (.int .i64 0) ∧ (V.setCell ⟨b, 4, none⟩ v).cell? ⟨q, 3, none⟩ = some (.int .i64 0) ∧ (V.setCell ⟨b, 4, none⟩ v).cell? ⟨q, 4, none⟩ = some (.slice (some ⟨b, 0, none⟩) 1 1) ∧ (V.setCell ⟨b, 4, none⟩ v).cell? ⟨q + 1, 0, none⟩ = some (.int .i64 64) ∧ (V.setCell ⟨b, 4, none⟩ v).cell? ⟨q + 1, 1, none⟩ = some (.int .i64 64) ∧ (V.setCell ⟨b, 4, none⟩ v).cell? ⟨q + 1, 2, none⟩ = some (.int .i64 2) ∧ (V.setCell ⟨b, 4, none⟩ v).cell? ⟨q + 1, 3, none⟩ = some (.int .i64 4) ∧ (V.setCell ⟨b, 4, none⟩ v).cell? ⟨q + 1, 4, none⟩ = some (.int .i64 4) ∧ (V.setCell ⟨b, 4, none⟩ v).cell? ⟨q + 1, 5, none⟩ = some (.int .i64 15) ∧ (V.setCell ⟨b, 4, none⟩ v).cell? ⟨q + 1, 6, none⟩ = some (.int .i64 0) ∧ (V.setCell ⟨b, 4, none⟩ v).cell? ⟨q + 1, 7, none⟩ = some (.int .i64 0) ∧ (V.setCell ⟨b, 4, none⟩ v).cell? ⟨q + 1, 8, none⟩ = some (.int .i64 1) ∧ (V.setCell ⟨b, 4, none⟩ v).cell? ⟨q + 1, 9, none⟩ = some (.bool false) ∧ (V.setCell ⟨b, 4, none⟩ v).cell? ⟨q + 1, 10, none⟩ = some (.bool false) ∧ (V.setCell ⟨b, 4, none⟩ v).cell? ⟨q + 1, 11, none⟩ = some (.bool false) from
    have g0 : ∀ j, (V.setCell ⟨b, 4, none⟩ v).cell? ⟨q, j, none⟩ = W7.cell? ⟨q, j, none⟩ := fun j => (World.cell?_of_block (Below.heap_setCell V ⟨b, 4, none⟩ v q (by simp only; omega))).trans (h.cell (p := ⟨q, j, none⟩) (by simp only; omega))
    have g1 : ∀ j, (V.setCell ⟨b, 4, none⟩ v).cell? ⟨q + 1, j, none⟩ = W7.cell? ⟨q + 1, j, none⟩ := fun j => (World.cell?_of_block (Below.heap_setCell V ⟨b, 4, none⟩ v (q + 1) (by simp only; omega))).trans (h.cell (p := ⟨q + 1, j, none⟩) (by simp only; omega))
    ⟨(g0 0).trans (cell_of_row _ _ 0 _ _ (0, 0) gm7), (g0 1).trans (cell_of_row _ _ 1 _ _ (0, 0) gm7), (g0 2).trans (cell_of_row _ _ 2 _ _ (0, 0) gm7), (g0 3).trans (cell_of_row _ _ 3 _ _ (0, 0) gm7), (g0 4).trans (cell_of_row _ _ 4 _ _ (0, 0) gm7), (g1 0).trans (cell_of_row _ _ 0 _ _ (0, 0) gp7), (g1 1).trans (cell_of_row _ _ 1 _ _ (0, 0) gp7), (g1 2).trans (cell_of_row _ _ 2 _ _ (0, 0) gp7), (g1 3).trans (cell_of_row _ _ 3 _ _ (0, 0) gp7), (g1 4).trans (cell_of_row _ _ 4 _ _ (0, 0) gp7), (g1 5).trans (cell_of_row _ _ 5 _ _ (0, 0) gp7), (g1 6).trans (cell_of_row _ _ 6 _ _ (0, 0) gp7), (g1 7).trans (cell_of_row _ _ 7 _ _ (0, 0) gp7), (g1 8).trans (cell_of_row _ _ 8 _ _ (0, 0) gp7), (g1 9).trans (cell_of_row _ _ 9 _ _ (0, 0) gp7), (g1 10).trans (cell_of_row _ _ 10 _ _ (0, 0) gp7), (g1 11).trans (cell_of_row _ _ 11 _ _ (0, 0) gp7)⟩)
  clear c4 f4
  have c4 : (W7.alloc (.cells #[.int .i64 0] 3)).cell? ⟨b, 4, none⟩ = some (.slice (some ⟨q + 2, 0, none⟩) N N) := (F1.out _ ((Below.refl _ _).alloc (by omega) _)).1
  have c4' : W7.cell? ⟨b, 4, none⟩ = some (.slice (some ⟨q + 2, 0, none⟩) N N) := (F1.out _ (Below.refl _ _)).1
  go_wp2_with (at_builtin; refine wpList_app1 W7 ((Below.refl _ _).alloc (Nat.le_refl _) _) rfl _ _ 32 rfl 3 int_info12 Try.underlying32 (q + 2) (some ⟨q + 2, 0, none⟩) N N (fun _ => 0) rfl own (q + 3) rfl t3 (by omega) (by omega) ?_; intro g1 cap1 W8 o1 st1 lt1; have c5 := (F1.out _ st1.below).1; have f5 := (F1.out _ st1.below).2; obtain ⟨m0, m1, m2, m3, m4, p0, p1, p2, p3, p4, p5, p6, p7, p8, p9, p10, p11⟩ := MK.out _ st1.below (.slice (some ⟨g1, 0, none⟩) (N + 1) cap1))
  have gb9 := heap_set1 (j := 4) ((st1.below.block b (by omega)).trans gb7) (.slice (some ⟨g1, 0, none⟩) (N + 1) cap1)
  have gm9 := (Below.heap_setCell W8 ⟨b, 4, none⟩ (.slice (some ⟨g1, 0, none⟩) (N + 1) cap1) q (by simp only; omega)).trans ((st1.below.block q (by omega)).trans gm7)
  have gp9 := (Below.heap_setCell W8 ⟨b, 4, none⟩ (.slice (some ⟨g1, 0, none⟩) (N + 1) cap1) (q + 1) (by simp only; omega)).trans ((st1.below.block (q + 1) (by omega)).trans gp7)
  have hb9 := (hbl7.trans (st1.below.mono (show w.heap.size ≤ q + 2 by omega))).setCell (p := ⟨b, 4, none⟩) hwb (.slice (some ⟨g1, 0, none⟩) (N + 1) cap1)
  have own9 := o1.other (a := ⟨b, 4, none⟩) (fun he => by have := (o1.lt _ he).1; simp only at this; omega) (.slice (some ⟨g1, 0, none⟩) (N + 1) cap1)
  clear gb7 gm7 gp7 hbl7 t3 c4 c4' c5 f5 o1 st1
  have m0 : (W8.setCell ⟨b, 4, none⟩ (.slice (some ⟨g1, 0, none⟩) (N + 1) cap1)).cell? ⟨q, 0, none⟩ = some (.int .i64 Xn) := cell_of_row _ _ 0 _ _ (0, 0) gm9
  have m1 : (W8.setCell ⟨b, 4, none⟩ (.slice (some ⟨g1, 0, none⟩) (N + 1) cap1)).cell? ⟨q, 1, none⟩ = some (.int .i64 Yn) := cell_of_row _ _ 1 _ _ (0, 0) gm9
  have m2 : (W8.setCell ⟨b, 4, none⟩ (.slice (some ⟨g1, 0, none⟩) (N + 1) cap1)).cell? ⟨q, 2, none⟩ = some (.int .i64 0) := cell_of_row _ _ 2 _ _ (0, 0) gm9
  have m3 : (W8.setCell ⟨b, 4, none⟩ (.slice (some ⟨g1, 0, none⟩) (N + 1) cap1)).cell? ⟨q, 3, none⟩ = some (.int .i64 0) := cell_of_row _ _ 3 _ _ (0, 0) gm9
  have m4 : (W8.setCell ⟨b, 4, none⟩ (.slice (some ⟨g1, 0, none⟩) (N + 1) cap1)).cell? ⟨q, 4, none⟩ = some (.slice (some ⟨b, 0, none⟩) 1 1) := cell_of_row _ _ 4 _ _ (0, 0) gm9
  have p0 : (W8.setCell ⟨b, 4, none⟩ (.slice (some ⟨g1, 0, none⟩) (N + 1) cap1)).cell? ⟨q + 1, 0, none⟩ = some (.int .i64 64) := cell_of_row _ _ 0 _ _ (0, 0) gp9
  have p1 : (W8.setCell ⟨b, 4, none⟩ (.slice (some ⟨g1, 0, none⟩) (N + 1) cap1)).cell? ⟨q + 1, 1, none⟩ = some (.int .i64 64) := cell_of_row _ _ 1 _ _ (0, 0) gp9
  have p2 : (W8.setCell ⟨b, 4, none⟩ (.slice (some ⟨g1, 0, none⟩) (N + 1) cap1)).cell? ⟨q + 1, 2, none⟩ = some (.int .i64 2) := cell_of_row _ _ 2 _ _ (0, 0) gp9
  have p3 : (W8.setCell ⟨b, 4, none⟩ (.slice (some ⟨g1, 0, none⟩) (N + 1) cap1)).cell? ⟨q + 1, 3, none⟩ = some (.int .i64 4) := cell_of_row _ _ 3 _ _ (0, 0) gp9
  have p4 : (W8.setCell ⟨b, 4, none⟩ (.slice (some ⟨g1, 0, none⟩) (N + 1) cap1)).cell? ⟨q + 1, 4, none⟩ = some (.int .i64 4) := cell_of_row _ _ 4 _ _ (0, 0) gp9
  have p5 : (W8.setCell ⟨b, 4, none⟩ (.slice (some ⟨g1, 0, none⟩) (N + 1) cap1)).cell? ⟨q + 1, 5, none⟩ = some (.int .i64 15) := cell_of_row _ _ 5 _ _ (0, 0) gp9
  have p6 : (W8.setCell ⟨b, 4, none⟩ (.slice (some ⟨g1, 0, none⟩) (N + 1) cap1)).cell? ⟨q + 1, 6, none⟩ = some (.int .i64 0) := cell_of_row _ _ 6 _ _ (0, 0) gp9
  have p7 : (W8.setCell ⟨b, 4, none⟩ (.slice (some ⟨g1, 0, none⟩) (N + 1) cap1)).cell? ⟨q + 1, 7, none⟩ = some (.int .i64 0) := cell_of_row _ _ 7 _ _ (0, 0) gp9
  have p8 : (W8.setCell ⟨b, 4, none⟩ (.slice (some ⟨g1, 0, none⟩) (N + 1) cap1)).cell? ⟨q + 1, 8, none⟩ = some (.int .i64 1) := cell_of_row _ _ 8 _ _ (0, 0) gp9
  have p9 : (W8.setCell ⟨b, 4, none⟩ (.slice (some ⟨g1, 0, none⟩) (N + 1) cap1)).cell? ⟨q + 1, 9, none⟩ = some (.bool false) := cell_of_row _ _ 9 _ _ (0, 0) gp9
  have p10 : (W8.setCell ⟨b, 4, none⟩ (.slice (some ⟨g1, 0, none⟩) (N + 1) cap1)).cell? ⟨q + 1, 10, none⟩ = some (.bool false) := cell_of_row _ _ 10 _ _ (0, 0) gp9
  have p11 : (W8.setCell ⟨b, 4, none⟩ (.slice (some ⟨g1, 0, none⟩) (N + 1) cap1)).cell? ⟨q + 1, 11, none⟩ = some (.bool false) := cell_of_row _ _ 11 _ _ (0, 0) gp9
  have hc9 : CompsAt (W8.setCell ⟨b, 4, none⟩ (.slice (some ⟨g1, 0, none⟩) (N + 1) cap1)) (W8.setCell ⟨b, 4, none⟩ (.slice (some ⟨g1, 0, none⟩) (N + 1) cap1)).heap.size (some ⟨b, 0, none⟩) 1 (fun _ => ⟨dp, true, dxn, dyn, some ⟨g1, 0, none⟩, (N + 1), cap1⟩) := comps1' gb9 (Array.getElem?_eq_some_iff.1 gb9).1 rfl
  have CK := check_any Xn Yn 0 0 (some ⟨b, 0, none⟩) 1 1 (fun _ => ⟨dp, true, dxn, dyn, some ⟨g1, 0, none⟩, (N + 1), cap1⟩) (fun _ => (fun _ => 0)) 64 64 2 4 4 15 0 0 1 false false false (W8.setCell ⟨b, 4, none⟩ (.slice (some ⟨g1, 0, none⟩) (N + 1) cap1)) hc9 (by omega) (fun _ _ => own9.ints) (fun _ _ => by simp only; omega)
  have ce : checkE Xn Yn 0 0 1 (fun _ => ⟨dp, true, dxn, dyn, some ⟨g1, 0, none⟩, (N + 1), cap1⟩) (fun _ => (fun _ => 0)) 64 64 2 4 4 15 0 0 1 false = 7 := by
    rw [samp_ck true _ _ _ _ x3 y3 z3 z6 z9, HAR.out]
    rw [if_neg (by omega)]
  rw [ce] at CK
  unfold imgV parV at CK
  have CK := Lib.hid CK
  clear ce hc9 gb9 gm9 gp9
  try go_wp2_with fail
  refine CK.out.mono ?_
  rintro e w10 ⟨rfl, hb10⟩
  go_wp2_with fail
  go_ret
  exact ⟨rfl, below_trans hb9 hb10⟩
theorem samples_1_true (x y dx dy depth which : Int) (hk : which % 6 = 1) (w : World) : Calls Try.prog 6 #[.int .i64 x, .int .i64 y, .int .i64 dx, .int .i64 dy, .int .i64 depth, .bool true, .int .i64 which] w fun e w' => e = .returned (.bool true) ∧ Below w.heap.size w w' := by
  have WW := Lib.hid (fun (v : World) => by have := within12 which 6 (by omega) (by omega) v; rw [hk] at this; exact this)
  have W20 := Lib.hid (fun (a : Int) (v : World) => within12e a 20 (by omega) (by omega) v)
  have W4_ := Lib.hid (fun (a : Int) (v : World) => within12e a 4 (by omega) (by omega) v)
  have W16 := Lib.hid (fun (a : Int) (v : World) => within12e a 16 (by omega) (by omega) v)
  clear hk
  go_enter Try.func6, Try.ntmps6
  go_wp2_with fail
  refine (known12 _).mono ?_
  rintro e w1 ⟨rfl, hb1⟩
  go_wp2_with fail
  refine (W20.out _ _).mono ?_
  rintro e w1' ⟨vx, x1, x2, rfl, rfl⟩
  go_wp2_with fail
  refine (W20.out _ _).mono ?_
  rintro e w1' ⟨vy, y1, y2, rfl, rfl⟩
  obtain ⟨Xn, hXn⟩ : ∃ Xn : Nat, 1 + vx = Xn := Int.eq_ofNat_of_zero_le (by omega)
  obtain ⟨Yn, hYn⟩ : ∃ Yn : Nat, 1 + vy = Yn := Int.eq_ofNat_of_zero_le (by omega)
  have x3 : 1 ≤ Xn ∧ Xn ≤ 20 := by omega
  have y3 : 1 ≤ Yn ∧ Yn ≤ 20 := by omega
  go_wp2_with fail
  refine (one_any Xn Yn 0 0 _).mono ?_
  clear hXn hYn x1 x2 y1 y2 W20
  rintro e w2 ⟨b, rfl, gb, hbb, hb2⟩
  unfold parV
  have hbl := below_trans hb1 hb2
  have hlt : b < w2.heap.size := (Array.getElem?_eq_some_iff.1 gb).1
  have hws := hbl.size
  have hwb := Nat.le_trans hb1.size hbb
  clear hb1 hb2 hbb
  go_wp2_with fail
  generalize hw3 : World.alloc (World.alloc w2 _) _ = W3
  have gm3 : W3.heap[w2.heap.size]? = some (.cells #[.int .i64 Xn, .int .i64 Yn, .int .i64 0, .int .i64 0, .slice (some ⟨b, 0, none⟩) 1 1] 25 (0, 0)) := by rw [← hw3]; exact (Below.heap_alloc _ _ _ (by simp)).trans (heap_alloc_new w2 _)
  have gp3 : W3.heap[w2.heap.size + 1]? = some (.cells #[.int .i64 64, .int .i64 64, .int .i64 2, .int .i64 4, .int .i64 4, .int .i64 15, .int .i64 0, .int .i64 0, .int .i64 1, .bool false, .bool false, .bool false] 27 (0, 0)) := by rw [← hw3]; exact heap_alloc_new2 w2 _ _
  have gb3 : W3.heap[b]? = some (.cells #[.int .i64 8, .bool false, .int .i64 1, .int .i64 1, .slice none 0 0] 34 (0, 0)) := by rw [← hw3]; exact (Below.heap_alloc _ _ _ (by simp; omega)).trans ((Below.heap_alloc _ _ _ (by omega)).trans gb)
  have hs3 : W3.heap.size = w2.heap.size + 2 := by rw [← hw3]; simp
  have hbl3 : Below w.heap.size w W3 := by rw [← hw3]; exact below_alloc (below_alloc hbl _) _
  obtain ⟨q, hq⟩ : ∃ q, w2.heap.size = q := ⟨_, rfl⟩
  clear hw3 gb hbl
  rw [hq] at gm3 gp3 hs3 hws hlt
  rw [hq]
  clear hq
  have c0 : W3.cell? ⟨b, 0, none⟩ = some (.int .i64 8) := cell_of_row _ _ 0 _ _ (0, 0) gb3
  have c1 : W3.cell? ⟨b, 1, none⟩ = some (.bool false) := cell_of_row _ _ 1 _ _ (0, 0) gb3
  have c2 : W3.cell? ⟨b, 2, none⟩ = some (.int .i64 1) := cell_of_row _ _ 2 _ _ (0, 0) gb3
  have c3 : W3.cell? ⟨b, 3, none⟩ = some (.int .i64 1) := cell_of_row _ _ 3 _ _ (0, 0) gb3
  have fb : ∀ j, W3.frozen? ⟨b, j, none⟩ = false := fun j => frozen_of_row _ _ j _ _ gb3
  refine (W4_.out _ _).mono ?_
  rintro e w4 ⟨vdx, z1, z2, rfl, rfl⟩
  obtain ⟨dxn, hdx⟩ : ∃ d : Nat, 1 + vdx = d := Int.eq_ofNat_of_zero_le (by omega)
  have z3 : 1 ≤ dxn ∧ dxn ≤ 4 := by omega
  go_wp2_with fail
  refine (W4_.out _ _).mono ?_
  rintro e w4 ⟨vdy, z4, z5, rfl, rfl⟩
  obtain ⟨dyn, hdy⟩ : ∃ d : Nat, 1 + vdy = d := Int.eq_ofNat_of_zero_le (by omega)
  have z6 : 1 ≤ dyn ∧ dyn ≤ 4 := by omega
  go_wp2_with fail
  refine (W16.out _ _).mono ?_
  rintro e w4 ⟨vdp, z7, z8, rfl, rfl⟩
  obtain ⟨dp, hdp⟩ : ∃ d : Nat, 1 + vdp = d := Int.eq_ofNat_of_zero_le (by omega)
  have z9 : 1 ≤ dp ∧ dp ≤ 16 := by omega
  go_wp2_with fail
  clear hdx hdy hdp z1 z2 z4 z5 z7 z8 c0 c1 c2 c3 fb W4_ W16
  generalize hw5 : World.setCell (World.setCell (World.setCell (World.setCell W3 _ _) _ _) _ _) _ _ = W5
  have gb5 : W5.heap[b]? = some (.cells #[.int .i64 dp, .bool true, .int .i64 dxn, .int .i64 dyn, .slice none 0 0] 34 (0, 0)) := by rw [← hw5]; exact heap_set1 (heap_set1 (heap_set1 (heap_set1 gb3 _) _) _) _
  have far : ∀ p, p ≠ b → W5.heap[p]? = W3.heap[p]? := fun p hp => by
    rw [← hw5]
    exact (Below.heap_setCell _ ⟨b, 1, none⟩ _ p hp).trans ((Below.heap_setCell _ ⟨b, 0, none⟩ _ p hp).trans ((Below.heap_setCell _ ⟨b, 3, none⟩ _ p hp).trans (Below.heap_setCell _ ⟨b, 2, none⟩ _ p hp)))
  have gm5 := (far q (by omega)).trans gm3
  have gp5 := (far (q + 1) (by omega)).trans gp3
  have hs5 : W5.heap.size = q + 2 := by rw [← hw5]; simp [hs3]
  have hbl5 : Below w.heap.size w W5 := by rw [← hw5]; exact (((hbl3.setCell (p := ⟨b, 2, none⟩) hwb _).setCell (p := ⟨b, 3, none⟩) hwb _).setCell (p := ⟨b, 0, none⟩) hwb _).setCell (p := ⟨b, 1, none⟩) hwb _
  clear hw5 far gb3 gm3 gp3 hs3 hbl3
  have c0 : W5.cell? ⟨b, 0, none⟩ = some (.int .i64 dp) := cell_of_row _ _ 0 _ _ (0, 0) gb5
  have c2 : W5.cell? ⟨b, 2, none⟩ = some (.int .i64 dxn) := cell_of_row _ _ 2 _ _ (0, 0) gb5
  have c3 : W5.cell? ⟨b, 3, none⟩ = some (.int .i64 dyn) := cell_of_row _ _ 3 _ _ (0, 0) gb5
  have c4 : W5.cell? ⟨b, 4, none⟩ = some (.slice none 0 0) := cell_of_row _ _ 4 _ _ (0, 0) gb5
  have f4 : W5.frozen? ⟨b, 4, none⟩ = false := frozen_of_row _ _ 4 _ _ gb5
  have m0 : W5.cell? ⟨q, 0, none⟩ = some (.int .i64 Xn) := cell_of_row _ _ 0 _ _ (0, 0) gm5
  have m1 : W5.cell? ⟨q, 1, none⟩ = some (.int .i64 Yn) := cell_of_row _ _ 1 _ _ (0, 0) gm5
  have e1 : ((Xn : Int) + dxn - 1).tdiv dxn = ((byN Xn dxn : Nat) : Int) := by
    rw [show (Xn : Int) + dxn - 1 = ((Xn + dxn - 1 : Nat) : Int) by omega]; rfl
  have e2 : ((Yn : Int) + dyn - 1).tdiv dyn = ((byN Yn dyn : Nat) : Int) := by
    rw [show (Yn : Int) + dyn - 1 = ((Yn + dyn - 1 : Nat) : Int) by omega]; rfl
  have a1 : byN Xn dxn ≤ Xn := byN_le (by omega)
  have a2 : byN Yn dyn ≤ Yn := byN_le (by omega)
  have a3 : 1 ≤ byN Xn dxn := (Nat.le_div_iff_mul_le (by omega)).2 (by omega)
  have a4 : 1 ≤ byN Yn dyn := (Nat.le_div_iff_mul_le (by omega)).2 (by omega)
  have har : areaN Xn Yn 0 0 dxn dyn = byN Xn dxn * byN Yn dyn := by
    unfold areaN
    have h0 : ∀ d, 1 ≤ d → byN 0 d = 0 := fun d hd => by unfold byN; exact Nat.div_eq_of_lt (by omega)
    rw [h0 _ (by omega), h0 _ (by omega), Nat.sub_zero, Nat.sub_zero]
  generalize byN Xn dxn = A1 at *
  generalize byN Yn dyn = B1 at *
  have p1 : A1 * B1 ≤ 20 * 20 := Nat.mul_le_mul (by omega) (by omega)
  have p2 : 1 ≤ A1 * B1 := Nat.mul_pos (by omega) (by omega)
  have p3 : (A1 : Int) * B1 = ((A1 * B1 : Nat) : Int) := by simp
  generalize A1 * B1 = N at *
  have HN400 := Lib.hid (show N ≤ 400 from p1)
  have HAR := Lib.hid har
  clear har
  obtain ⟨sx, hsx⟩ : ∃ s, (Xn : Int) + dxn = s := ⟨_, rfl⟩
  obtain ⟨sx1, hsx1⟩ : ∃ t, sx - 1 = t := ⟨_, rfl⟩
  obtain ⟨sy, hsy⟩ : ∃ s, (Yn : Int) + dyn = s := ⟨_, rfl⟩
  obtain ⟨sy1, hsy1⟩ : ∃ t, sy - 1 = t := ⟨_, rfl⟩
  rw [hsx, hsx1] at e1
  rw [hsy, hsy1] at e2
  have w1 : IntKind.i64.wrap sx = sx := wr (by omega)
  have w2' : IntKind.i64.wrap sx1 = sx1 := wr (by omega)
  have w3' : IntKind.i64.wrap sy = sy := wr (by omega)
  have w4' : IntKind.i64.wrap sy1 = sy1 := wr (by omega)
  have w5' : IntKind.i64.wrap (A1 : Int) = A1 := wr (by omega)
  have w6' : IntKind.i64.wrap (B1 : Int) = B1 := wr (by omega)
  have w7' : IntKind.i64.wrap (N : Int) = N := wr (by omega)
  have nz1 : ((dxn : Int) = 0) = False := eq_false (by omega)
  have nz2 : ((dyn : Int) = 0) = False := eq_false (by omega)
  go_quiet (fail)
  clear e1 e2 a1 a2 a3 a4 p1 p3 w1 w2' w3' w4' w5' w6' w7' nz1 nz2 hsx hsx1 hsy hsy1 m0 m1 c2 c3
  have p1 : N ≤ 400 := HN400.out
  obtain ⟨m, e1, e2, e3, e4⟩ : ∃ m : Nat, 2 ^ dp = 2 * m ∧ 2 ^ (dp - 1) = m ∧ 1 ≤ m ∧ m ≤ 32768 := by
    obtain ⟨k, rfl⟩ : ∃ k, dp = k + 1 := ⟨dp - 1, by omega⟩
    refine ⟨2 ^ k, by rw [Nat.pow_succ, Nat.mul_comm], rfl, Nat.one_le_two_pow, ?_⟩
    calc 2 ^ k ≤ 2 ^ 15 := Nat.pow_le_pow_right (by omega) (by omega)
      _ = 32768 := rfl
  have hlo : loB dp true = -(m : Nat) := by unfold loB; rw [e2]; rfl
  have hhi : hiB dp true = ((m : Nat) : Int) - 1 := by unfold hiB; first | rw [e1]; rfl | rw [e2]; rfl
  have u1 : IntKind.u64.wrap (dp : Int) = dp := by rw [IntKind.wrap_u64]; omega
  have mn : min dp 64 = dp := by omega
  have e5 : (2 : Int) ^ dp = 2 * (m : Int) := by
    have : (2 : Int) ^ dp = ((2 ^ dp : Nat) : Int) := by simp
    rw [this, e1]; simp
  have q1 : IntKind.i64.wrap (2 ^ dp) = 2 * (m : Int) := by rw [e5]; exact wr (by omega)
  have q2 : IntKind.i64.wrap (2 * (m : Int) - 1) = 2 * (m : Int) - 1 := wr (by omega)
  have HM2 := Lib.hid e2
  have HLO := Lib.hid hlo
  have HHI := Lib.hid hhi
  clear hlo hhi e1 e2 e5
  have hmk := fun u => run_make_row' (P := Try.prog) 32 3 (.int .i64 0) 8 Try.underlying32 int_info12 rfl .i64 .i64 N (by omega) (by omega) u
  have af4 : ∀ t, ((W5.drewN t).alloc (.cells (madeCells #[.int .i64 0] N) 3)).cell? ⟨b, 4, none⟩ = some (.slice none 0 0) := fun t => (World.cell?_of_block (Below.heap_alloc (W5.drewN t) _ b (by show b < W5.heap.size; omega))).trans c4
  have ag4 : ∀ t, ((W5.drewN t).alloc (.cells (madeCells #[.int .i64 0] N) 3)).frozen? ⟨b, 4, none⟩ = false := fun t => (World.frozen?_of_block (a := ⟨b, 4, none⟩) (Below.heap_alloc (W5.drewN t) _ b (by show b < W5.heap.size; omega))).trans f4
  go_wp2_with fail
  have c0' : (W5.drewN nq).cell? ⟨b, 0, none⟩ = some (.int .i64 dp) := c0
  go_quiet (fail)
  go_wp2_with fail
  have u3 : IntKind.i64.wrap ((dp : Int) - 1) = ((dp - 1 : Nat) : Int) := by rw [show (dp : Int) - 1 = ((dp - 1 : Nat) : Int) by omega]; exact wr (by omega)
  have u4 : IntKind.u64.wrap ((dp - 1 : Nat) : Int) = ((dp - 1 : Nat) : Int) := by rw [IntKind.wrap_u64]; omega
  have u5 : (dp : Int) - 1 = ((dp - 1 : Nat) : Int) := by omega
  have u6 : min (dp - 1) 64 = dp - 1 := by omega
  have u8 : IntKind.i64.wrap (2 ^ (dp - 1)) = (m : Int) := by
    rw [show (2 : Int) ^ (dp - 1) = ((2 ^ (dp - 1) : Nat) : Int) by simp, HM2.out]; exact wr (by omega)
  have u9 : IntKind.i64.wrap (0 - (m : Int)) = -(m : Int) := by rw [show (0 : Int) - m = -(m : Int) by omega]; exact wr (by omega)
  have u10 : IntKind.i64.wrap ((m : Int) - 1) = (m : Int) - 1 := wr (by omega)
  generalize dp - 1 = dp1 at *
  go_quiet (fail)
  go_wp2_with fail
  generalize hw7 : World.setCell (World.alloc (World.drewN W5 _) _) _ _ = W7
  have gb7 : W7.heap[b]? = some (.cells #[.int .i64 dp, .bool true, .int .i64 dxn, .int .i64 dyn, .slice (some ⟨q + 2, 0, none⟩) N N] 34 (0, 0)) := by rw [← hw7]; exact heap_set1 ((Below.heap_alloc (W5.drewN _) _ b (by show b < W5.heap.size; omega)).trans gb5) _
  have far : ∀ p, p ≠ b → p < q + 2 → W7.heap[p]? = W5.heap[p]? := fun p hp hp2 => by
    rw [← hw7]
    exact (Below.heap_setCell _ ⟨b, 4, none⟩ _ p hp).trans (Below.heap_alloc (W5.drewN _) _ p (by show p < W5.heap.size; omega))
  have gm7 := (far q (by omega) (by omega)).trans gm5
  have gp7 := (far (q + 1) (by omega) (by omega)).trans gp5
  have hs7 : W7.heap.size = q + 3 := by rw [← hw7]; simp [World.drewN, hs5]
  have hbl7 : Below w.heap.size w W7 := by rw [← hw7]; exact (below_alloc (below_drewN hbl5 _) _).setCell (p := ⟨b, 4, none⟩) hwb _
  have own : OwnI W7 (q + 2) 3 (.slice (some ⟨q + 2, 0, none⟩) N N) N (fun _ => 0) := by
    rw [← hw7, ← hs5]
    refine OwnI.other (OwnI.made (W5.drewN _) W5.heap.size N 3 (Nat.le_refl _) (by omega)) ?_ _
    simp only [Value.ownBlock, ne_eq, Option.some.injEq, World.drewN]
    omega
  clear hw7 far gb5 gm5 gp5 hs5 hbl5 hmk af4 ag4 c4 f4 c0 c0'
  refine (WW.out _).mono ?_
  rintro e w8 ⟨rfl, rfl⟩
  clear WW
  have c4 : W7.cell? ⟨b, 4, none⟩ = some (.slice (some ⟨q + 2, 0, none⟩) N N) := cell_of_row _ _ 4 _ _ (0, 0) gb7
  have f4 : W7.frozen? ⟨b, 4, none⟩ = false := frozen_of_row _ _ 4 _ _ gb7
  obtain ⟨M, rfl⟩ : ∃ M, N = M + 1 := ⟨N - 1, by omega⟩
  have gb9 := heap_set1 (j := 4) gb7 (.slice (some ⟨q + 2, 0, none⟩) M (M + 1))
  have gm9 := (Below.heap_setCell W7 ⟨b, 4, none⟩ (.slice (some ⟨q + 2, 0, none⟩) M (M + 1)) q (by simp only; omega)).trans gm7
  have gp9 := (Below.heap_setCell W7 ⟨b, 4, none⟩ (.slice (some ⟨q + 2, 0, none⟩) M (M + 1)) (q + 1) (by simp only; omega)).trans gp7
  have hb9 := hbl7.setCell (p := ⟨b, 4, none⟩) hwb (.slice (some ⟨q + 2, 0, none⟩) M (M + 1))
  have own9 := own.other (a := ⟨b, 4, none⟩) (by simp only [Value.ownBlock, ne_eq, Option.some.injEq]; omega) (.slice (some ⟨q + 2, 0, none⟩) M (M + 1))
  clear gb7 gm7 gp7 hbl7
  have sw : (((M + 1 : Nat) : Int)) - 1 = M := by omega
  have m0 : (W7.setCell ⟨b, 4, none⟩ (.slice (some ⟨q + 2, 0, none⟩) M (M + 1))).cell? ⟨q, 0, none⟩ = some (.int .i64 Xn) := cell_of_row _ _ 0 _ _ (0, 0) gm9
  have m1 : (W7.setCell ⟨b, 4, none⟩ (.slice (some ⟨q + 2, 0, none⟩) M (M + 1))).cell? ⟨q, 1, none⟩ = some (.int .i64 Yn) := cell_of_row _ _ 1 _ _ (0, 0) gm9
  have m2 : (W7.setCell ⟨b, 4, none⟩ (.slice (some ⟨q + 2, 0, none⟩) M (M + 1))).cell? ⟨q, 2, none⟩ = some (.int .i64 0) := cell_of_row _ _ 2 _ _ (0, 0) gm9
  have m3 : (W7.setCell ⟨b, 4, none⟩ (.slice (some ⟨q + 2, 0, none⟩) M (M + 1))).cell? ⟨q, 3, none⟩ = some (.int .i64 0) := cell_of_row _ _ 3 _ _ (0, 0) gm9
  have m4 : (W7.setCell ⟨b, 4, none⟩ (.slice (some ⟨q + 2, 0, none⟩) M (M + 1))).cell? ⟨q, 4, none⟩ = some (.slice (some ⟨b, 0, none⟩) 1 1) := cell_of_row _ _ 4 _ _ (0, 0) gm9
  have p0 : (W7.setCell ⟨b, 4, none⟩ (.slice (some ⟨q + 2, 0, none⟩) M (M + 1))).cell? ⟨q + 1, 0, none⟩ = some (.int .i64 64) := cell_of_row _ _ 0 _ _ (0, 0) gp9
  have p1 : (W7.setCell ⟨b, 4, none⟩ (.slice (some ⟨q + 2, 0, none⟩) M (M + 1))).cell? ⟨q + 1, 1, none⟩ = some (.int .i64 64) := cell_of_row _ _ 1 _ _ (0, 0) gp9
  have p2 : (W7.setCell ⟨b, 4, none⟩ (.slice (some ⟨q + 2, 0, none⟩) M (M + 1))).cell? ⟨q + 1, 2, none⟩ = some (.int .i64 2) := cell_of_row _ _ 2 _ _ (0, 0) gp9
  have p3 : (W7.setCell ⟨b, 4, none⟩ (.slice (some ⟨q + 2, 0, none⟩) M (M + 1))).cell? ⟨q + 1, 3, none⟩ = some (.int .i64 4) := cell_of_row _ _ 3 _ _ (0, 0) gp9
  have p4 : (W7.setCell ⟨b, 4, none⟩ (.slice (some ⟨q + 2, 0, none⟩) M (M + 1))).cell? ⟨q + 1, 4, none⟩ = some (.int .i64 4) := cell_of_row _ _ 4 _ _ (0, 0) gp9
  have p5 : (W7.setCell ⟨b, 4, none⟩ (.slice (some ⟨q + 2, 0, none⟩) M (M + 1))).cell? ⟨q + 1, 5, none⟩ = some (.int .i64 15) := cell_of_row _ _ 5 _ _ (0, 0) gp9
  have p6 : (W7.setCell ⟨b, 4, none⟩ (.slice (some ⟨q + 2, 0, none⟩) M (M + 1))).cell? ⟨q + 1, 6, none⟩ = some (.int .i64 0) := cell_of_row _ _ 6 _ _ (0, 0) gp9
  have p7 : (W7.setCell ⟨b, 4, none⟩ (.slice (some ⟨q + 2, 0, none⟩) M (M + 1))).cell? ⟨q + 1, 7, none⟩ = some (.int .i64 0) := cell_of_row _ _ 7 _ _ (0, 0) gp9
  have p8 : (W7.setCell ⟨b, 4, none⟩ (.slice (some ⟨q + 2, 0, none⟩) M (M + 1))).cell? ⟨q + 1, 8, none⟩ = some (.int .i64 1) := cell_of_row _ _ 8 _ _ (0, 0) gp9
  have p9 : (W7.setCell ⟨b, 4, none⟩ (.slice (some ⟨q + 2, 0, none⟩) M (M + 1))).cell? ⟨q + 1, 9, none⟩ = some (.bool false) := cell_of_row _ _ 9 _ _ (0, 0) gp9
  have p10 : (W7.setCell ⟨b, 4, none⟩ (.slice (some ⟨q + 2, 0, none⟩) M (M + 1))).cell? ⟨q + 1, 10, none⟩ = some (.bool false) := cell_of_row _ _ 10 _ _ (0, 0) gp9
  have p11 : (W7.setCell ⟨b, 4, none⟩ (.slice (some ⟨q + 2, 0, none⟩) M (M + 1))).cell? ⟨q + 1, 11, none⟩ = some (.bool false) := cell_of_row _ _ 11 _ _ (0, 0) gp9
  have hc9 : CompsAt (W7.setCell ⟨b, 4, none⟩ (.slice (some ⟨q + 2, 0, none⟩) M (M + 1))) (W7.setCell ⟨b, 4, none⟩ (.slice (some ⟨q + 2, 0, none⟩) M (M + 1))).heap.size (some ⟨b, 0, none⟩) 1 (fun _ => ⟨dp, true, dxn, dyn, some ⟨q + 2, 0, none⟩, M, (M + 1)⟩) := comps1' gb9 (Array.getElem?_eq_some_iff.1 gb9).1 rfl
  have CK := check_any Xn Yn 0 0 (some ⟨b, 0, none⟩) 1 1 (fun _ => ⟨dp, true, dxn, dyn, some ⟨q + 2, 0, none⟩, M, (M + 1)⟩) (fun _ => (fun _ => 0)) 64 64 2 4 4 15 0 0 1 false false false (W7.setCell ⟨b, 4, none⟩ (.slice (some ⟨q + 2, 0, none⟩) M (M + 1))) hc9 (by omega) (fun _ _ => own9.ints.less (show M ≤ M + 1 by omega)) (fun _ _ => by simp only; omega)
  have ce : checkE Xn Yn 0 0 1 (fun _ => ⟨dp, true, dxn, dyn, some ⟨q + 2, 0, none⟩, M, (M + 1)⟩) (fun _ => (fun _ => 0)) 64 64 2 4 4 15 0 0 1 false = 7 := by
    rw [samp_ck true _ _ _ _ x3 y3 z3 z6 z9, HAR.out]
    rw [if_neg (by omega)]
  rw [ce] at CK
  unfold imgV parV at CK
  have CK := Lib.hid CK
  clear ce hc9 gb9 gm9 gp9
  try go_wp2_with fail
  refine CK.out.mono ?_
  rintro e w10 ⟨rfl, hb10⟩
  go_wp2_with fail
  go_ret
  exact ⟨rfl, below_trans hb9 hb10⟩
theorem samples_2_true (x y dx dy depth which : Int) (hk : which % 6 = 2) (w : World) : Calls Try.prog 6 #[.int .i64 x, .int .i64 y, .int .i64 dx, .int .i64 dy, .int .i64 depth, .bool true, .int .i64 which] w fun e w' => e = .returned (.bool true) ∧ Below w.heap.size w w' := by
  have WW := Lib.hid (fun (v : World) => by have := within12 which 6 (by omega) (by omega) v; rw [hk] at this; exact this)
  have W20 := Lib.hid (fun (a : Int) (v : World) => within12e a 20 (by omega) (by omega) v)
  have W4_ := Lib.hid (fun (a : Int) (v : World) => within12e a 4 (by omega) (by omega) v)
  have W16 := Lib.hid (fun (a : Int) (v : World) => within12e a 16 (by omega) (by omega) v)
  clear hk
  go_enter Try.func6, Try.ntmps6
  go_wp2_with fail
  refine (known12 _).mono ?_
  rintro e w1 ⟨rfl, hb1⟩
  go_wp2_with fail
  refine (W20.out _ _).mono ?_
  rintro e w1' ⟨vx, x1, x2, rfl, rfl⟩
  go_wp2_with fail
  refine (W20.out _ _).mono ?_
  rintro e w1' ⟨vy, y1, y2, rfl, rfl⟩
  obtain ⟨Xn, hXn⟩ : ∃ Xn : Nat, 1 + vx = Xn := Int.eq_ofNat_of_zero_le (by omega)
  obtain ⟨Yn, hYn⟩ : ∃ Yn : Nat, 1 + vy = Yn := Int.eq_ofNat_of_zero_le (by omega)
  have x3 : 1 ≤ Xn ∧ Xn ≤ 20 := by omega
  have y3 : 1 ≤ Yn ∧ Yn ≤ 20 := by omega
  go_wp2_with fail
  refine (one_any Xn Yn 0 0 _).mono ?_
  clear hXn hYn x1 x2 y1 y2 W20
  rintro e w2 ⟨b, rfl, gb, hbb, hb2⟩
  unfold parV
  have hbl := below_trans hb1 hb2
  have hlt : b < w2.heap.size := (Array.getElem?_eq_some_iff.1 gb).1
  have hws := hbl.size
  have hwb := Nat.le_trans hb1.size hbb
  clear hb1 hb2 hbb
  go_wp2_with fail
  generalize hw3 : World.alloc (World.alloc w2 _) _ = W3
  have gm3 : W3.heap[w2.heap.size]? = some (.cells #[.int .i64 Xn, .int .i64 Yn, .int .i64 0, .int .i64 0, .slice (some ⟨b, 0, none⟩) 1 1] 25 (0, 0)) := by rw [← hw3]; exact (Below.heap_alloc _ _ _ (by simp)).trans (heap_alloc_new w2 _)
  have gp3 : W3.heap[w2.heap.size + 1]? = some (.cells #[.int .i64 64, .int .i64 64, .int .i64 2, .int .i64 4, .int .i64 4, .int .i64 15, .int .i64 0, .int .i64 0, .int .i64 1, .bool false, .bool false, .bool false] 27 (0, 0)) := by rw [← hw3]; exact heap_alloc_new2 w2 _ _
  have gb3 : W3.heap[b]? = some (.cells #[.int .i64 8, .bool false, .int .i64 1, .int .i64 1, .slice none 0 0] 34 (0, 0)) := by rw [← hw3]; exact (Below.heap_alloc _ _ _ (by simp; omega)).trans ((Below.heap_alloc _ _ _ (by omega)).trans gb)
  have hs3 : W3.heap.size = w2.heap.size + 2 := by rw [← hw3]; simp
  have hbl3 : Below w.heap.size w W3 := by rw [← hw3]; exact below_alloc (below_alloc hbl _) _
  obtain ⟨q, hq⟩ : ∃ q, w2.heap.size = q := ⟨_, rfl⟩
  clear hw3 gb hbl
  rw [hq] at gm3 gp3 hs3 hws hlt
  rw [hq]
  clear hq
  have c0 : W3.cell? ⟨b, 0, none⟩ = some (.int .i64 8) := cell_of_row _ _ 0 _ _ (0, 0) gb3
  have c1 : W3.cell? ⟨b, 1, none⟩ = some (.bool false) := cell_of_row _ _ 1 _ _ (0, 0) gb3
  have c2 : W3.cell? ⟨b, 2, none⟩ = some (.int .i64 1) := cell_of_row _ _ 2 _ _ (0, 0) gb3
  have c3 : W3.cell? ⟨b, 3, none⟩ = some (.int .i64 1) := cell_of_row _ _ 3 _ _ (0, 0) gb3
  have fb : ∀ j, W3.frozen? ⟨b, j, none⟩ = false := fun j => frozen_of_row _ _ j _ _ gb3
  refine (W4_.out _ _).mono ?_
  rintro e w4 ⟨vdx, z1, z2, rfl, rfl⟩
  obtain ⟨dxn, hdx⟩ : ∃ d : Nat, 1 + vdx = d := Int.eq_ofNat_of_zero_le (by omega)
  have z3 : 1 ≤ dxn ∧ dxn ≤ 4 := by omega
  go_wp2_with fail
  refine (W4_.out _ _).mono ?_
  rintro e w4 ⟨vdy, z4, z5, rfl, rfl⟩
  obtain ⟨dyn, hdy⟩ : ∃ d : Nat, 1 + vdy = d := Int.eq_ofNat_of_zero_le (by omega)
  have z6 : 1 ≤ dyn ∧ dyn ≤ 4 := by omega
  go_wp2_with fail
  refine (W16.out _ _).mono ?_
  rintro e w4 ⟨vdp, z7, z8, rfl, rfl⟩
  obtain ⟨dp, hdp⟩ : ∃ d : Nat, 1 + vdp = d := Int.eq_ofNat_of_zero_le (by omega)
  have z9 : 1 ≤ dp ∧ dp ≤ 16 := by omega
  go_wp2_with fail
  clear hdx hdy hdp z1 z2 z4 z5 z7 z8 c0 c1 c2 c3 fb W4_ W16
  generalize hw5 : World.setCell (World.setCell (World.setCell (World.setCell W3 _ _) _ _) _ _) _ _ = W5
  have gb5 : W5.heap[b]? = some (.cells #[.int .i64 dp, .bool true, .int .i64 dxn, .int .i64 dyn, .slice none 0 0] 34 (0, 0)) := by rw [← hw5]; exact heap_set1 (heap_set1 (heap_set1 (heap_set1 gb3 _) _) _) _
  have far : ∀ p, p ≠ b → W5.heap[p]? = W3.heap[p]? := fun p hp => by
    rw [← hw5]
    exact (Below.heap_setCell _ ⟨b, 1, none⟩ _ p hp).trans ((Below.heap_setCell _ ⟨b, 0, none⟩ _ p hp).trans ((Below.heap_setCell _ ⟨b, 3, none⟩ _ p hp).trans (Below.heap_setCell _ ⟨b, 2, none⟩ _ p hp)))
  have gm5 := (far q (by omega)).trans gm3
  have gp5 := (far (q + 1) (by omega)).trans gp3
  have hs5 : W5.heap.size = q + 2 := by rw [← hw5]; simp [hs3]
  have hbl5 : Below w.heap.size w W5 := by rw [← hw5]; exact (((hbl3.setCell (p := ⟨b, 2, none⟩) hwb _).setCell (p := ⟨b, 3, none⟩) hwb _).setCell (p := ⟨b, 0, none⟩) hwb _).setCell (p := ⟨b, 1, none⟩) hwb _
  clear hw5 far gb3 gm3 gp3 hs3 hbl3
  have c0 : W5.cell? ⟨b, 0, none⟩ = some (.int .i64 dp) := cell_of_row _ _ 0 _ _ (0, 0) gb5
  have c2 : W5.cell? ⟨b, 2, none⟩ = some (.int .i64 dxn) := cell_of_row _ _ 2 _ _ (0, 0) gb5
  have c3 : W5.cell? ⟨b, 3, none⟩ = some (.int .i64 dyn) := cell_of_row _ _ 3 _ _ (0, 0) gb5
  have c4 : W5.cell? ⟨b, 4, none⟩ = some (.slice none 0 0) := cell_of_row _ _ 4 _ _ (0, 0) gb5
  have f4 : W5.frozen? ⟨b, 4, none⟩ = false := frozen_of_row _ _ 4 _ _ gb5
  have m0 : W5.cell? ⟨q, 0, none⟩ = some (.int .i64 Xn) := cell_of_row _ _ 0 _ _ (0, 0) gm5
  have m1 : W5.cell? ⟨q, 1, none⟩ = some (.int .i64 Yn) := cell_of_row _ _ 1 _ _ (0, 0) gm5
  have e1 : ((Xn : Int) + dxn - 1).tdiv dxn = ((byN Xn dxn : Nat) : Int) := by
    rw [show (Xn : Int) + dxn - 1 = ((Xn + dxn - 1 : Nat) : Int) by omega]; rfl
  have e2 : ((Yn : Int) + dyn - 1).tdiv dyn = ((byN Yn dyn : Nat) : Int) := by
    rw [show (Yn : Int) + dyn - 1 = ((Yn + dyn - 1 : Nat) : Int) by omega]; rfl
  have a1 : byN Xn dxn ≤ Xn := byN_le (by omega)
  have a2 : byN Yn dyn ≤ Yn := byN_le (by omega)
  have a3 : 1 ≤ byN Xn dxn := (Nat.le_div_iff_mul_le (by omega)).2 (by omega)
  have a4 : 1 ≤ byN Yn dyn := (Nat.le_div_iff_mul_le (by omega)).2 (by omega)
  have har : areaN Xn Yn 0 0 dxn dyn = byN Xn dxn * byN Yn dyn := by
    unfold areaN
    have h0 : ∀ d, 1 ≤ d → byN 0 d = 0 := fun d hd => by unfold byN; exact Nat.div_eq_of_lt (by omega)
    rw [h0 _ (by omega), h0 _ (by omega), Nat.sub_zero, Nat.sub_zero]
  generalize byN Xn dxn = A1 at *
  generalize byN Yn dyn = B1 at *
  have p1 : A1 * B1 ≤ 20 * 20 := Nat.mul_le_mul (by omega) (by omega)
  have p2 : 1 ≤ A1 * B1 := Nat.mul_pos (by omega) (by omega)
  have p3 : (A1 : Int) * B1 = ((A1 * B1 : Nat) : Int) := by simp
  generalize A1 * B1 = N at *
  have HN400 := Lib.hid (show N ≤ 400 from p1)
  have HAR := Lib.hid har
  clear har
  obtain ⟨sx, hsx⟩ : ∃ s, (Xn : Int) + dxn = s := ⟨_, rfl⟩
  obtain ⟨sx1, hsx1⟩ : ∃ t, sx - 1 = t := ⟨_, rfl⟩
  obtain ⟨sy, hsy⟩ : ∃ s, (Yn : Int) + dyn = s := ⟨_, rfl⟩
  obtain ⟨sy1, hsy1⟩ : ∃ t, sy - 1 = t := ⟨_, rfl⟩
  rw [hsx, hsx1] at e1
  rw [hsy, hsy1] at e2
  have w1 : IntKind.i64.wrap sx = sx := wr (by omega)
  have w2' : IntKind.i64.wrap sx1 = sx1 := wr (by omega)
  have w3' : IntKind.i64.wrap sy = sy := wr (by omega)
  have w4' : IntKind.i64.wrap sy1 = sy1 := wr (by omega)
  have w5' : IntKind.i64.wrap (A1 : Int) = A1 := wr (by omega)
  have w6' : IntKind.i64.wrap (B1 : Int) = B1 := wr (by omega)
  have w7' : IntKind.i64.wrap (N : Int) = N := wr (by omega)
  have nz1 : ((dxn : Int) = 0) = False := eq_false (by omega)
  have nz2 : ((dyn : Int) = 0) = False := eq_false (by omega)
  go_quiet (fail)
  clear e1 e2 a1 a2 a3 a4 p1 p3 w1 w2' w3' w4' w5' w6' w7' nz1 nz2 hsx hsx1 hsy hsy1 m0 m1 c2 c3
  have p1 : N ≤ 400 := HN400.out
  obtain ⟨m, e1, e2, e3, e4⟩ : ∃ m : Nat, 2 ^ dp = 2 * m ∧ 2 ^ (dp - 1) = m ∧ 1 ≤ m ∧ m ≤ 32768 := by
    obtain ⟨k, rfl⟩ : ∃ k, dp = k + 1 := ⟨dp - 1, by omega⟩
    refine ⟨2 ^ k, by rw [Nat.pow_succ, Nat.mul_comm], rfl, Nat.one_le_two_pow, ?_⟩
    calc 2 ^ k ≤ 2 ^ 15 := Nat.pow_le_pow_right (by omega) (by omega)
      _ = 32768 := rfl
  have hlo : loB dp true = -(m : Nat) := by unfold loB; rw [e2]; rfl
  have hhi : hiB dp true = ((m : Nat) : Int) - 1 := by unfold hiB; first | rw [e1]; rfl | rw [e2]; rfl
  have u1 : IntKind.u64.wrap (dp : Int) = dp := by rw [IntKind.wrap_u64]; omega
  have mn : min dp 64 = dp := by omega
  have e5 : (2 : Int) ^ dp = 2 * (m : Int) := by
    have : (2 : Int) ^ dp = ((2 ^ dp : Nat) : Int) := by simp
    rw [this, e1]; simp
  have q1 : IntKind.i64.wrap (2 ^ dp) = 2 * (m : Int) := by rw [e5]; exact wr (by omega)
  have q2 : IntKind.i64.wrap (2 * (m : Int) - 1) = 2 * (m : Int) - 1 := wr (by omega)
  have HM2 := Lib.hid e2
  have HLO := Lib.hid hlo
  have HHI := Lib.hid hhi
  clear hlo hhi e1 e2 e5
  have hmk := fun u => run_make_row' (P := Try.prog) 32 3 (.int .i64 0) 8 Try.underlying32 int_info12 rfl .i64 .i64 N (by omega) (by omega) u
  have af4 : ∀ t, ((W5.drewN t).alloc (.cells (madeCells #[.int .i64 0] N) 3)).cell? ⟨b, 4, none⟩ = some (.slice none 0 0) := fun t => (World.cell?_of_block (Below.heap_alloc (W5.drewN t) _ b (by show b < W5.heap.size; omega))).trans c4
  have ag4 : ∀ t, ((W5.drewN t).alloc (.cells (madeCells #[.int .i64 0] N) 3)).frozen? ⟨b, 4, none⟩ = false := fun t => (World.frozen?_of_block (a := ⟨b, 4, none⟩) (Below.heap_alloc (W5.drewN t) _ b (by show b < W5.heap.size; omega))).trans f4
  go_wp2_with fail
  have c0' : (W5.drewN nq).cell? ⟨b, 0, none⟩ = some (.int .i64 dp) := c0
  go_quiet (fail)
  go_wp2_with fail
  have u3 : IntKind.i64.wrap ((dp : Int) - 1) = ((dp - 1 : Nat) : Int) := by rw [show (dp : Int) - 1 = ((dp - 1 : Nat) : Int) by omega]; exact wr (by omega)
  have u4 : IntKind.u64.wrap ((dp - 1 : Nat) : Int) = ((dp - 1 : Nat) : Int) := by rw [IntKind.wrap_u64]; omega
  have u5 : (dp : Int) - 1 = ((dp - 1 : Nat) : Int) := by omega
  have u6 : min (dp - 1) 64 = dp - 1 := by omega
  have u8 : IntKind.i64.wrap (2 ^ (dp - 1)) = (m : Int) := by
    rw [show (2 : Int) ^ (dp - 1) = ((2 ^ (dp - 1) : Nat) : Int) by simp, HM2.out]; exact wr (by omega)
  have u9 : IntKind.i64.wrap (0 - (m : Int)) = -(m : Int) := by rw [show (0 : Int) - m = -(m : Int) by omega]; exact wr (by omega)
  have u10 : IntKind.i64.wrap ((m : Int) - 1) = (m : Int) - 1 := wr (by omega)
  generalize dp - 1 = dp1 at *
  go_quiet (fail)
  go_wp2_with fail
  generalize hw7 : World.setCell (World.alloc (World.drewN W5 _) _) _ _ = W7
  have gb7 : W7.heap[b]? = some (.cells #[.int .i64 dp, .bool true, .int .i64 dxn, .int .i64 dyn, .slice (some ⟨q + 2, 0, none⟩) N N] 34 (0, 0)) := by rw [← hw7]; exact heap_set1 ((Below.heap_alloc (W5.drewN _) _ b (by show b < W5.heap.size; omega)).trans gb5) _
  have far : ∀ p, p ≠ b → p < q + 2 → W7.heap[p]? = W5.heap[p]? := fun p hp hp2 => by
    rw [← hw7]
    exact (Below.heap_setCell _ ⟨b, 4, none⟩ _ p hp).trans (Below.heap_alloc (W5.drewN _) _ p (by show p < W5.heap.size; omega))
  have gm7 := (far q (by omega) (by omega)).trans gm5
  have gp7 := (far (q + 1) (by omega) (by omega)).trans gp5
  have hs7 : W7.heap.size = q + 3 := by rw [← hw7]; simp [World.drewN, hs5]
  have hbl7 : Below w.heap.size w W7 := by rw [← hw7]; exact (below_alloc (below_drewN hbl5 _) _).setCell (p := ⟨b, 4, none⟩) hwb _
  have own : OwnI W7 (q + 2) 3 (.slice (some ⟨q + 2, 0, none⟩) N N) N (fun _ => 0) := by
    rw [← hw7, ← hs5]
    refine OwnI.other (OwnI.made (W5.drewN _) W5.heap.size N 3 (Nat.le_refl _) (by omega)) ?_ _
    simp only [Value.ownBlock, ne_eq, Option.some.injEq, World.drewN]
    omega
  clear hw7 far gb5 gm5 gp5 hs5 hbl5 hmk af4 ag4 c4 f4 c0 c0'
  refine (WW.out _).mono ?_
  rintro e w8 ⟨rfl, rfl⟩
  clear WW
  have c4 : W7.cell? ⟨b, 4, none⟩ = some (.slice (some ⟨q + 2, 0, none⟩) N N) := cell_of_row _ _ 4 _ _ (0, 0) gb7
  have f4 : W7.frozen? ⟨b, 4, none⟩ = false := frozen_of_row _ _ 4 _ _ gb7
  obtain ⟨vv, hvv⟩ : ∃ v : Int, (((m : Int) - 1) + 1) = v := ⟨_, rfl⟩
  obtain ⟨M, rfl⟩ : ∃ M, N = M + 1 := ⟨N - 1, by omega⟩
  have own9 := own.stored M vv
  have gb9 := (Below.heap_setCell W7 ⟨q + 2, M, none⟩ (.int .i64 vv) b (by simp only; omega)).trans gb7
  have gm9 := (Below.heap_setCell W7 ⟨q + 2, M, none⟩ (.int .i64 vv) q (by simp only; omega)).trans gm7
  have gp9 := (Below.heap_setCell W7 ⟨q + 2, M, none⟩ (.int .i64 vv) (q + 1) (by simp only; omega)).trans gp7
  have hb9 := hbl7.setCell (p := ⟨q + 2, M, none⟩) (by simp only; omega) (.int .i64 vv)
  have cd : W7.cell? ⟨q + 2, M, none⟩ = some (.int .i64 0) := own.cell (by omega)
  have fd : W7.frozen? ⟨q + 2, M, none⟩ = false := own.frozen _
  clear gb7 gm7 gp7 hbl7
  have sw : (((M + 1 : Nat) : Int)) - 1 = M := by omega
  have sn : ((M : Nat) : Int).toNat = M := by omega
  have m0 : (W7.setCell ⟨q + 2, M, none⟩ (.int .i64 vv)).cell? ⟨q, 0, none⟩ = some (.int .i64 Xn) := cell_of_row _ _ 0 _ _ (0, 0) gm9
  have m1 : (W7.setCell ⟨q + 2, M, none⟩ (.int .i64 vv)).cell? ⟨q, 1, none⟩ = some (.int .i64 Yn) := cell_of_row _ _ 1 _ _ (0, 0) gm9
  have m2 : (W7.setCell ⟨q + 2, M, none⟩ (.int .i64 vv)).cell? ⟨q, 2, none⟩ = some (.int .i64 0) := cell_of_row _ _ 2 _ _ (0, 0) gm9
  have m3 : (W7.setCell ⟨q + 2, M, none⟩ (.int .i64 vv)).cell? ⟨q, 3, none⟩ = some (.int .i64 0) := cell_of_row _ _ 3 _ _ (0, 0) gm9
  have m4 : (W7.setCell ⟨q + 2, M, none⟩ (.int .i64 vv)).cell? ⟨q, 4, none⟩ = some (.slice (some ⟨b, 0, none⟩) 1 1) := cell_of_row _ _ 4 _ _ (0, 0) gm9
  have p0 : (W7.setCell ⟨q + 2, M, none⟩ (.int .i64 vv)).cell? ⟨q + 1, 0, none⟩ = some (.int .i64 64) := cell_of_row _ _ 0 _ _ (0, 0) gp9
  have p1 : (W7.setCell ⟨q + 2, M, none⟩ (.int .i64 vv)).cell? ⟨q + 1, 1, none⟩ = some (.int .i64 64) := cell_of_row _ _ 1 _ _ (0, 0) gp9
  have p2 : (W7.setCell ⟨q + 2, M, none⟩ (.int .i64 vv)).cell? ⟨q + 1, 2, none⟩ = some (.int .i64 2) := cell_of_row _ _ 2 _ _ (0, 0) gp9
  have p3 : (W7.setCell ⟨q + 2, M, none⟩ (.int .i64 vv)).cell? ⟨q + 1, 3, none⟩ = some (.int .i64 4) := cell_of_row _ _ 3 _ _ (0, 0) gp9
  have p4 : (W7.setCell ⟨q + 2, M, none⟩ (.int .i64 vv)).cell? ⟨q + 1, 4, none⟩ = some (.int .i64 4) := cell_of_row _ _ 4 _ _ (0, 0) gp9
  have p5 : (W7.setCell ⟨q + 2, M, none⟩ (.int .i64 vv)).cell? ⟨q + 1, 5, none⟩ = some (.int .i64 15) := cell_of_row _ _ 5 _ _ (0, 0) gp9
  have p6 : (W7.setCell ⟨q + 2, M, none⟩ (.int .i64 vv)).cell? ⟨q + 1, 6, none⟩ = some (.int .i64 0) := cell_of_row _ _ 6 _ _ (0, 0) gp9
  have p7 : (W7.setCell ⟨q + 2, M, none⟩ (.int .i64 vv)).cell? ⟨q + 1, 7, none⟩ = some (.int .i64 0) := cell_of_row _ _ 7 _ _ (0, 0) gp9
  have p8 : (W7.setCell ⟨q + 2, M, none⟩ (.int .i64 vv)).cell? ⟨q + 1, 8, none⟩ = some (.int .i64 1) := cell_of_row _ _ 8 _ _ (0, 0) gp9
  have p9 : (W7.setCell ⟨q + 2, M, none⟩ (.int .i64 vv)).cell? ⟨q + 1, 9, none⟩ = some (.bool false) := cell_of_row _ _ 9 _ _ (0, 0) gp9
  have p10 : (W7.setCell ⟨q + 2, M, none⟩ (.int .i64 vv)).cell? ⟨q + 1, 10, none⟩ = some (.bool false) := cell_of_row _ _ 10 _ _ (0, 0) gp9
  have p11 : (W7.setCell ⟨q + 2, M, none⟩ (.int .i64 vv)).cell? ⟨q + 1, 11, none⟩ = some (.bool false) := cell_of_row _ _ 11 _ _ (0, 0) gp9
  have hc9 : CompsAt (W7.setCell ⟨q + 2, M, none⟩ (.int .i64 vv)) (W7.setCell ⟨q + 2, M, none⟩ (.int .i64 vv)).heap.size (some ⟨b, 0, none⟩) 1 (fun _ => ⟨dp, true, dxn, dyn, some ⟨q + 2, 0, none⟩, (M + 1), (M + 1)⟩) := comps1' gb9 (Array.getElem?_eq_some_iff.1 gb9).1 rfl
  have CK := check_any Xn Yn 0 0 (some ⟨b, 0, none⟩) 1 1 (fun _ => ⟨dp, true, dxn, dyn, some ⟨q + 2, 0, none⟩, (M + 1), (M + 1)⟩) (fun _ => (fun k => if k = M then vv else 0)) 64 64 2 4 4 15 0 0 1 false false false (W7.setCell ⟨q + 2, M, none⟩ (.int .i64 vv)) hc9 (by omega) (fun _ _ => own9.ints) (fun _ _ => by simp only; omega)
  have ce : checkE Xn Yn 0 0 1 (fun _ => ⟨dp, true, dxn, dyn, some ⟨q + 2, 0, none⟩, (M + 1), (M + 1)⟩) (fun _ => (fun k => if k = M then vv else 0)) 64 64 2 4 4 15 0 0 1 false = 11 := by
    rw [samp_ck true _ _ _ _ x3 y3 z3 z6 z9, HAR.out]
    rw [if_pos rfl, if_neg (by rw [sampOk_bad (i := M) (by omega) (inB_false.2 (by rw [HLO.out, HHI.out]; simp only [if_true]; omega))]; decide)]
  rw [ce] at CK
  unfold imgV parV at CK
  have CK := Lib.hid CK
  clear ce hc9 gb9 gm9 gp9
  try go_wp2_with fail
  refine CK.out.mono ?_
  rintro e w10 ⟨rfl, hb10⟩
  go_wp2_with fail
  go_ret
  exact ⟨rfl, below_trans hb9 hb10⟩
theorem samples_3_true (x y dx dy depth which : Int) (hk : which % 6 = 3) (w : World) : Calls Try.prog 6 #[.int .i64 x, .int .i64 y, .int .i64 dx, .int .i64 dy, .int .i64 depth, .bool true, .int .i64 which] w fun e w' => e = .returned (.bool true) ∧ Below w.heap.size w w' := by
  have WW := Lib.hid (fun (v : World) => by have := within12 which 6 (by omega) (by omega) v; rw [hk] at this; exact this)
  have W20 := Lib.hid (fun (a : Int) (v : World) => within12e a 20 (by omega) (by omega) v)
  have W4_ := Lib.hid (fun (a : Int) (v : World) => within12e a 4 (by omega) (by omega) v)
  have W16 := Lib.hid (fun (a : Int) (v : World) => within12e a 16 (by omega) (by omega) v)
  clear hk
  go_enter Try.func6, Try.ntmps6
  go_wp2_with fail
  refine (known12 _).mono ?_
  rintro e w1 ⟨rfl, hb1⟩
  go_wp2_with fail
  refine (W20.out _ _).mono ?_
  rintro e w1' ⟨vx, x1, x2, rfl, rfl⟩
  go_wp2_with fail
  refine (W20.out _ _).mono ?_
  rintro e w1' ⟨vy, y1, y2, rfl, rfl⟩
  obtain ⟨Xn, hXn⟩ : ∃ Xn : Nat, 1 + vx = Xn := Int.eq_ofNat_of_zero_le (by omega)
  obtain ⟨Yn, hYn⟩ : ∃ Yn : Nat, 1 + vy = Yn := Int.eq_ofNat_of_zero_le (by omega)
  have x3 : 1 ≤ Xn ∧ Xn ≤ 20 := by omega
  have y3 : 1 ≤ Yn ∧ Yn ≤ 20 := by omega
  go_wp2_with fail
  refine (one_any Xn Yn 0 0 _).mono ?_
  clear hXn hYn x1 x2 y1 y2 W20
  rintro e w2 ⟨b, rfl, gb, hbb, hb2⟩
  unfold parV
  have hbl := below_trans hb1 hb2
  have hlt : b < w2.heap.size := (Array.getElem?_eq_some_iff.1 gb).1
  have hws := hbl.size
  have hwb := Nat.le_trans hb1.size hbb
  clear hb1 hb2 hbb
  go_wp2_with fail
  generalize hw3 : World.alloc (World.alloc w2 _) _ = W3
  have gm3 : W3.heap[w2.heap.size]? = some (.cells #[.int .i64 Xn, .int .i64 Yn, .int .i64 0, .int .i64 0, .slice (some ⟨b, 0, none⟩) 1 1] 25 (0, 0)) := by rw [← hw3]; exact (Below.heap_alloc _ _ _ (by simp)).trans (heap_alloc_new w2 _)
  have gp3 : W3.heap[w2.heap.size + 1]? = some (.cells #[.int .i64 64, .int .i64 64, .int .i64 2, .int .i64 4, .int .i64 4, .int .i64 15, .int .i64 0, .int .i64 0, .int .i64 1, .bool false, .bool false, .bool false] 27 (0, 0)) := by rw [← hw3]; exact heap_alloc_new2 w2 _ _
  have gb3 : W3.heap[b]? = some (.cells #[.int .i64 8, .bool false, .int .i64 1, .int .i64 1, .slice none 0 0] 34 (0, 0)) := by rw [← hw3]; exact (Below.heap_alloc _ _ _ (by simp; omega)).trans ((Below.heap_alloc _ _ _ (by omega)).trans gb)
  have hs3 : W3.heap.size = w2.heap.size + 2 := by rw [← hw3]; simp
  have hbl3 : Below w.heap.size w W3 := by rw [← hw3]; exact below_alloc (below_alloc hbl _) _
  obtain ⟨q, hq⟩ : ∃ q, w2.heap.size = q := ⟨_, rfl⟩
  clear hw3 gb hbl
  rw [hq] at gm3 gp3 hs3 hws hlt
  rw [hq]
  clear hq
  have c0 : W3.cell? ⟨b, 0, none⟩ = some (.int .i64 8) := cell_of_row _ _ 0 _ _ (0, 0) gb3
  have c1 : W3.cell? ⟨b, 1, none⟩ = some (.bool false) := cell_of_row _ _ 1 _ _ (0, 0) gb3
  have c2 : W3.cell? ⟨b, 2, none⟩ = some (.int .i64 1) := cell_of_row _ _ 2 _ _ (0, 0) gb3
  have c3 : W3.cell? ⟨b, 3, none⟩ = some (.int .i64 1) := cell_of_row _ _ 3 _ _ (0, 0) gb3
  have fb : ∀ j, W3.frozen? ⟨b, j, none⟩ = false := fun j => frozen_of_row _ _ j _ _ gb3
  refine (W4_.out _ _).mono ?_
  rintro e w4 ⟨vdx, z1, z2, rfl, rfl⟩
  obtain ⟨dxn, hdx⟩ : ∃ d : Nat, 1 + vdx = d := Int.eq_ofNat_of_zero_le (by omega)
  have z3 : 1 ≤ dxn ∧ dxn ≤ 4 := by omega
  go_wp2_with fail
  refine (W4_.out _ _).mono ?_
  rintro e w4 ⟨vdy, z4, z5, rfl, rfl⟩
  obtain ⟨dyn, hdy⟩ : ∃ d : Nat, 1 + vdy = d := Int.eq_ofNat_of_zero_le (by omega)
  have z6 : 1 ≤ dyn ∧ dyn ≤ 4 := by omega
  go_wp2_with fail
  refine (W16.out _ _).mono ?_
  rintro e w4 ⟨vdp, z7, z8, rfl, rfl⟩
  obtain ⟨dp, hdp⟩ : ∃ d : Nat, 1 + vdp = d := Int.eq_ofNat_of_zero_le (by omega)
  have z9 : 1 ≤ dp ∧ dp ≤ 16 := by omega
  go_wp2_with fail
  clear hdx hdy hdp z1 z2 z4 z5 z7 z8 c0 c1 c2 c3 fb W4_ W16
  generalize hw5 : World.setCell (World.setCell (World.setCell (World.setCell W3 _ _) _ _) _ _) _ _ = W5
  have gb5 : W5.heap[b]? = some (.cells #[.int .i64 dp, .bool true, .int .i64 dxn, .int .i64 dyn, .slice none 0 0] 34 (0, 0)) := by rw [← hw5]; exact heap_set1 (heap_set1 (heap_set1 (heap_set1 gb3 _) _) _) _
  have far : ∀ p, p ≠ b → W5.heap[p]? = W3.heap[p]? := fun p hp => by
    rw [← hw5]
    exact (Below.heap_setCell _ ⟨b, 1, none⟩ _ p hp).trans ((Below.heap_setCell _ ⟨b, 0, none⟩ _ p hp).trans ((Below.heap_setCell _ ⟨b, 3, none⟩ _ p hp).trans (Below.heap_setCell _ ⟨b, 2, none⟩ _ p hp)))
  have gm5 := (far q (by omega)).trans gm3
  have gp5 := (far (q + 1) (by omega)).trans gp3
  have hs5 : W5.heap.size = q + 2 := by rw [← hw5]; simp [hs3]
  have hbl5 : Below w.heap.size w W5 := by rw [← hw5]; exact (((hbl3.setCell (p := ⟨b, 2, none⟩) hwb _).setCell (p := ⟨b, 3, none⟩) hwb _).setCell (p := ⟨b, 0, none⟩) hwb _).setCell (p := ⟨b, 1, none⟩) hwb _
  clear hw5 far gb3 gm3 gp3 hs3 hbl3
  have c0 : W5.cell? ⟨b, 0, none⟩ = some (.int .i64 dp) := cell_of_row _ _ 0 _ _ (0, 0) gb5
  have c2 : W5.cell? ⟨b, 2, none⟩ = some (.int .i64 dxn) := cell_of_row _ _ 2 _ _ (0, 0) gb5
  have c3 : W5.cell? ⟨b, 3, none⟩ = some (.int .i64 dyn) := cell_of_row _ _ 3 _ _ (0, 0) gb5
  have c4 : W5.cell? ⟨b, 4, none⟩ = some (.slice none 0 0) := cell_of_row _ _ 4 _ _ (0, 0) gb5
  have f4 : W5.frozen? ⟨b, 4, none⟩ = false := frozen_of_row _ _ 4 _ _ gb5
  have m0 : W5.cell? ⟨q, 0, none⟩ = some (.int .i64 Xn) := cell_of_row _ _ 0 _ _ (0, 0) gm5
  have m1 : W5.cell? ⟨q, 1, none⟩ = some (.int .i64 Yn) := cell_of_row _ _ 1 _ _ (0, 0) gm5
  have e1 : ((Xn : Int) + dxn - 1).tdiv dxn = ((byN Xn dxn : Nat) : Int) := by
    rw [show (Xn : Int) + dxn - 1 = ((Xn + dxn - 1 : Nat) : Int) by omega]; rfl
  have e2 : ((Yn : Int) + dyn - 1).tdiv dyn = ((byN Yn dyn : Nat) : Int) := by
    rw [show (Yn : Int) + dyn - 1 = ((Yn + dyn - 1 : Nat) : Int) by omega]; rfl
  have a1 : byN Xn dxn ≤ Xn := byN_le (by omega)
  have a2 : byN Yn dyn ≤ Yn := byN_le (by omega)
  have a3 : 1 ≤ byN Xn dxn := (Nat.le_div_iff_mul_le (by omega)).2 (by omega)
  have a4 : 1 ≤ byN Yn dyn := (Nat.le_div_iff_mul_le (by omega)).2 (by omega)
  have har : areaN Xn Yn 0 0 dxn dyn = byN Xn dxn * byN Yn dyn := by
    unfold areaN
    have h0 : ∀ d, 1 ≤ d → byN 0 d = 0 := fun d hd => by unfold byN; exact Nat.div_eq_of_lt (by omega)
    rw [h0 _ (by omega), h0 _ (by omega), Nat.sub_zero, Nat.sub_zero]
  generalize byN Xn dxn = A1 at *
  generalize byN Yn dyn = B1 at *
  have p1 : A1 * B1 ≤ 20 * 20 := Nat.mul_le_mul (by omega) (by omega)
  have p2 : 1 ≤ A1 * B1 := Nat.mul_pos (by omega) (by omega)
  have p3 : (A1 : Int) * B1 = ((A1 * B1 : Nat) : Int) := by simp
  generalize A1 * B1 = N at *
  have HN400 := Lib.hid (show N ≤ 400 from p1)
  have HAR := Lib.hid har
  clear har
  obtain ⟨sx, hsx⟩ : ∃ s, (Xn : Int) + dxn = s := ⟨_, rfl⟩
  obtain ⟨sx1, hsx1⟩ : ∃ t, sx - 1 = t := ⟨_, rfl⟩
  obtain ⟨sy, hsy⟩ : ∃ s, (Yn : Int) + dyn = s := ⟨_, rfl⟩
  obtain ⟨sy1, hsy1⟩ : ∃ t, sy - 1 = t := ⟨_, rfl⟩
  rw [hsx, hsx1] at e1
  rw [hsy, hsy1] at e2
  have w1 : IntKind.i64.wrap sx = sx := wr (by omega)
  have w2' : IntKind.i64.wrap sx1 = sx1 := wr (by omega)
  have w3' : IntKind.i64.wrap sy = sy := wr (by omega)
  have w4' : IntKind.i64.wrap sy1 = sy1 := wr (by omega)
  have w5' : IntKind.i64.wrap (A1 : Int) = A1 := wr (by omega)
  have w6' : IntKind.i64.wrap (B1 : Int) = B1 := wr (by omega)
  have w7' : IntKind.i64.wrap (N : Int) = N := wr (by omega)
  have nz1 : ((dxn : Int) = 0) = False := eq_false (by omega)
  have nz2 : ((dyn : Int) = 0) = False := eq_false (by omega)
  go_quiet (fail)
  clear e1 e2 a1 a2 a3 a4 p1 p3 w1 w2' w3' w4' w5' w6' w7' nz1 nz2 hsx hsx1 hsy hsy1 m0 m1 c2 c3
  have p1 : N ≤ 400 := HN400.out
  obtain ⟨m, e1, e2, e3, e4⟩ : ∃ m : Nat, 2 ^ dp = 2 * m ∧ 2 ^ (dp - 1) = m ∧ 1 ≤ m ∧ m ≤ 32768 := by
    obtain ⟨k, rfl⟩ : ∃ k, dp = k + 1 := ⟨dp - 1, by omega⟩
    refine ⟨2 ^ k, by rw [Nat.pow_succ, Nat.mul_comm], rfl, Nat.one_le_two_pow, ?_⟩
    calc 2 ^ k ≤ 2 ^ 15 := Nat.pow_le_pow_right (by omega) (by omega)
      _ = 32768 := rfl
  have hlo : loB dp true = -(m : Nat) := by unfold loB; rw [e2]; rfl
  have hhi : hiB dp true = ((m : Nat) : Int) - 1 := by unfold hiB; first | rw [e1]; rfl | rw [e2]; rfl
  have u1 : IntKind.u64.wrap (dp : Int) = dp := by rw [IntKind.wrap_u64]; omega
  have mn : min dp 64 = dp := by omega
  have e5 : (2 : Int) ^ dp = 2 * (m : Int) := by
    have : (2 : Int) ^ dp = ((2 ^ dp : Nat) : Int) := by simp
    rw [this, e1]; simp
  have q1 : IntKind.i64.wrap (2 ^ dp) = 2 * (m : Int) := by rw [e5]; exact wr (by omega)
  have q2 : IntKind.i64.wrap (2 * (m : Int) - 1) = 2 * (m : Int) - 1 := wr (by omega)
  have HM2 := Lib.hid e2
  have HLO := Lib.hid hlo
  have HHI := Lib.hid hhi
  clear hlo hhi e1 e2 e5
  have hmk := fun u => run_make_row' (P := Try.prog) 32 3 (.int .i64 0) 8 Try.underlying32 int_info12 rfl .i64 .i64 N (by omega) (by omega) u
  have af4 : ∀ t, ((W5.drewN t).alloc (.cells (madeCells #[.int .i64 0] N) 3)).cell? ⟨b, 4, none⟩ = some (.slice none 0 0) := fun t => (World.cell?_of_block (Below.heap_alloc (W5.drewN t) _ b (by show b < W5.heap.size; omega))).trans c4
  have ag4 : ∀ t, ((W5.drewN t).alloc (.cells (madeCells #[.int .i64 0] N) 3)).frozen? ⟨b, 4, none⟩ = false := fun t => (World.frozen?_of_block (a := ⟨b, 4, none⟩) (Below.heap_alloc (W5.drewN t) _ b (by show b < W5.heap.size; omega))).trans f4
  go_wp2_with fail
  have c0' : (W5.drewN nq).cell? ⟨b, 0, none⟩ = some (.int .i64 dp) := c0
  go_quiet (fail)
  go_wp2_with fail
  have u3 : IntKind.i64.wrap ((dp : Int) - 1) = ((dp - 1 : Nat) : Int) := by rw [show (dp : Int) - 1 = ((dp - 1 : Nat) : Int) by omega]; exact wr (by omega)
  have u4 : IntKind.u64.wrap ((dp - 1 : Nat) : Int) = ((dp - 1 : Nat) : Int) := by rw [IntKind.wrap_u64]; omega
  have u5 : (dp : Int) - 1 = ((dp - 1 : Nat) : Int) := by omega
  have u6 : min (dp - 1) 64 = dp - 1 := by omega
  have u8 : IntKind.i64.wrap (2 ^ (dp - 1)) = (m : Int) := by
    rw [show (2 : Int) ^ (dp - 1) = ((2 ^ (dp - 1) : Nat) : Int) by simp, HM2.out]; exact wr (by omega)
  have u9 : IntKind.i64.wrap (0 - (m : Int)) = -(m : Int) := by rw [show (0 : Int) - m = -(m : Int) by omega]; exact wr (by omega)
  have u10 : IntKind.i64.wrap ((m : Int) - 1) = (m : Int) - 1 := wr (by omega)
  generalize dp - 1 = dp1 at *
  go_quiet (fail)
  go_wp2_with fail
  generalize hw7 : World.setCell (World.alloc (World.drewN W5 _) _) _ _ = W7
  have gb7 : W7.heap[b]? = some (.cells #[.int .i64 dp, .bool true, .int .i64 dxn, .int .i64 dyn, .slice (some ⟨q + 2, 0, none⟩) N N] 34 (0, 0)) := by rw [← hw7]; exact heap_set1 ((Below.heap_alloc (W5.drewN _) _ b (by show b < W5.heap.size; omega)).trans gb5) _
  have far : ∀ p, p ≠ b → p < q + 2 → W7.heap[p]? = W5.heap[p]? := fun p hp hp2 => by
    rw [← hw7]
    exact (Below.heap_setCell _ ⟨b, 4, none⟩ _ p hp).trans (Below.heap_alloc (W5.drewN _) _ p (by show p < W5.heap.size; omega))
  have gm7 := (far q (by omega) (by omega)).trans gm5
  have gp7 := (far (q + 1) (by omega) (by omega)).trans gp5
  have hs7 : W7.heap.size = q + 3 := by rw [← hw7]; simp [World.drewN, hs5]
  have hbl7 : Below w.heap.size w W7 := by rw [← hw7]; exact (below_alloc (below_drewN hbl5 _) _).setCell (p := ⟨b, 4, none⟩) hwb _
  have own : OwnI W7 (q + 2) 3 (.slice (some ⟨q + 2, 0, none⟩) N N) N (fun _ => 0) := by
    rw [← hw7, ← hs5]
    refine OwnI.other (OwnI.made (W5.drewN _) W5.heap.size N 3 (Nat.le_refl _) (by omega)) ?_ _
    simp only [Value.ownBlock, ne_eq, Option.some.injEq, World.drewN]
    omega
  clear hw7 far gb5 gm5 gp5 hs5 hbl5 hmk af4 ag4 c4 f4 c0 c0'
  refine (WW.out _).mono ?_
  rintro e w8 ⟨rfl, rfl⟩
  clear WW
  have c4 : W7.cell? ⟨b, 4, none⟩ = some (.slice (some ⟨q + 2, 0, none⟩) N N) := cell_of_row _ _ 4 _ _ (0, 0) gb7
  have f4 : W7.frozen? ⟨b, 4, none⟩ = false := frozen_of_row _ _ 4 _ _ gb7
  obtain ⟨vv, hvv⟩ : ∃ v : Int, ((-(m : Int)) - 1) = v := ⟨_, rfl⟩
  obtain ⟨M, rfl⟩ : ∃ M, N = M + 1 := ⟨N - 1, by omega⟩
  have own9 := own.stored 0 vv
  have gb9 := (Below.heap_setCell W7 ⟨q + 2, 0, none⟩ (.int .i64 vv) b (by simp only; omega)).trans gb7
  have gm9 := (Below.heap_setCell W7 ⟨q + 2, 0, none⟩ (.int .i64 vv) q (by simp only; omega)).trans gm7
  have gp9 := (Below.heap_setCell W7 ⟨q + 2, 0, none⟩ (.int .i64 vv) (q + 1) (by simp only; omega)).trans gp7
  have hb9 := hbl7.setCell (p := ⟨q + 2, 0, none⟩) (by simp only; omega) (.int .i64 vv)
  have cd : W7.cell? ⟨q + 2, 0, none⟩ = some (.int .i64 0) := own.cell (by omega)
  have fd : W7.frozen? ⟨q + 2, 0, none⟩ = false := own.frozen _
  clear gb7 gm7 gp7 hbl7
  have sw : (((M + 1 : Nat) : Int)) - 1 = M := by omega
  have sn : ((M : Nat) : Int).toNat = M := by omega
  have m0 : (W7.setCell ⟨q + 2, 0, none⟩ (.int .i64 vv)).cell? ⟨q, 0, none⟩ = some (.int .i64 Xn) := cell_of_row _ _ 0 _ _ (0, 0) gm9
  have m1 : (W7.setCell ⟨q + 2, 0, none⟩ (.int .i64 vv)).cell? ⟨q, 1, none⟩ = some (.int .i64 Yn) := cell_of_row _ _ 1 _ _ (0, 0) gm9
  have m2 : (W7.setCell ⟨q + 2, 0, none⟩ (.int .i64 vv)).cell? ⟨q, 2, none⟩ = some (.int .i64 0) := cell_of_row _ _ 2 _ _ (0, 0) gm9
  have m3 : (W7.setCell ⟨q + 2, 0, none⟩ (.int .i64 vv)).cell? ⟨q, 3, none⟩ = some (.int .i64 0) := cell_of_row _ _ 3 _ _ (0, 0) gm9
  have m4 : (W7.setCell ⟨q + 2, 0, none⟩ (.int .i64 vv)).cell? ⟨q, 4, none⟩ = some (.slice (some ⟨b, 0, none⟩) 1 1) := cell_of_row _ _ 4 _ _ (0, 0) gm9
  have p0 : (W7.setCell ⟨q + 2, 0, none⟩ (.int .i64 vv)).cell? ⟨q + 1, 0, none⟩ = some (.int .i64 64) := cell_of_row _ _ 0 _ _ (0, 0) gp9
  have p1 : (W7.setCell ⟨q + 2, 0, none⟩ (.int .i64 vv)).cell? ⟨q + 1, 1, none⟩ = some (.int .i64 64) := cell_of_row _ _ 1 _ _ (0, 0) gp9
  have p2 : (W7.setCell ⟨q + 2, 0, none⟩ (.int .i64 vv)).cell? ⟨q + 1, 2, none⟩ = some (.int .i64 2) := cell_of_row _ _ 2 _ _ (0, 0) gp9
  have p3 : (W7.setCell ⟨q + 2, 0, none⟩ (.int .i64 vv)).cell? ⟨q + 1, 3, none⟩ = some (.int .i64 4) := cell_of_row _ _ 3 _ _ (0, 0) gp9
  have p4 : (W7.setCell ⟨q + 2, 0, none⟩ (.int .i64 vv)).cell? ⟨q + 1, 4, none⟩ = some (.int .i64 4) := cell_of_row _ _ 4 _ _ (0, 0) gp9
  have p5 : (W7.setCell ⟨q + 2, 0, none⟩ (.int .i64 vv)).cell? ⟨q + 1, 5, none⟩ = some (.int .i64 15) := cell_of_row _ _ 5 _ _ (0, 0) gp9
  have p6 : (W7.setCell ⟨q + 2, 0, none⟩ (.int .i64 vv)).cell? ⟨q + 1, 6, none⟩ = some (.int .i64 0) := cell_of_row _ _ 6 _ _ (0, 0) gp9
  have p7 : (W7.setCell ⟨q + 2, 0, none⟩ (.int .i64 vv)).cell? ⟨q + 1, 7, none⟩ = some (.int .i64 0) := cell_of_row _ _ 7 _ _ (0, 0) gp9
  have p8 : (W7.setCell ⟨q + 2, 0, none⟩ (.int .i64 vv)).cell? ⟨q + 1, 8, none⟩ = some (.int .i64 1) := cell_of_row _ _ 8 _ _ (0, 0) gp9
  have p9 : (W7.setCell ⟨q + 2, 0, none⟩ (.int .i64 vv)).cell? ⟨q + 1, 9, none⟩ = some (.bool false) := cell_of_row _ _ 9 _ _ (0, 0) gp9
  have p10 : (W7.setCell ⟨q + 2, 0, none⟩ (.int .i64 vv)).cell? ⟨q + 1, 10, none⟩ = some (.bool false) := cell_of_row _ _ 10 _ _ (0, 0) gp9
  have p11 : (W7.setCell ⟨q + 2, 0, none⟩ (.int .i64 vv)).cell? ⟨q + 1, 11, none⟩ = some (.bool false) := cell_of_row _ _ 11 _ _ (0, 0) gp9
  have hc9 : CompsAt (W7.setCell ⟨q + 2, 0, none⟩ (.int .i64 vv)) (W7.setCell ⟨q + 2, 0, none⟩ (.int .i64 vv)).heap.size (some ⟨b, 0, none⟩) 1 (fun _ => ⟨dp, true, dxn, dyn, some ⟨q + 2, 0, none⟩, (M + 1), (M + 1)⟩) := comps1' gb9 (Array.getElem?_eq_some_iff.1 gb9).1 rfl
  have CK := check_any Xn Yn 0 0 (some ⟨b, 0, none⟩) 1 1 (fun _ => ⟨dp, true, dxn, dyn, some ⟨q + 2, 0, none⟩, (M + 1), (M + 1)⟩) (fun _ => (fun k => if k = 0 then vv else 0)) 64 64 2 4 4 15 0 0 1 false false false (W7.setCell ⟨q + 2, 0, none⟩ (.int .i64 vv)) hc9 (by omega) (fun _ _ => own9.ints) (fun _ _ => by simp only; omega)
  have ce : checkE Xn Yn 0 0 1 (fun _ => ⟨dp, true, dxn, dyn, some ⟨q + 2, 0, none⟩, (M + 1), (M + 1)⟩) (fun _ => (fun k => if k = 0 then vv else 0)) 64 64 2 4 4 15 0 0 1 false = 11 := by
    rw [samp_ck true _ _ _ _ x3 y3 z3 z6 z9, HAR.out]
    rw [if_pos rfl, if_neg (by rw [sampOk_bad (i := 0) (by omega) (inB_false.2 (by rw [HLO.out, HHI.out]; simp only [if_true]; omega))]; decide)]
  rw [ce] at CK
  unfold imgV parV at CK
  have CK := Lib.hid CK
  clear ce hc9 gb9 gm9 gp9
  try go_wp2_with fail
  refine CK.out.mono ?_
  rintro e w10 ⟨rfl, hb10⟩
  go_wp2_with fail
  go_ret
  exact ⟨rfl, below_trans hb9 hb10⟩
theorem samples_4_true (x y dx dy depth which : Int) (hk : which % 6 = 4) (w : World) : Calls Try.prog 6 #[.int .i64 x, .int .i64 y, .int .i64 dx, .int .i64 dy, .int .i64 depth, .bool true, .int .i64 which] w fun e w' => e = .returned (.bool true) ∧ Below w.heap.size w w' := by
  have WW := Lib.hid (fun (v : World) => by have := within12 which 6 (by omega) (by omega) v; rw [hk] at this; exact this)
  have W20 := Lib.hid (fun (a : Int) (v : World) => within12e a 20 (by omega) (by omega) v)
  have W4_ := Lib.hid (fun (a : Int) (v : World) => within12e a 4 (by omega) (by omega) v)
  have W16 := Lib.hid (fun (a : Int) (v : World) => within12e a 16 (by omega) (by omega) v)
  clear hk
  go_enter Try.func6, Try.ntmps6
  go_wp2_with fail
  refine (known12 _).mono ?_
  rintro e w1 ⟨rfl, hb1⟩
  go_wp2_with fail
  refine (W20.out _ _).mono ?_
  rintro e w1' ⟨vx, x1, x2, rfl, rfl⟩
  go_wp2_with fail
  refine (W20.out _ _).mono ?_
  rintro e w1' ⟨vy, y1, y2, rfl, rfl⟩
  obtain ⟨Xn, hXn⟩ : ∃ Xn : Nat, 1 + vx = Xn := Int.eq_ofNat_of_zero_le (by omega)
  obtain ⟨Yn, hYn⟩ : ∃ Yn : Nat, 1 + vy = Yn := Int.eq_ofNat_of_zero_le (by omega)
  have x3 : 1 ≤ Xn ∧ Xn ≤ 20 := by omega
  have y3 : 1 ≤ Yn ∧ Yn ≤ 20 := by omega
  go_wp2_with fail
  refine (one_any Xn Yn 0 0 _).mono ?_
  clear hXn hYn x1 x2 y1 y2 W20
  rintro e w2 ⟨b, rfl, gb, hbb, hb2⟩
  unfold parV
  have hbl := below_trans hb1 hb2
  have hlt : b < w2.heap.size := (Array.getElem?_eq_some_iff.1 gb).1
  have hws := hbl.size
  have hwb := Nat.le_trans hb1.size hbb
  clear hb1 hb2 hbb
  go_wp2_with fail
  generalize hw3 : World.alloc (World.alloc w2 _) _ = W3
  have gm3 : W3.heap[w2.heap.size]? = some (.cells #[.int .i64 Xn, .int .i64 Yn, .int .i64 0, .int .i64 0, .slice (some ⟨b, 0, none⟩) 1 1] 25 (0, 0)) := by rw [← hw3]; exact (Below.heap_alloc _ _ _ (by simp)).trans (heap_alloc_new w2 _)
  have gp3 : W3.heap[w2.heap.size + 1]? = some (.cells #[.int .i64 64, .int .i64 64, .int .i64 2, .int .i64 4, .int .i64 4, .int .i64 15, .int .i64 0, .int .i64 0, .int .i64 1, .bool false, .bool false, .bool false] 27 (0, 0)) := by rw [← hw3]; exact heap_alloc_new2 w2 _ _
  have gb3 : W3.heap[b]? = some (.cells #[.int .i64 8, .bool false, .int .i64 1, .int .i64 1, .slice none 0 0] 34 (0, 0)) := by rw [← hw3]; exact (Below.heap_alloc _ _ _ (by simp; omega)).trans ((Below.heap_alloc _ _ _ (by omega)).trans gb)
  have hs3 : W3.heap.size = w2.heap.size + 2 := by rw [← hw3]; simp
  have hbl3 : Below w.heap.size w W3 := by rw [← hw3]; exact below_alloc (below_alloc hbl _) _
  obtain ⟨q, hq⟩ : ∃ q, w2.heap.size = q := ⟨_, rfl⟩
  clear hw3 gb hbl
  rw [hq] at gm3 gp3 hs3 hws hlt
  rw [hq]
  clear hq
  have c0 : W3.cell? ⟨b, 0, none⟩ = some (.int .i64 8) := cell_of_row _ _ 0 _ _ (0, 0) gb3
  have c1 : W3.cell? ⟨b, 1, none⟩ = some (.bool false) := cell_of_row _ _ 1 _ _ (0, 0) gb3
  have c2 : W3.cell? ⟨b, 2, none⟩ = some (.int .i64 1) := cell_of_row _ _ 2 _ _ (0, 0) gb3
  have c3 : W3.cell? ⟨b, 3, none⟩ = some (.int .i64 1) := cell_of_row _ _ 3 _ _ (0, 0) gb3
  have fb : ∀ j, W3.frozen? ⟨b, j, none⟩ = false := fun j => frozen_of_row _ _ j _ _ gb3
  refine (W4_.out _ _).mono ?_
  rintro e w4 ⟨vdx, z1, z2, rfl, rfl⟩
  obtain ⟨dxn, hdx⟩ : ∃ d : Nat, 1 + vdx = d := Int.eq_ofNat_of_zero_le (by omega)
  have z3 : 1 ≤ dxn ∧ dxn ≤ 4 := by omega
  go_wp2_with fail
  refine (W4_.out _ _).mono ?_
  rintro e w4 ⟨vdy, z4, z5, rfl, rfl⟩
  obtain ⟨dyn, hdy⟩ : ∃ d : Nat, 1 + vdy = d := Int.eq_ofNat_of_zero_le (by omega)
  have z6 : 1 ≤ dyn ∧ dyn ≤ 4 := by omega
  go_wp2_with fail
  refine (W16.out _ _).mono ?_
  rintro e w4 ⟨vdp, z7, z8, rfl, rfl⟩
  obtain ⟨dp, hdp⟩ : ∃ d : Nat, 1 + vdp = d := Int.eq_ofNat_of_zero_le (by omega)
  have z9 : 1 ≤ dp ∧ dp ≤ 16 := by omega
  go_wp2_with fail
  clear hdx hdy hdp z1 z2 z4 z5 z7 z8 c0 c1 c2 c3 fb W4_ W16
  generalize hw5 : World.setCell (World.setCell (World.setCell (World.setCell W3 _ _) _ _) _ _) _ _ = W5
  have gb5 : W5.heap[b]? = some (.cells #[.int .i64 dp, .bool true, .int .i64 dxn, .int .i64 dyn, .slice none 0 0] 34 (0, 0)) := by rw [← hw5]; exact heap_set1 (heap_set1 (heap_set1 (heap_set1 gb3 _) _) _) _
  have far : ∀ p, p ≠ b → W5.heap[p]? = W3.heap[p]? := fun p hp => by
    rw [← hw5]
    exact (Below.heap_setCell _ ⟨b, 1, none⟩ _ p hp).trans ((Below.heap_setCell _ ⟨b, 0, none⟩ _ p hp).trans ((Below.heap_setCell _ ⟨b, 3, none⟩ _ p hp).trans (Below.heap_setCell _ ⟨b, 2, none⟩ _ p hp)))
  have gm5 := (far q (by omega)).trans gm3
  have gp5 := (far (q + 1) (by omega)).trans gp3
  have hs5 : W5.heap.size = q + 2 := by rw [← hw5]; simp [hs3]
  have hbl5 : Below w.heap.size w W5 := by rw [← hw5]; exact (((hbl3.setCell (p := ⟨b, 2, none⟩) hwb _).setCell (p := ⟨b, 3, none⟩) hwb _).setCell (p := ⟨b, 0, none⟩) hwb _).setCell (p := ⟨b, 1, none⟩) hwb _
  clear hw5 far gb3 gm3 gp3 hs3 hbl3
  have c0 : W5.cell? ⟨b, 0, none⟩ = some (.int .i64 dp) := cell_of_row _ _ 0 _ _ (0, 0) gb5
  have c2 : W5.cell? ⟨b, 2, none⟩ = some (.int .i64 dxn) := cell_of_row _ _ 2 _ _ (0, 0) gb5
  have c3 : W5.cell? ⟨b, 3, none⟩ = some (.int .i64 dyn) := cell_of_row _ _ 3 _ _ (0, 0) gb5
  have c4 : W5.cell? ⟨b, 4, none⟩ = some (.slice none 0 0) := cell_of_row _ _ 4 _ _ (0, 0) gb5
  have f4 : W5.frozen? ⟨b, 4, none⟩ = false := frozen_of_row _ _ 4 _ _ gb5
  have m0 : W5.cell? ⟨q, 0, none⟩ = some (.int .i64 Xn) := cell_of_row _ _ 0 _ _ (0, 0) gm5
  have m1 : W5.cell? ⟨q, 1, none⟩ = some (.int .i64 Yn) := cell_of_row _ _ 1 _ _ (0, 0) gm5
  have e1 : ((Xn : Int) + dxn - 1).tdiv dxn = ((byN Xn dxn : Nat) : Int) := by
    rw [show (Xn : Int) + dxn - 1 = ((Xn + dxn - 1 : Nat) : Int) by omega]; rfl
  have e2 : ((Yn : Int) + dyn - 1).tdiv dyn = ((byN Yn dyn : Nat) : Int) := by
    rw [show (Yn : Int) + dyn - 1 = ((Yn + dyn - 1 : Nat) : Int) by omega]; rfl
  have a1 : byN Xn dxn ≤ Xn := byN_le (by omega)
  have a2 : byN Yn dyn ≤ Yn := byN_le (by omega)
  have a3 : 1 ≤ byN Xn dxn := (Nat.le_div_iff_mul_le (by omega)).2 (by omega)
  have a4 : 1 ≤ byN Yn dyn := (Nat.le_div_iff_mul_le (by omega)).2 (by omega)
  have har : areaN Xn Yn 0 0 dxn dyn = byN Xn dxn * byN Yn dyn := by
    unfold areaN
    have h0 : ∀ d, 1 ≤ d → byN 0 d = 0 := fun d hd => by unfold byN; exact Nat.div_eq_of_lt (by omega)
    rw [h0 _ (by omega), h0 _ (by omega), Nat.sub_zero, Nat.sub_zero]
  generalize byN Xn dxn = A1 at *
  generalize byN Yn dyn = B1 at *
  have p1 : A1 * B1 ≤ 20 * 20 := Nat.mul_le_mul (by omega) (by omega)
  have p2 : 1 ≤ A1 * B1 := Nat.mul_pos (by omega) (by omega)
  have p3 : (A1 : Int) * B1 = ((A1 * B1 : Nat) : Int) := by simp
  generalize A1 * B1 = N at *
  have HN400 := Lib.hid (show N ≤ 400 from p1)
  have HAR := Lib.hid har
  clear har
  obtain ⟨sx, hsx⟩ : ∃ s, (Xn : Int) + dxn = s := ⟨_, rfl⟩
  obtain ⟨sx1, hsx1⟩ : ∃ t, sx - 1 = t := ⟨_, rfl⟩
  obtain ⟨sy, hsy⟩ : ∃ s, (Yn : Int) + dyn = s := ⟨_, rfl⟩
  obtain ⟨sy1, hsy1⟩ : ∃ t, sy - 1 = t := ⟨_, rfl⟩
  rw [hsx, hsx1] at e1
  rw [hsy, hsy1] at e2
  have w1 : IntKind.i64.wrap sx = sx := wr (by omega)
  have w2' : IntKind.i64.wrap sx1 = sx1 := wr (by omega)
  have w3' : IntKind.i64.wrap sy = sy := wr (by omega)
  have w4' : IntKind.i64.wrap sy1 = sy1 := wr (by omega)
  have w5' : IntKind.i64.wrap (A1 : Int) = A1 := wr (by omega)
  have w6' : IntKind.i64.wrap (B1 : Int) = B1 := wr (by omega)
  have w7' : IntKind.i64.wrap (N : Int) = N := wr (by omega)
  have nz1 : ((dxn : Int) = 0) = False := eq_false (by omega)
  have nz2 : ((dyn : Int) = 0) = False := eq_false (by omega)
  go_quiet (fail)
  clear e1 e2 a1 a2 a3 a4 p1 p3 w1 w2' w3' w4' w5' w6' w7' nz1 nz2 hsx hsx1 hsy hsy1 m0 m1 c2 c3
  have p1 : N ≤ 400 := HN400.out
  obtain ⟨m, e1, e2, e3, e4⟩ : ∃ m : Nat, 2 ^ dp = 2 * m ∧ 2 ^ (dp - 1) = m ∧ 1 ≤ m ∧ m ≤ 32768 := by
    obtain ⟨k, rfl⟩ : ∃ k, dp = k + 1 := ⟨dp - 1, by omega⟩
    refine ⟨2 ^ k, by rw [Nat.pow_succ, Nat.mul_comm], rfl, Nat.one_le_two_pow, ?_⟩
    calc 2 ^ k ≤ 2 ^ 15 := Nat.pow_le_pow_right (by omega) (by omega)
      _ = 32768 := rfl
  have hlo : loB dp true = -(m : Nat) := by unfold loB; rw [e2]; rfl
  have hhi : hiB dp true = ((m : Nat) : Int) - 1 := by unfold hiB; first | rw [e1]; rfl | rw [e2]; rfl
  have u1 : IntKind.u64.wrap (dp : Int) = dp := by rw [IntKind.wrap_u64]; omega
  have mn : min dp 64 = dp := by omega
  have e5 : (2 : Int) ^ dp = 2 * (m : Int) := by
    have : (2 : Int) ^ dp = ((2 ^ dp : Nat) : Int) := by simp
    rw [this, e1]; simp
  have q1 : IntKind.i64.wrap (2 ^ dp) = 2 * (m : Int) := by rw [e5]; exact wr (by omega)
  have q2 : IntKind.i64.wrap (2 * (m : Int) - 1) = 2 * (m : Int) - 1 := wr (by omega)
  have HM2 := Lib.hid e2
  have HLO := Lib.hid hlo
  have HHI := Lib.hid hhi
  clear hlo hhi e1 e2 e5
  have hmk := fun u => run_make_row' (P := Try.prog) 32 3 (.int .i64 0) 8 Try.underlying32 int_info12 rfl .i64 .i64 N (by omega) (by omega) u
  have af4 : ∀ t, ((W5.drewN t).alloc (.cells (madeCells #[.int .i64 0] N) 3)).cell? ⟨b, 4, none⟩ = some (.slice none 0 0) := fun t => (World.cell?_of_block (Below.heap_alloc (W5.drewN t) _ b (by show b < W5.heap.size; omega))).trans c4
  have ag4 : ∀ t, ((W5.drewN t).alloc (.cells (madeCells #[.int .i64 0] N) 3)).frozen? ⟨b, 4, none⟩ = false := fun t => (World.frozen?_of_block (a := ⟨b, 4, none⟩) (Below.heap_alloc (W5.drewN t) _ b (by show b < W5.heap.size; omega))).trans f4
  go_wp2_with fail
  have c0' : (W5.drewN nq).cell? ⟨b, 0, none⟩ = some (.int .i64 dp) := c0
  go_quiet (fail)
  go_wp2_with fail
  have u3 : IntKind.i64.wrap ((dp : Int) - 1) = ((dp - 1 : Nat) : Int) := by rw [show (dp : Int) - 1 = ((dp - 1 : Nat) : Int) by omega]; exact wr (by omega)
  have u4 : IntKind.u64.wrap ((dp - 1 : Nat) : Int) = ((dp - 1 : Nat) : Int) := by rw [IntKind.wrap_u64]; omega
  have u5 : (dp : Int) - 1 = ((dp - 1 : Nat) : Int) := by omega
  have u6 : min (dp - 1) 64 = dp - 1 := by omega
  have u8 : IntKind.i64.wrap (2 ^ (dp - 1)) = (m : Int) := by
    rw [show (2 : Int) ^ (dp - 1) = ((2 ^ (dp - 1) : Nat) : Int) by simp, HM2.out]; exact wr (by omega)
  have u9 : IntKind.i64.wrap (0 - (m : Int)) = -(m : Int) := by rw [show (0 : Int) - m = -(m : Int) by omega]; exact wr (by omega)
  have u10 : IntKind.i64.wrap ((m : Int) - 1) = (m : Int) - 1 := wr (by omega)
  generalize dp - 1 = dp1 at *
  go_quiet (fail)
  go_wp2_with fail
  generalize hw7 : World.setCell (World.alloc (World.drewN W5 _) _) _ _ = W7
  have gb7 : W7.heap[b]? = some (.cells #[.int .i64 dp, .bool true, .int .i64 dxn, .int .i64 dyn, .slice (some ⟨q + 2, 0, none⟩) N N] 34 (0, 0)) := by rw [← hw7]; exact heap_set1 ((Below.heap_alloc (W5.drewN _) _ b (by show b < W5.heap.size; omega)).trans gb5) _
  have far : ∀ p, p ≠ b → p < q + 2 → W7.heap[p]? = W5.heap[p]? := fun p hp hp2 => by
    rw [← hw7]
    exact (Below.heap_setCell _ ⟨b, 4, none⟩ _ p hp).trans (Below.heap_alloc (W5.drewN _) _ p (by show p < W5.heap.size; omega))
  have gm7 := (far q (by omega) (by omega)).trans gm5
  have gp7 := (far (q + 1) (by omega) (by omega)).trans gp5
  have hs7 : W7.heap.size = q + 3 := by rw [← hw7]; simp [World.drewN, hs5]
  have hbl7 : Below w.heap.size w W7 := by rw [← hw7]; exact (below_alloc (below_drewN hbl5 _) _).setCell (p := ⟨b, 4, none⟩) hwb _
  have own : OwnI W7 (q + 2) 3 (.slice (some ⟨q + 2, 0, none⟩) N N) N (fun _ => 0) := by
    rw [← hw7, ← hs5]
    refine OwnI.other (OwnI.made (W5.drewN _) W5.heap.size N 3 (Nat.le_refl _) (by omega)) ?_ _
    simp only [Value.ownBlock, ne_eq, Option.some.injEq, World.drewN]
    omega
  clear hw7 far gb5 gm5 gp5 hs5 hbl5 hmk af4 ag4 c4 f4 c0 c0'
  refine (WW.out _).mono ?_
  rintro e w8 ⟨rfl, rfl⟩
  clear WW
  have c4 : W7.cell? ⟨b, 4, none⟩ = some (.slice (some ⟨q + 2, 0, none⟩) N N) := cell_of_row _ _ 4 _ _ (0, 0) gb7
  have f4 : W7.frozen? ⟨b, 4, none⟩ = false := frozen_of_row _ _ 4 _ _ gb7
  obtain ⟨M, rfl⟩ : ∃ M, N = M + 1 := ⟨N - 1, by omega⟩
  obtain ⟨lo, hlo⟩ : ∃ lo : Int, (-(m : Int)) = lo := ⟨_, rfl⟩
  obtain ⟨hi, hhi⟩ : ∃ hi : Int, ((m : Int) - 1) = hi := ⟨_, rfl⟩
  have sw : IntKind.i64.wrap (((M + 1 : Nat) : Int) - 1) = M := by rw [show ((M + 1 : Nat) : Int) - 1 = M by omega]; exact wr (by omega)
  have swM : IntKind.i64.wrap ((M : Nat) : Int) = M := wr (by omega)
  have sw2 : ((M + 1 : Nat) : Int) - 1 = M := by omega
  have sn : ((M : Nat) : Int).toNat = M := by omega
  go_wp2_with fail
  have fd : ∀ j, W7.frozen? ⟨q + 2, j, none⟩ = false := fun j => own.frozen _
  refine held_region (by kernel_rfl) (fun U => U.cell? ⟨b, 4, none⟩ = some (.slice (some ⟨q + 2, 0, none⟩) (M + 1) (M + 1))) (fun _ _ h => h) (fun hS => ?_) c4
  refine wpAnyH_take (i := 0) (v := .pointer (some ⟨b, 0, none⟩)) rfl (by kernel_rfl) (by kernel_rfl) (by kernel_rfl) (fun _ _ _ h => h) (Or.inl ⟨by rfl, ?_⟩) hS ?_
  · intro U hU
    go_simp
  simp only [Act.put, List.setIfInBounds_toArray, List.set_cons_zero, List.set_cons_succ]
  refine wpAnyH_take (i := 1) (v := .pointer (some ⟨b, 0, none⟩)) rfl (by kernel_rfl) (by kernel_rfl) (by kernel_rfl) (fun _ _ _ h => h) (Or.inl ⟨by rfl, ?_⟩) hS ?_
  · intro U hU
    go_simp
  simp only [Act.put, List.setIfInBounds_toArray, List.set_cons_zero, List.set_cons_succ]
  refine wpAnyH_take (i := 2) (v := .pointer (some ⟨b, 4, none⟩)) rfl (by kernel_rfl) (by kernel_rfl) (by kernel_rfl) (fun _ _ _ h => h) (Or.inl ⟨by rfl, ?_⟩) hS ?_
  · intro U hU
    go_simp
  simp only [Act.put, List.setIfInBounds_toArray, List.set_cons_zero, List.set_cons_succ]
  refine wpAnyH_take (i := 3) (v := .slice (some ⟨q + 2, 0, none⟩) (M + 1) (M + 1)) rfl (by kernel_rfl) (by kernel_rfl) (by kernel_rfl) (fun _ _ _ h => h) (Or.inl ⟨by rfl, ?_⟩) hS ?_
  · intro U hU
    go_simp
  simp only [Act.put, List.setIfInBounds_toArray, List.set_cons_zero, List.set_cons_succ]
  refine wpAnyH_take (i := 4) (v := .pointer (some ⟨b, 0, none⟩)) rfl (by kernel_rfl) (by kernel_rfl) (by kernel_rfl) (fun _ _ _ h => h) (Or.inl ⟨by rfl, ?_⟩) hS ?_
  · intro U hU
    go_simp
  simp only [Act.put, List.setIfInBounds_toArray, List.set_cons_zero, List.set_cons_succ]
  refine wpAnyH_take (i := 5) (v := .pointer (some ⟨b, 0, none⟩)) rfl (by kernel_rfl) (by kernel_rfl) (by kernel_rfl) (fun _ _ _ h => h) (Or.inl ⟨by rfl, ?_⟩) hS ?_
  · intro U hU
    go_simp
  simp only [Act.put, List.setIfInBounds_toArray, List.set_cons_zero, List.set_cons_succ]
  refine wpAnyH_take (i := 6) (v := .pointer (some ⟨b, 4, none⟩)) rfl (by kernel_rfl) (by kernel_rfl) (by kernel_rfl) (fun _ _ _ h => h) (Or.inl ⟨by rfl, ?_⟩) hS ?_
  · intro U hU
    go_simp
  simp only [Act.put, List.setIfInBounds_toArray, List.set_cons_zero, List.set_cons_succ]
  refine wpAnyH_take (i := 7) (v := .slice (some ⟨q + 2, 0, none⟩) (M + 1) (M + 1)) rfl (by kernel_rfl) (by kernel_rfl) (by kernel_rfl) (fun _ _ _ h => h) (Or.inl ⟨by rfl, ?_⟩) hS ?_
  · intro U hU
    go_simp
  simp only [Act.put, List.setIfInBounds_toArray, List.set_cons_zero, List.set_cons_succ]
  refine wpAnyH_take (i := 8) (v := .int .i64 ((M + 1 : Nat) : Int)) rfl (by kernel_rfl) (by kernel_rfl) (by kernel_rfl) (fun _ _ _ h => h) (Or.inl ⟨by rfl, ?_⟩) hS ?_
  · intro U hU
    go_simp
  simp only [Act.put, List.setIfInBounds_toArray, List.set_cons_zero, List.set_cons_succ]
  refine wpAnyH_take (i := 9) (v := .int .i64 M) rfl (by kernel_rfl) (by kernel_rfl) (by kernel_rfl) (fun _ _ _ h => h) (Or.inl ⟨by rfl, ?_⟩) hS ?_
  · intro U hU
    go_simp
  simp only [Act.put, List.setIfInBounds_toArray, List.set_cons_zero, List.set_cons_succ]
  refine wpAnyH_take (i := 10) (v := .int .i64 lo) rfl (by kernel_rfl) (by kernel_rfl) (by kernel_rfl) (fun _ _ _ h => h) (Or.inl ⟨by rfl, ?_⟩) hS ?_
  · intro U hU
    go_simp
  simp only [Act.put, List.setIfInBounds_toArray, List.set_cons_zero, List.set_cons_succ]
  refine wpAnyH_take (i := 11) (v := .int .i64 hi) rfl (by kernel_rfl) (by kernel_rfl) (by kernel_rfl) (fun _ _ _ h => h) (Or.inl ⟨by rfl, ?_⟩) hS ?_
  · intro U hU
    go_simp
  simp only [Act.put, List.setIfInBounds_toArray, List.set_cons_zero, List.set_cons_succ]
  refine wpAnyH_take (i := 12) (v := .pointer (some ⟨q + 2, 0, none⟩)) rfl (by kernel_rfl) (by kernel_rfl) (by kernel_rfl) (fun _ _ _ h => h) (Or.inl ⟨by rfl, ?_⟩) hS ?_
  · intro U hU
    go_simp
    all_goals (intro h; exact absurd h (by omega))
  simp only [Act.put, List.setIfInBounds_toArray, List.set_cons_zero, List.set_cons_succ]
  refine wpAnyH_ready (rs := [13]) (by kernel_rfl) (by simp) ?_
  refine AllReadyH.cons (by simp only [List.getElem?_toArray, List.getElem?_cons_succ, List.getElem?_cons_zero]; rfl) (fun K' hK' => ?_) AllReadyH.nil
  have cd : W7.drew.cell? ⟨q + 2, 0, none⟩ = some (.int .i64 0) := own.cell (by omega)
  have fd0 : W7.drew.frozen? ⟨q + 2, 0, none⟩ = false := fd 0
  go_simp
  have hS : (W7.drew.setCell ⟨q + 2, 0, none⟩ (.int .i64 lo)).cell? ⟨b, 4, none⟩ = some (.slice (some ⟨q + 2, 0, none⟩) (M + 1) (M + 1)) := (World.cell?_of_block (Below.heap_setCell _ _ _ _ (by simp only; omega))).trans c4
  refine hK'.out _ (W7.drew.setCell ⟨q + 2, 0, none⟩ (.int .i64 lo)) hS (fun _ => ?_)
  clear cd fd0
  have own8 := own.drew.stored 0 lo
  have far8 : ∀ p, p ≠ q + 2 → (W7.drew.setCell ⟨q + 2, 0, none⟩ (.int .i64 lo)).heap[p]? = W7.heap[p]? := fun p hp => Below.heap_setCell W7.drew ⟨q + 2, 0, none⟩ _ p hp
  have hb8 := hbl7.drew.setCell (p := ⟨q + 2, 0, none⟩) (by simp only; omega) (.int .i64 lo)
  generalize W7.drew.setCell ⟨q + 2, 0, none⟩ (.int .i64 lo) = W8 at *
  clear hK' K'
  try simp only [Act.put, List.setIfInBounds_toArray, List.set_cons_zero, List.set_cons_succ]
  refine wpAnyH_take (i := 14) (v := .pointer (some ⟨q + 2, M, none⟩)) rfl (by kernel_rfl) (by kernel_rfl) (by kernel_rfl) (fun _ _ _ h => h) (Or.inl ⟨by rfl, ?_⟩) hS ?_
  · intro U hU
    go_simp
    all_goals (intro h; exact absurd h (by omega))
  simp only [Act.put, List.setIfInBounds_toArray, List.set_cons_zero, List.set_cons_succ]
  refine wpAnyH_ready (rs := [15]) (by kernel_rfl) (by simp) ?_
  refine AllReadyH.cons (by simp only [List.getElem?_toArray, List.getElem?_cons_succ, List.getElem?_cons_zero]; rfl) (fun K' hK' => ?_) AllReadyH.nil
  obtain ⟨cu, cd⟩ : ∃ cu, W8.cell? ⟨q + 2, M, none⟩ = some cu := ⟨_, own8.cell (by omega)⟩
  have fd0 : W8.frozen? ⟨q + 2, M, none⟩ = false := own8.frozen _
  go_simp
  refine hK'.out _ _ ((World.cell?_of_block (Below.heap_setCell W8 ⟨q + 2, M, none⟩ (.int .i64 hi) b (by simp only; omega))).trans hS) (fun _ => ?_)
  clear cd fd0
  clear hK' K'
  try simp only [Act.put, List.setIfInBounds_toArray, List.set_cons_zero, List.set_cons_succ]
  refine wpAnyH_done (by kernel_rfl) ?_ _
  simp only [OnlyN]
  have own9 := own8.stored M hi
  have far : ∀ p, p ≠ q + 2 → (W8.setCell ⟨q + 2, M, none⟩ (.int .i64 hi)).heap[p]? = W7.heap[p]? := fun p hp => (Below.heap_setCell _ ⟨q + 2, M, none⟩ _ p hp).trans (far8 p hp)
  have gb9 := (far b (by omega)).trans gb7
  have gm9 := (far q (by omega)).trans gm7
  have gp9 := (far (q + 1) (by omega)).trans gp7
  have hb9 := hb8.setCell (p := ⟨q + 2, M, none⟩) (by simp only; omega) (.int .i64 hi)
  clear far far8 hb8 gb7 gm7 gp7 hbl7 own8 hS
  generalize (W8.setCell ⟨q + 2, M, none⟩ (.int .i64 hi)) = W9 at *
  have m0 : W9.cell? ⟨q, 0, none⟩ = some (.int .i64 Xn) := cell_of_row _ _ 0 _ _ (0, 0) gm9
  have m1 : W9.cell? ⟨q, 1, none⟩ = some (.int .i64 Yn) := cell_of_row _ _ 1 _ _ (0, 0) gm9
  have m2 : W9.cell? ⟨q, 2, none⟩ = some (.int .i64 0) := cell_of_row _ _ 2 _ _ (0, 0) gm9
  have m3 : W9.cell? ⟨q, 3, none⟩ = some (.int .i64 0) := cell_of_row _ _ 3 _ _ (0, 0) gm9
  have m4 : W9.cell? ⟨q, 4, none⟩ = some (.slice (some ⟨b, 0, none⟩) 1 1) := cell_of_row _ _ 4 _ _ (0, 0) gm9
  have p0 : W9.cell? ⟨q + 1, 0, none⟩ = some (.int .i64 64) := cell_of_row _ _ 0 _ _ (0, 0) gp9
  have p1 : W9.cell? ⟨q + 1, 1, none⟩ = some (.int .i64 64) := cell_of_row _ _ 1 _ _ (0, 0) gp9
  have p2 : W9.cell? ⟨q + 1, 2, none⟩ = some (.int .i64 2) := cell_of_row _ _ 2 _ _ (0, 0) gp9
  have p3 : W9.cell? ⟨q + 1, 3, none⟩ = some (.int .i64 4) := cell_of_row _ _ 3 _ _ (0, 0) gp9
  have p4 : W9.cell? ⟨q + 1, 4, none⟩ = some (.int .i64 4) := cell_of_row _ _ 4 _ _ (0, 0) gp9
  have p5 : W9.cell? ⟨q + 1, 5, none⟩ = some (.int .i64 15) := cell_of_row _ _ 5 _ _ (0, 0) gp9
  have p6 : W9.cell? ⟨q + 1, 6, none⟩ = some (.int .i64 0) := cell_of_row _ _ 6 _ _ (0, 0) gp9
  have p7 : W9.cell? ⟨q + 1, 7, none⟩ = some (.int .i64 0) := cell_of_row _ _ 7 _ _ (0, 0) gp9
  have p8 : W9.cell? ⟨q + 1, 8, none⟩ = some (.int .i64 1) := cell_of_row _ _ 8 _ _ (0, 0) gp9
  have p9 : W9.cell? ⟨q + 1, 9, none⟩ = some (.bool false) := cell_of_row _ _ 9 _ _ (0, 0) gp9
  have p10 : W9.cell? ⟨q + 1, 10, none⟩ = some (.bool false) := cell_of_row _ _ 10 _ _ (0, 0) gp9
  have p11 : W9.cell? ⟨q + 1, 11, none⟩ = some (.bool false) := cell_of_row _ _ 11 _ _ (0, 0) gp9
  have hc9 : CompsAt W9 W9.heap.size (some ⟨b, 0, none⟩) 1 (fun _ => ⟨dp, true, dxn, dyn, some ⟨q + 2, 0, none⟩, (M + 1), (M + 1)⟩) := comps1' gb9 (Array.getElem?_eq_some_iff.1 gb9).1 rfl
  have CK := check_any Xn Yn 0 0 (some ⟨b, 0, none⟩) 1 1 (fun _ => ⟨dp, true, dxn, dyn, some ⟨q + 2, 0, none⟩, (M + 1), (M + 1)⟩) (fun _ => (fun k => if k = M then hi else if k = 0 then lo else 0)) 64 64 2 4 4 15 0 0 1 false false false W9 hc9 (by omega) (fun _ _ => own9.ints) (fun _ _ => by simp only; omega)
  have ce : checkE Xn Yn 0 0 1 (fun _ => ⟨dp, true, dxn, dyn, some ⟨q + 2, 0, none⟩, (M + 1), (M + 1)⟩) (fun _ => (fun k => if k = M then hi else if k = 0 then lo else 0)) 64 64 2 4 4 15 0 0 1 false = 0 := by
    rw [samp_ck true _ _ _ _ x3 y3 z3 z6 z9, HAR.out]
    rw [if_pos rfl, if_pos (sampOk_all fun i _ => by rw [HLO.out, HHI.out]; split; omega; split <;> omega)]
  rw [ce] at CK
  unfold imgV parV at CK
  have CK := Lib.hid CK
  clear ce hc9 gb9 gm9 gp9
  try go_wp2_with fail
  refine CK.out.mono ?_
  rintro e w10 ⟨rfl, hb10⟩
  go_wp2_with fail
  go_ret
  exact ⟨rfl, below_trans hb9 hb10⟩
theorem samples_5_true (x y dx dy depth which : Int) (hk : which % 6 = 5) (w : World) : Calls Try.prog 6 #[.int .i64 x, .int .i64 y, .int .i64 dx, .int .i64 dy, .int .i64 depth, .bool true, .int .i64 which] w fun e w' => e = .returned (.bool true) ∧ Below w.heap.size w w' := by
  have WW := Lib.hid (fun (v : World) => by have := within12 which 6 (by omega) (by omega) v; rw [hk] at this; exact this)
  have W20 := Lib.hid (fun (a : Int) (v : World) => within12e a 20 (by omega) (by omega) v)
  have W4_ := Lib.hid (fun (a : Int) (v : World) => within12e a 4 (by omega) (by omega) v)
  have W16 := Lib.hid (fun (a : Int) (v : World) => within12e a 16 (by omega) (by omega) v)
  clear hk
  go_enter Try.func6, Try.ntmps6
  go_wp2_with fail
  refine (known12 _).mono ?_
  rintro e w1 ⟨rfl, hb1⟩
  go_wp2_with fail
  refine (W20.out _ _).mono ?_
  rintro e w1' ⟨vx, x1, x2, rfl, rfl⟩
  go_wp2_with fail
  refine (W20.out _ _).mono ?_
  rintro e w1' ⟨vy, y1, y2, rfl, rfl⟩
  obtain ⟨Xn, hXn⟩ : ∃ Xn : Nat, 1 + vx = Xn := Int.eq_ofNat_of_zero_le (by omega)
  obtain ⟨Yn, hYn⟩ : ∃ Yn : Nat, 1 + vy = Yn := Int.eq_ofNat_of_zero_le (by omega)
  have x3 : 1 ≤ Xn ∧ Xn ≤ 20 := by omega
  have y3 : 1 ≤ Yn ∧ Yn ≤ 20 := by omega
  go_wp2_with fail
  refine (one_any Xn Yn 0 0 _).mono ?_
  clear hXn hYn x1 x2 y1 y2 W20
  rintro e w2 ⟨b, rfl, gb, hbb, hb2⟩
  unfold parV
  have hbl := below_trans hb1 hb2
  have hlt : b < w2.heap.size := (Array.getElem?_eq_some_iff.1 gb).1
  have hws := hbl.size
  have hwb := Nat.le_trans hb1.size hbb
  clear hb1 hb2 hbb
  go_wp2_with fail
  generalize hw3 : World.alloc (World.alloc w2 _) _ = W3
  have gm3 : W3.heap[w2.heap.size]? = some (.cells #[.int .i64 Xn, .int .i64 Yn, .int .i64 0, .int .i64 0, .slice (some ⟨b, 0, none⟩) 1 1] 25 (0, 0)) := by rw [← hw3]; exact (Below.heap_alloc _ _ _ (by simp)).trans (heap_alloc_new w2 _)
  have gp3 : W3.heap[w2.heap.size + 1]? = some (.cells #[.int .i64 64, .int .i64 64, .int .i64 2, .int .i64 4, .int .i64 4, .int .i64 15, .int .i64 0, .int .i64 0, .int .i64 1, .bool false, .bool false, .bool false] 27 (0, 0)) := by rw [← hw3]; exact heap_alloc_new2 w2 _ _
  have gb3 : W3.heap[b]? = some (.cells #[.int .i64 8, .bool false, .int .i64 1, .int .i64 1, .slice none 0 0] 34 (0, 0)) := by rw [← hw3]; exact (Below.heap_alloc _ _ _ (by simp; omega)).trans ((Below.heap_alloc _ _ _ (by omega)).trans gb)
  have hs3 : W3.heap.size = w2.heap.size + 2 := by rw [← hw3]; simp
  have hbl3 : Below w.heap.size w W3 := by rw [← hw3]; exact below_alloc (below_alloc hbl _) _
  obtain ⟨q, hq⟩ : ∃ q, w2.heap.size = q := ⟨_, rfl⟩
  clear hw3 gb hbl
  rw [hq] at gm3 gp3 hs3 hws hlt
  rw [hq]
  clear hq
  have c0 : W3.cell? ⟨b, 0, none⟩ = some (.int .i64 8) := cell_of_row _ _ 0 _ _ (0, 0) gb3
  have c1 : W3.cell? ⟨b, 1, none⟩ = some (.bool false) := cell_of_row _ _ 1 _ _ (0, 0) gb3
  have c2 : W3.cell? ⟨b, 2, none⟩ = some (.int .i64 1) := cell_of_row _ _ 2 _ _ (0, 0) gb3
  have c3 : W3.cell? ⟨b, 3, none⟩ = some (.int .i64 1) := cell_of_row _ _ 3 _ _ (0, 0) gb3
  have fb : ∀ j, W3.frozen? ⟨b, j, none⟩ = false := fun j => frozen_of_row _ _ j _ _ gb3
  refine (W4_.out _ _).mono ?_
  rintro e w4 ⟨vdx, z1, z2, rfl, rfl⟩
  obtain ⟨dxn, hdx⟩ : ∃ d : Nat, 1 + vdx = d := Int.eq_ofNat_of_zero_le (by omega)
  have z3 : 1 ≤ dxn ∧ dxn ≤ 4 := by omega
  go_wp2_with fail
  refine (W4_.out _ _).mono ?_
  rintro e w4 ⟨vdy, z4, z5, rfl, rfl⟩
  obtain ⟨dyn, hdy⟩ : ∃ d : Nat, 1 + vdy = d := Int.eq_ofNat_of_zero_le (by omega)
  have z6 : 1 ≤ dyn ∧ dyn ≤ 4 := by omega
  go_wp2_with fail
  refine (W16.out _ _).mono ?_
  rintro e w4 ⟨vdp, z7, z8, rfl, rfl⟩
  obtain ⟨dp, hdp⟩ : ∃ d : Nat, 1 + vdp = d := Int.eq_ofNat_of_zero_le (by omega)
  have z9 : 1 ≤ dp ∧ dp ≤ 16 := by omega
  go_wp2_with fail
  clear hdx hdy hdp z1 z2 z4 z5 z7 z8 c0 c1 c2 c3 fb W4_ W16
  generalize hw5 : World.setCell (World.setCell (World.setCell (World.setCell W3 _ _) _ _) _ _) _ _ = W5
  have gb5 : W5.heap[b]? = some (.cells #[.int .i64 dp, .bool true, .int .i64 dxn, .int .i64 dyn, .slice none 0 0] 34 (0, 0)) := by rw [← hw5]; exact heap_set1 (heap_set1 (heap_set1 (heap_set1 gb3 _) _) _) _
  have far : ∀ p, p ≠ b → W5.heap[p]? = W3.heap[p]? := fun p hp => by
    rw [← hw5]
    exact (Below.heap_setCell _ ⟨b, 1, none⟩ _ p hp).trans ((Below.heap_setCell _ ⟨b, 0, none⟩ _ p hp).trans ((Below.heap_setCell _ ⟨b, 3, none⟩ _ p hp).trans (Below.heap_setCell _ ⟨b, 2, none⟩ _ p hp)))
  have gm5 := (far q (by omega)).trans gm3
  have gp5 := (far (q + 1) (by omega)).trans gp3
  have hs5 : W5.heap.size = q + 2 := by rw [← hw5]; simp [hs3]
  have hbl5 : Below w.heap.size w W5 := by rw [← hw5]; exact (((hbl3.setCell (p := ⟨b, 2, none⟩) hwb _).setCell (p := ⟨b, 3, none⟩) hwb _).setCell (p := ⟨b, 0, none⟩) hwb _).setCell (p := ⟨b, 1, none⟩) hwb _
  clear hw5 far gb3 gm3 gp3 hs3 hbl3
  have c0 : W5.cell? ⟨b, 0, none⟩ = some (.int .i64 dp) := cell_of_row _ _ 0 _ _ (0, 0) gb5
  have c2 : W5.cell? ⟨b, 2, none⟩ = some (.int .i64 dxn) := cell_of_row _ _ 2 _ _ (0, 0) gb5
  have c3 : W5.cell? ⟨b, 3, none⟩ = some (.int .i64 dyn) := cell_of_row _ _ 3 _ _ (0, 0) gb5
  have c4 : W5.cell? ⟨b, 4, none⟩ = some (.slice none 0 0) := cell_of_row _ _ 4 _ _ (0, 0) gb5
  have f4 : W5.frozen? ⟨b, 4, none⟩ = false := frozen_of_row _ _ 4 _ _ gb5
  have m0 : W5.cell? ⟨q, 0, none⟩ = some (.int .i64 Xn) := cell_of_row _ _ 0 _ _ (0, 0) gm5
  have m1 : W5.cell? ⟨q, 1, none⟩ = some (.int .i64 Yn) := cell_of_row _ _ 1 _ _ (0, 0) gm5
  have e1 : ((Xn : Int) + dxn - 1).tdiv dxn = ((byN Xn dxn : Nat) : Int) := by
    rw [show (Xn : Int) + dxn - 1 = ((Xn + dxn - 1 : Nat) : Int) by omega]; rfl
  have e2 : ((Yn : Int) + dyn - 1).tdiv dyn = ((byN Yn dyn : Nat) : Int) := by
    rw [show (Yn : Int) + dyn - 1 = ((Yn + dyn - 1 : Nat) : Int) by omega]; rfl
  have a1 : byN Xn dxn ≤ Xn := byN_le (by omega)
  have a2 : byN Yn dyn ≤ Yn := byN_le (by omega)
  have a3 : 1 ≤ byN Xn dxn := (Nat.le_div_iff_mul_le (by omega)).2 (by omega)
  have a4 : 1 ≤ byN Yn dyn := (Nat.le_div_iff_mul_le (by omega)).2 (by omega)
  have har : areaN Xn Yn 0 0 dxn dyn = byN Xn dxn * byN Yn dyn := by
    unfold areaN
    have h0 : ∀ d, 1 ≤ d → byN 0 d = 0 := fun d hd => by unfold byN; exact Nat.div_eq_of_lt (by omega)
    rw [h0 _ (by omega), h0 _ (by omega), Nat.sub_zero, Nat.sub_zero]
  generalize byN Xn dxn = A1 at *
  generalize byN Yn dyn = B1 at *
  have p1 : A1 * B1 ≤ 20 * 20 := Nat.mul_le_mul (by omega) (by omega)
  have p2 : 1 ≤ A1 * B1 := Nat.mul_pos (by omega) (by omega)
  have p3 : (A1 : Int) * B1 = ((A1 * B1 : Nat) : Int) := by simp
  generalize A1 * B1 = N at *
  have HN400 := Lib.hid (show N ≤ 400 from p1)
  have HAR := Lib.hid har
  clear har
  obtain ⟨sx, hsx⟩ : ∃ s, (Xn : Int) + dxn = s := ⟨_, rfl⟩
  obtain ⟨sx1, hsx1⟩ : ∃ t, sx - 1 = t := ⟨_, rfl⟩
  obtain ⟨sy, hsy⟩ : ∃ s, (Yn : Int) + dyn = s := ⟨_, rfl⟩
  obtain ⟨sy1, hsy1⟩ : ∃ t, sy - 1 = t := ⟨_, rfl⟩
  rw [hsx, hsx1] at e1
  rw [hsy, hsy1] at e2
  have w1 : IntKind.i64.wrap sx = sx := wr (by omega)
  have w2' : IntKind.i64.wrap sx1 = sx1 := wr (by omega)
  have w3' : IntKind.i64.wrap sy = sy := wr (by omega)
  have w4' : IntKind.i64.wrap sy1 = sy1 := wr (by omega)
  have w5' : IntKind.i64.wrap (A1 : Int) = A1 := wr (by omega)
  have w6' : IntKind.i64.wrap (B1 : Int) = B1 := wr (by omega)
  have w7' : IntKind.i64.wrap (N : Int) = N := wr (by omega)
  have nz1 : ((dxn : Int) = 0) = False := eq_false (by omega)
  have nz2 : ((dyn : Int) = 0) = False := eq_false (by omega)
  go_quiet (fail)
  clear e1 e2 a1 a2 a3 a4 p1 p3 w1 w2' w3' w4' w5' w6' w7' nz1 nz2 hsx hsx1 hsy hsy1 m0 m1 c2 c3
  have p1 : N ≤ 400 := HN400.out
  obtain ⟨m, e1, e2, e3, e4⟩ : ∃ m : Nat, 2 ^ dp = 2 * m ∧ 2 ^ (dp - 1) = m ∧ 1 ≤ m ∧ m ≤ 32768 := by
    obtain ⟨k, rfl⟩ : ∃ k, dp = k + 1 := ⟨dp - 1, by omega⟩
    refine ⟨2 ^ k, by rw [Nat.pow_succ, Nat.mul_comm], rfl, Nat.one_le_two_pow, ?_⟩
    calc 2 ^ k ≤ 2 ^ 15 := Nat.pow_le_pow_right (by omega) (by omega)
      _ = 32768 := rfl
  have hlo : loB dp true = -(m : Nat) := by unfold loB; rw [e2]; rfl
  have hhi : hiB dp true = ((m : Nat) : Int) - 1 := by unfold hiB; first | rw [e1]; rfl | rw [e2]; rfl
  have u1 : IntKind.u64.wrap (dp : Int) = dp := by rw [IntKind.wrap_u64]; omega
  have mn : min dp 64 = dp := by omega
  have e5 : (2 : Int) ^ dp = 2 * (m : Int) := by
    have : (2 : Int) ^ dp = ((2 ^ dp : Nat) : Int) := by simp
    rw [this, e1]; simp
  have q1 : IntKind.i64.wrap (2 ^ dp) = 2 * (m : Int) := by rw [e5]; exact wr (by omega)
  have q2 : IntKind.i64.wrap (2 * (m : Int) - 1) = 2 * (m : Int) - 1 := wr (by omega)
  have HM2 := Lib.hid e2
  have HLO := Lib.hid hlo
  have HHI := Lib.hid hhi
  clear hlo hhi e1 e2 e5
  have hmk := fun u => run_make_row' (P := Try.prog) 32 3 (.int .i64 0) 8 Try.underlying32 int_info12 rfl .i64 .i64 N (by omega) (by omega) u
  have af4 : ∀ t, ((W5.drewN t).alloc (.cells (madeCells #[.int .i64 0] N) 3)).cell? ⟨b, 4, none⟩ = some (.slice none 0 0) := fun t => (World.cell?_of_block (Below.heap_alloc (W5.drewN t) _ b (by show b < W5.heap.size; omega))).trans c4
  have ag4 : ∀ t, ((W5.drewN t).alloc (.cells (madeCells #[.int .i64 0] N) 3)).frozen? ⟨b, 4, none⟩ = false := fun t => (World.frozen?_of_block (a := ⟨b, 4, none⟩) (Below.heap_alloc (W5.drewN t) _ b (by show b < W5.heap.size; omega))).trans f4
  go_wp2_with fail
  have c0' : (W5.drewN nq).cell? ⟨b, 0, none⟩ = some (.int .i64 dp) := c0
  go_quiet (fail)
  go_wp2_with fail
  have u3 : IntKind.i64.wrap ((dp : Int) - 1) = ((dp - 1 : Nat) : Int) := by rw [show (dp : Int) - 1 = ((dp - 1 : Nat) : Int) by omega]; exact wr (by omega)
  have u4 : IntKind.u64.wrap ((dp - 1 : Nat) : Int) = ((dp - 1 : Nat) : Int) := by rw [IntKind.wrap_u64]; omega
  have u5 : (dp : Int) - 1 = ((dp - 1 : Nat) : Int) := by omega
  have u6 : min (dp - 1) 64 = dp - 1 := by omega
  have u8 : IntKind.i64.wrap (2 ^ (dp - 1)) = (m : Int) := by
    rw [show (2 : Int) ^ (dp - 1) = ((2 ^ (dp - 1) : Nat) : Int) by simp, HM2.out]; exact wr (by omega)
  have u9 : IntKind.i64.wrap (0 - (m : Int)) = -(m : Int) := by rw [show (0 : Int) - m = -(m : Int) by omega]; exact wr (by omega)
  have u10 : IntKind.i64.wrap ((m : Int) - 1) = (m : Int) - 1 := wr (by omega)
  generalize dp - 1 = dp1 at *
  go_quiet (fail)
  go_wp2_with fail
  generalize hw7 : World.setCell (World.alloc (World.drewN W5 _) _) _ _ = W7
  have gb7 : W7.heap[b]? = some (.cells #[.int .i64 dp, .bool true, .int .i64 dxn, .int .i64 dyn, .slice (some ⟨q + 2, 0, none⟩) N N] 34 (0, 0)) := by rw [← hw7]; exact heap_set1 ((Below.heap_alloc (W5.drewN _) _ b (by show b < W5.heap.size; omega)).trans gb5) _
  have far : ∀ p, p ≠ b → p < q + 2 → W7.heap[p]? = W5.heap[p]? := fun p hp hp2 => by
    rw [← hw7]
    exact (Below.heap_setCell _ ⟨b, 4, none⟩ _ p hp).trans (Below.heap_alloc (W5.drewN _) _ p (by show p < W5.heap.size; omega))
  have gm7 := (far q (by omega) (by omega)).trans gm5
  have gp7 := (far (q + 1) (by omega) (by omega)).trans gp5
  have hs7 : W7.heap.size = q + 3 := by rw [← hw7]; simp [World.drewN, hs5]
  have hbl7 : Below w.heap.size w W7 := by rw [← hw7]; exact (below_alloc (below_drewN hbl5 _) _).setCell (p := ⟨b, 4, none⟩) hwb _
  have own : OwnI W7 (q + 2) 3 (.slice (some ⟨q + 2, 0, none⟩) N N) N (fun _ => 0) := by
    rw [← hw7, ← hs5]
    refine OwnI.other (OwnI.made (W5.drewN _) W5.heap.size N 3 (Nat.le_refl _) (by omega)) ?_ _
    simp only [Value.ownBlock, ne_eq, Option.some.injEq, World.drewN]
    omega
  clear hw7 far gb5 gm5 gp5 hs5 hbl5 hmk af4 ag4 c4 f4 c0 c0'
  refine (WW.out _).mono ?_
  rintro e w8 ⟨rfl, rfl⟩
  clear WW
  have c4 : W7.cell? ⟨b, 4, none⟩ = some (.slice (some ⟨q + 2, 0, none⟩) N N) := cell_of_row _ _ 4 _ _ (0, 0) gb7
  have f4 : W7.frozen? ⟨b, 4, none⟩ = false := frozen_of_row _ _ 4 _ _ gb7
  have gb9 := gb7
  have gm9 := gm7
  have gp9 := gp7
  have hb9 := hbl7
  clear c4 f4 gb7 gm7 gp7 hbl7
  have m0 : W7.cell? ⟨q, 0, none⟩ = some (.int .i64 Xn) := cell_of_row _ _ 0 _ _ (0, 0) gm9
  have m1 : W7.cell? ⟨q, 1, none⟩ = some (.int .i64 Yn) := cell_of_row _ _ 1 _ _ (0, 0) gm9
  have m2 : W7.cell? ⟨q, 2, none⟩ = some (.int .i64 0) := cell_of_row _ _ 2 _ _ (0, 0) gm9
  have m3 : W7.cell? ⟨q, 3, none⟩ = some (.int .i64 0) := cell_of_row _ _ 3 _ _ (0, 0) gm9
  have m4 : W7.cell? ⟨q, 4, none⟩ = some (.slice (some ⟨b, 0, none⟩) 1 1) := cell_of_row _ _ 4 _ _ (0, 0) gm9
  have p0 : W7.cell? ⟨q + 1, 0, none⟩ = some (.int .i64 64) := cell_of_row _ _ 0 _ _ (0, 0) gp9
  have p1 : W7.cell? ⟨q + 1, 1, none⟩ = some (.int .i64 64) := cell_of_row _ _ 1 _ _ (0, 0) gp9
  have p2 : W7.cell? ⟨q + 1, 2, none⟩ = some (.int .i64 2) := cell_of_row _ _ 2 _ _ (0, 0) gp9
  have p3 : W7.cell? ⟨q + 1, 3, none⟩ = some (.int .i64 4) := cell_of_row _ _ 3 _ _ (0, 0) gp9
  have p4 : W7.cell? ⟨q + 1, 4, none⟩ = some (.int .i64 4) := cell_of_row _ _ 4 _ _ (0, 0) gp9
  have p5 : W7.cell? ⟨q + 1, 5, none⟩ = some (.int .i64 15) := cell_of_row _ _ 5 _ _ (0, 0) gp9
  have p6 : W7.cell? ⟨q + 1, 6, none⟩ = some (.int .i64 0) := cell_of_row _ _ 6 _ _ (0, 0) gp9
  have p7 : W7.cell? ⟨q + 1, 7, none⟩ = some (.int .i64 0) := cell_of_row _ _ 7 _ _ (0, 0) gp9
  have p8 : W7.cell? ⟨q + 1, 8, none⟩ = some (.int .i64 1) := cell_of_row _ _ 8 _ _ (0, 0) gp9
  have p9 : W7.cell? ⟨q + 1, 9, none⟩ = some (.bool false) := cell_of_row _ _ 9 _ _ (0, 0) gp9
  have p10 : W7.cell? ⟨q + 1, 10, none⟩ = some (.bool false) := cell_of_row _ _ 10 _ _ (0, 0) gp9
  have p11 : W7.cell? ⟨q + 1, 11, none⟩ = some (.bool false) := cell_of_row _ _ 11 _ _ (0, 0) gp9
  have hc9 : CompsAt W7 W7.heap.size (some ⟨b, 0, none⟩) 1 (fun _ => ⟨dp, true, dxn, dyn, some ⟨q + 2, 0, none⟩, N, N⟩) := comps1' gb9 (Array.getElem?_eq_some_iff.1 gb9).1 rfl
  have CK := check_any Xn Yn 0 0 (some ⟨b, 0, none⟩) 1 1 (fun _ => ⟨dp, true, dxn, dyn, some ⟨q + 2, 0, none⟩, N, N⟩) (fun _ => (fun _ => 0)) 64 64 2 4 4 15 0 0 1 false false false W7 hc9 (by omega) (fun _ _ => own.ints) (fun _ _ => by simp only; omega)
  have ce : checkE Xn Yn 0 0 1 (fun _ => ⟨dp, true, dxn, dyn, some ⟨q + 2, 0, none⟩, N, N⟩) (fun _ => (fun _ => 0)) 64 64 2 4 4 15 0 0 1 false = 0 := by
    rw [samp_ck true _ _ _ _ x3 y3 z3 z6 z9, HAR.out]
    rw [if_pos rfl, if_pos (sampOk_all fun i _ => by rw [HLO.out, HHI.out]; omega)]
  rw [ce] at CK
  unfold imgV parV at CK
  have CK := Lib.hid CK
  clear ce hc9 gb9 gm9 gp9
  try go_wp2_with fail
  refine CK.out.mono ?_
  rintro e w10 ⟨rfl, hb10⟩
  go_wp2_with fail
  go_ret
  exact ⟨rfl, below_trans hb9 hb10⟩
theorem samples_any (x y dx dy depth : Int) (sg : Bool) (which : Int) (w : World) : Calls Try.prog 6 #[.int .i64 x, .int .i64 y, .int .i64 dx, .int .i64 dy, .int .i64 depth, .bool sg, .int .i64 which] w fun e w' => e = .returned (.bool true) ∧ Below w.heap.size w w' := by
  have h : which % 6 = 0 ∨ which % 6 = 1 ∨ which % 6 = 2 ∨ which % 6 = 3 ∨ which % 6 = 4 ∨ which % 6 = 5 := by omega
  cases sg
  · rcases h with h | h | h | h | h | h
    · exact samples_0_false x y dx dy depth which h w
    · exact samples_1_false x y dx dy depth which h w
    · exact samples_2_false x y dx dy depth which h w
    · exact samples_3_false x y dx dy depth which h w
    · exact samples_4_false x y dx dy depth which h w
    · exact samples_5_false x y dx dy depth which h w
  · rcases h with h | h | h | h | h | h
    · exact samples_0_true x y dx dy depth which h w
    · exact samples_1_true x y dx dy depth which h w
    · exact samples_2_true x y dx dy depth which h w
    · exact samples_3_true x y dx dy depth which h w
    · exact samples_4_true x y dx dy depth which h w
    · exact samples_5_true x y dx dy depth which h w
end Go.Proofs.Ytmieoifagnpbiaa
