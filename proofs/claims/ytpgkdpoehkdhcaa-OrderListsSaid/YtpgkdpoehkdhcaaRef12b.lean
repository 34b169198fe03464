/- CONTRACTS of waveletref12.Part, Whole, Area; waveletref11.Bounds; waveletlaw12.canvasPart. -/
import Derived.Test.YtpgkdpoehkdhcaaRef12a
namespace Go.Proofs.Ytpgkdpoehkdhcaa
open Go.RowKit
set_option maxRecDepth 100000
set_option maxHeartbeats 4000000
set_option linter.unusedVariables false
set_option linter.unusedSimpArgs false

theorem partR_any (r : Rc) (dx dy : Nat) (h0 : -1073741824 ≤ r.x0 ∧ r.x0 ≤ 1073741824) (h1 : -1073741824 ≤ r.y0 ∧ r.y0 ≤ 1073741824) (h2 : -1073741824 ≤ r.x1 ∧ r.x1 ≤ 1073741824) (h3 : -1073741824 ≤ r.y1 ∧ r.y1 ≤ 1073741824)
    (hx : 1 ≤ dx ∧ dx ≤ 1073741824) (hy : 1 ≤ dy ∧ dy ≤ 1073741824) (w : World) :
    Calls Try.prog 16 #[rcV r, .int .i64 dx, .int .i64 dy] w fun e w' => e = .returned (rcV ⟨clI r.x0 dx, clI r.y0 dy, clI r.x1 dx, clI r.y1 dy⟩) ∧ Below w.heap.size w w' := by
  have H := Lib.hid (fun v => by have := over12_any r dx dy 0 0 h0 h1 h2 h3 hx hy (by omega) (by omega) v; simp only [Int.sub_zero] at this; exact this)
  clear h0 h1 h2 h3
  unfold rcV at *
  simp only at *
  generalize clI r.x0 dx = a0 at *
  generalize clI r.y0 dy = b0 at *
  generalize clI r.x1 dx = a1 at *
  generalize clI r.y1 dy = b1 at *
  obtain ⟨x0, y0, x1, y1⟩ := r
  simp only at *
  go_enter Try.func16, Try.ntmps16
  go_wp2_with fail
  generalize hw2 : World.alloc (World.alloc w _) _ = w2
  have d0 : w2.cell? ⟨w.heap.size + 1, 0, none⟩ = some (.int .i64 0) := by rw [← hw2]; simp [go_sem]
  have d1 : w2.cell? ⟨w.heap.size + 1, 1, none⟩ = some (.int .i64 0) := by rw [← hw2]; simp [go_sem]
  have d2 : w2.cell? ⟨w.heap.size + 1, 2, none⟩ = some (.int .i64 0) := by rw [← hw2]; simp [go_sem]
  have d3 : w2.cell? ⟨w.heap.size + 1, 3, none⟩ = some (.int .i64 0) := by rw [← hw2]; simp [go_sem]
  have lt : w.heap.size + 1 < w2.heap.size := by rw [← hw2]; simp
  have dz : ∀ k, w2.frozen? ⟨w.heap.size + 1, k, none⟩ = false := fun k => by rw [← hw2]; simp [go_sem]
  have bb : Below w.heap.size w w2 := by rw [← hw2]; exact below_alloc (below_alloc (Below.refl _ _) _) _
  clear hw2
  refine (H.out w2).mono ?_
  rintro e w3 ⟨rfl, hb3⟩
  have d0 := (hb3.cell (p := ⟨w.heap.size + 1, 0, none⟩) lt).trans d0
  have d1 := (hb3.cell (p := ⟨w.heap.size + 1, 1, none⟩) lt).trans d1
  have d2 := (hb3.cell (p := ⟨w.heap.size + 1, 2, none⟩) lt).trans d2
  have d3 := (hb3.cell (p := ⟨w.heap.size + 1, 3, none⟩) lt).trans d3
  have dz := fun k => (hb3.frozen (p := ⟨w.heap.size + 1, k, none⟩) lt).trans (dz k)
  have bb := below_trans bb hb3
  have bz := (((bb.setCell (p := ⟨w.heap.size + 1, 0, none⟩) (by simp only; omega) (.int .i64 a0)).setCell (p := ⟨w.heap.size + 1, 1, none⟩) (by simp only; omega) (.int .i64 b0)).setCell (p := ⟨w.heap.size + 1, 2, none⟩) (by simp only; omega) (.int .i64 a1)).setCell (p := ⟨w.heap.size + 1, 3, none⟩) (by simp only; omega) (.int .i64 b1)
  clear hb3 bb
  go_wp2_with fail
  refine bodyPost_ret (v := .agg #[.int .i64 a0, .int .i64 b0, .int .i64 a1, .int .i64 b1]) (by simp [results, Try.results16, go_sem, d0, d1, d2, d3]) rfl ⟨rfl, bz⟩

theorem wholeR_any (X Y Ox Oy : Int) (A : Option Addr) (n c : Nat) (w : World) :
    Calls Try.prog 37 #[imgV X Y Ox Oy A n c] w fun e w' => e = .returned (rcV ⟨Ox, Oy, X, Y⟩) ∧ Below w.heap.size w w' := by
  unfold rcV imgV
  go_enter Try.func37, Try.ntmps37
  go_wp2_with fail
  refine bodyPost_ret (v := .agg #[.int .i64 Ox, .int .i64 Oy, .int .i64 X, .int .i64 Y]) (by simp [results, Try.results37, go_sem]) rfl ⟨rfl, below_alloc (below_alloc (Below.refl _ _) _) _⟩

/-- how many places a rectangle has -/
def areaR (r : Rc) : Nat := (r.x1 - r.x0).toNat * (r.y1 - r.y0).toNat
theorem areaR_any (r : Rc) (h0 : -1048576 ≤ r.x0 ∧ r.x0 ≤ 1048576) (h1 : -1048576 ≤ r.y0 ∧ r.y0 ≤ 1048576) (h2 : -1048576 ≤ r.x1 ∧ r.x1 ≤ 1048576) (h3 : -1048576 ≤ r.y1 ∧ r.y1 ≤ 1048576) (w : World) :
    Calls Try.prog 19 #[rcV r] w fun e w' => e = .returned (.int .i64 (areaR r : Nat)) ∧ Below w.heap.size w w' := by
  obtain ⟨x0, y0, x1, y1⟩ := r
  unfold rcV areaR
  simp only at *
  have hda : (if x1 - x0 < 0 then (0 : Int) else x1 - x0) = ((x1 - x0).toNat : Int) := by split <;> omega
  have hdb : (if y1 - y0 < 0 then (0 : Int) else y1 - y0) = ((y1 - y0).toNat : Int) := by split <;> omega
  have la : (x1 - x0).toNat ≤ 2097152 := by omega
  have lb : (y1 - y0).toNat ≤ 2097152 := by omega
  have ba : -2097152 ≤ x1 - x0 ∧ x1 - x0 ≤ 2097152 := by omega
  have bb : -2097152 ≤ y1 - y0 ∧ y1 - y0 ≤ 2097152 := by omega
  have lab : (x1 - x0).toNat * (y1 - y0).toNat ≤ 2097152 * 2097152 := Nat.mul_le_mul la lb
  have pab : ((x1 - x0).toNat : Int) * ((y1 - y0).toNat : Int) = (((x1 - x0).toNat * (y1 - y0).toNat : Nat) : Int) := (Int.natCast_mul _ _).symm
  generalize (x1 - x0).toNat * (y1 - y0).toNat = N at *
  generalize (x1 - x0).toNat = Da at *
  generalize (y1 - y0).toNat = Db at *
  obtain ⟨za, hza⟩ : ∃ z, x1 - x0 = z := ⟨_, rfl⟩
  obtain ⟨zb, hzb⟩ : ∃ z, y1 - y0 = z := ⟨_, rfl⟩
  rw [hza] at hda ba
  rw [hzb] at hdb bb
  have hb := below_alloc (Below.refl w.heap.size w) (.cells #[.int .i64 x0, .int .i64 y0, .int .i64 x1, .int .i64 y1] 38)
  go_enter Try.func19, Try.ntmps19
  go_wp2_with fail
  go_ret
  exact ⟨rfl, hb⟩

theorem boundsR_any (dp : Nat) (sg : Bool) (h1 : 1 ≤ dp) (h2 : dp ≤ 16) (w : World) :
    Calls Try.prog 22 #[.int .i64 dp, .bool sg] w fun e w' => e = .returned (.tuple #[.int .i64 (loB dp sg), .int .i64 (hiB dp sg)]) ∧ w' = w := by
  obtain ⟨m, e1, e2, e3, e4⟩ : ∃ m : Nat, 2 ^ dp = 2 * m ∧ 2 ^ (dp - 1) = m ∧ 1 ≤ m ∧ m ≤ 32768 := by
    obtain ⟨k, rfl⟩ : ∃ k, dp = k + 1 := ⟨dp - 1, by omega⟩
    refine ⟨2 ^ k, by rw [Nat.pow_succ, Nat.mul_comm], rfl, Nat.one_le_two_pow, ?_⟩
    calc 2 ^ k ≤ 2 ^ 15 := Nat.pow_le_pow_right (by omega) (by omega)
      _ = 32768 := rfl
  have u1 : (dp : Int) - 1 = ((dp - 1 : Nat) : Int) := by omega
  have u2 : dp - 1 ≤ 15 := by omega
  have q1 : wrap64 (2 ^ (dp - 1)) = (m : Int) := by
    rw [show (2 : Int) ^ (dp - 1) = ((2 ^ (dp - 1) : Nat) : Int) by simp, e2]; exact IntWalk.wrap64_in _ (by omega)
  have q3 : (0 : Int) - m = -(m : Int) := by omega
  unfold loB hiB
  rw [e1, e2]
  clear e1 e2
  generalize dp - 1 = d1 at *
  have hd1 : ¬ ((d1 : Int) < 0) := by omega
  rcases sg with _ | _
  · simp only [Bool.false_eq_true, if_false]
    go_enter Try.func22, Try.ntmps22
    go_wp2_with fail
    go_ret2
    exact ⟨by simp, rfl⟩
  · simp only [if_true]
    go_enter Try.func22, Try.ntmps22
    go_wp2_with fail
    go_ret2
    exact ⟨by simp, rfl⟩
end Go.Proofs.Ytpgkdpoehkdhcaa
