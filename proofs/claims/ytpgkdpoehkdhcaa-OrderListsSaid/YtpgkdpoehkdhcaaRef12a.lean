/- CONTRACTS of waveletref12.ceil, over, Part, Whole, Area; waveletref11.Bounds; waveletlaw12.canvasPart. -/
import Derived.Test.YtpgkdpoehkdhcaaPart12
import Derived.Test.YtpgkdpoehkdhcaaHeld
namespace Go.Proofs.Ytpgkdpoehkdhcaa
open Go.RowKit
set_option maxRecDepth 100000
set_option maxHeartbeats 4000000
set_option linter.unusedVariables false
set_option linter.unusedSimpArgs false

/-- a by b, up -/
def clI (a : Int) (b : Nat) : Int := -((-a) / (b : Int))
theorem clI_pos {a : Int} {b : Nat} (h : 0 ≤ a) (hb : 1 ≤ b) : (a + b - 1) / (b : Int) = clI a b := by
  unfold clI
  have hb' : (0 : Int) < b := by omega
  have h1 : (a + b - 1) / (b : Int) = (a - 1) / b + 1 := by
    rw [show a + (b : Int) - 1 = (a - 1) + b * 1 by omega, Int.add_mul_ediv_left _ _ (by omega)]
  rw [h1]
  have e1 := Int.mul_ediv_add_emod (a - 1) b
  have e2 := Int.emod_nonneg (a - 1) (show (b : Int) ≠ 0 by omega)
  have e3 := Int.emod_lt_of_pos (a - 1) hb'
  have f1 := Int.mul_ediv_add_emod (-a) b
  have f2 := Int.emod_nonneg (-a) (show (b : Int) ≠ 0 by omega)
  have f3 := Int.emod_lt_of_pos (-a) hb'
  generalize (a - 1) / (b : Int) = x at *
  generalize (a - 1) % (b : Int) = r at *
  generalize (-a) / (b : Int) = y at *
  generalize (-a) % (b : Int) = s at *
  have h2 : (b : Int) * (x + y + 1) = b - 1 - r - s := by rw [Int.mul_add, Int.mul_add, Int.mul_one]; omega
  have h3 : x + y + 1 < 1 := by
    rcases Int.lt_or_le (x + y + 1) 1 with h | h
    · exact h
    · have := Int.mul_le_mul_of_nonneg_left h (Int.le_of_lt hb'); omega
  have h4 : -1 < x + y + 1 := by
    rcases Int.lt_or_le (-1) (x + y + 1) with h | h
    · exact h
    · have := Int.mul_le_mul_of_nonneg_left h (Int.le_of_lt hb'); omega
  omega
theorem clI_nat (a b : Nat) (hb : 1 ≤ b) : clI (a : Int) b = ((byN a b : Nat) : Int) := by
  rw [← clI_pos (by omega) hb]
  unfold byN
  rw [show (a : Int) + b - 1 = ((a + b - 1 : Nat) : Int) by omega]
  rfl
theorem clI_bd {a : Int} {b : Nat} (hb : 1 ≤ b) (h : -1152921504606846976 ≤ a ∧ a ≤ 1152921504606846976) : -1152921504606846976 ≤ clI a b ∧ clI a b ≤ 1152921504606846976 := by
  unfold clI
  have f1 := Int.mul_ediv_add_emod (-a) b
  have f2 := Int.emod_nonneg (-a) (show (b : Int) ≠ 0 by omega)
  have f3 := Int.emod_lt_of_pos (-a) (show (0 : Int) < b by omega)
  generalize (-a) / (b : Int) = y at *
  generalize (-a) % (b : Int) = s at *
  have g1 : y ≤ 1152921504606846976 := by
    rcases Int.lt_or_le 1152921504606846976 y with h' | h'
    · have := Int.mul_le_mul_of_nonneg_right (show (1 : Int) ≤ b by omega) (show 0 ≤ y by omega); omega
    · exact h'
  have g2 : -1152921504606846976 ≤ y := by
    rcases Int.lt_or_le y (-1152921504606846976) with h' | h'
    · have h1 : (b : Int) * y ≤ b * (-1152921504606846977) := Int.mul_le_mul_of_nonneg_left (by omega) (by omega)
      have h2 : (b : Int) * (-1152921504606846977) = -(1152921504606846977 * b) := by rw [Int.mul_neg, Int.mul_comm]
      omega
    · exact h'
  omega

theorem ceil12_any (a : Int) (b : Nat) (ha : -1152921504606846976 ≤ a ∧ a ≤ 1152921504606846976) (hb : 1 ≤ b ∧ b ≤ 1152921504606846976) (w : World) :
    Calls Try.prog 24 #[.int .i64 a, .int .i64 b] w fun e w' => e = .returned (.int .i64 (clI a b)) ∧ w' = w := by
  have hz : ((b : Int) = 0) = False := eq_false (by omega)
  have hbd := clI_bd hb.1 ha
  by_cases h : a < 0
  · have s1 : IntKind.i64.wrap (0 - a) = -a := by rw [show 0 - a = -a by omega]; exact wr (by omega)
    have e1 : (-a).tdiv b = (-a) / b := Int.tdiv_eq_ediv_of_nonneg (by omega)
    have e2 : -((-a) / (b : Int)) = clI a b := rfl
    obtain ⟨y, hy⟩ : ∃ y, (-a) / (b : Int) = y := ⟨_, rfl⟩
    rw [hy] at e1 e2
    rw [← e2]
    rw [← e2] at hbd
    clear e2 hy
    have s0 : (0 : Int) - a = -a := by omega
    have s2 : (0 : Int) - y = -y := by omega
    go_enter Try.func24, Try.ntmps24
    go_wp2_with fail
    go_ret
    exact ⟨rfl, rfl⟩
  · have e1 : (a + b - 1).tdiv b = clI a b := by rw [Int.tdiv_eq_ediv_of_nonneg (by omega), clI_pos (by omega) hb.1]
    generalize clI a b = y at *
    go_enter Try.func24, Try.ntmps24
    go_wp2_with fail
    go_ret
    exact ⟨rfl, rfl⟩

theorem over12_any (r : Rc) (dx dy : Nat) (ax ay : Int) (h0 : -1073741824 ≤ r.x0 ∧ r.x0 ≤ 1073741824) (h1 : -1073741824 ≤ r.y0 ∧ r.y0 ≤ 1073741824) (h2 : -1073741824 ≤ r.x1 ∧ r.x1 ≤ 1073741824) (h3 : -1073741824 ≤ r.y1 ∧ r.y1 ≤ 1073741824)
    (hx : 1 ≤ dx ∧ dx ≤ 1073741824) (hy : 1 ≤ dy ∧ dy ≤ 1073741824) (hax : -1073741824 ≤ ax ∧ ax ≤ 1073741824) (hay : -1073741824 ≤ ay ∧ ay ≤ 1073741824) (w : World) :
    Calls Try.prog 36 #[rcV r, .int .i64 dx, .int .i64 dy, .int .i64 ax, .int .i64 ay] w fun e w' => e = .returned (rcV ⟨clI (r.x0 - ax) dx, clI (r.y0 - ay) dy, clI (r.x1 - ax) dx, clI (r.y1 - ay) dy⟩) ∧ Below w.heap.size w w' := by
  obtain ⟨x0, y0, x1, y1⟩ := r
  simp only at h0 h1 h2 h3
  have H0 := Lib.hid (fun v => ceil12_any (x0 - ax) dx (by omega) (by omega) v)
  have H1 := Lib.hid (fun v => ceil12_any (y0 - ay) dy (by omega) (by omega) v)
  have H2 := Lib.hid (fun v => ceil12_any (x1 - ax) dx (by omega) (by omega) v)
  have H3 := Lib.hid (fun v => ceil12_any (y1 - ay) dy (by omega) (by omega) v)
  have s0 : IntKind.i64.wrap (x0 - ax) = x0 - ax := wr (by omega)
  have s1 : IntKind.i64.wrap (y0 - ay) = y0 - ay := wr (by omega)
  have s2 : IntKind.i64.wrap (x1 - ax) = x1 - ax := wr (by omega)
  have s3 : IntKind.i64.wrap (y1 - ay) = y1 - ay := wr (by omega)
  unfold rcV
  simp only
  generalize clI (x0 - ax) dx = a0 at *
  generalize clI (y0 - ay) dy = b0 at *
  generalize clI (x1 - ax) dx = a1 at *
  generalize clI (y1 - ay) dy = b1 at *
  clear hx hy
  go_enter Try.func36, Try.ntmps36
  go_wp2_with fail
  generalize hw2 : World.alloc (World.alloc w _) _ = w2
  have c0 : w2.drew.cell? ⟨w.heap.size, 0, none⟩ = some (.int .i64 x0) := by rw [← hw2]; simp [go_sem]
  have c1 : w2.drew.cell? ⟨w.heap.size, 1, none⟩ = some (.int .i64 y0) := by rw [← hw2]; simp [go_sem]
  have c2 : w2.drew.cell? ⟨w.heap.size, 2, none⟩ = some (.int .i64 x1) := by rw [← hw2]; simp [go_sem]
  have c3 : w2.drew.cell? ⟨w.heap.size, 3, none⟩ = some (.int .i64 y1) := by rw [← hw2]; simp [go_sem]
  refine wp_region_still_tail 25 (by kernel_rfl) (by kernel_rfl) ?_
  simp only [List.take_succ_cons, List.take_zero, List.drop_succ_cons, List.drop_zero]
  change wpStill _ _ w2.drew (fun a' => wpList _ _ _ _ a' w2.drew) _ _
  have rr : ∃ u0 u1 u2 u3, w2.drew.heap[w.heap.size + 1]? = some (.cells #[u0, u1, u2, u3] 38 (0, 0)) := ⟨_, _, _, _, by rw [← hw2]; exact heap_alloc_new3 w _ _⟩
  have bb : Below w.heap.size w w2.drew := by rw [← hw2]; exact (below_alloc (below_alloc (Below.refl _ _) _) _).drew
  clear hw2
  generalize World.drew w2 = w3 at *
  obtain ⟨u0, u1, u2, u3, rr⟩ := rr
  have d0 : w3.cell? ⟨w.heap.size + 1, 0, none⟩ = some u0 := by simp [World.cell?, rr]
  have d1 : w3.cell? ⟨w.heap.size + 1, 1, none⟩ = some u1 := by simp [World.cell?, rr]
  have d2 : w3.cell? ⟨w.heap.size + 1, 2, none⟩ = some u2 := by simp [World.cell?, rr]
  have d3 : w3.cell? ⟨w.heap.size + 1, 3, none⟩ = some u3 := by simp [World.cell?, rr]
  have dz : ∀ k, w3.frozen? ⟨w.heap.size + 1, k, none⟩ = false := fun k => by simp [World.frozen?, rr]
  have bz := (((bb.setCell (p := ⟨w.heap.size + 1, 0, none⟩) (Nat.le_succ _) (.int .i64 a0)).setCell (p := ⟨w.heap.size + 1, 1, none⟩) (Nat.le_succ _) (.int .i64 b0)).setCell (p := ⟨w.heap.size + 1, 2, none⟩) (Nat.le_succ _) (.int .i64 a1)).setCell (p := ⟨w.heap.size + 1, 3, none⟩) (Nat.le_succ _) (.int .i64 b1)
  clear bb rr
  repeat (first | still_step | (refine wpStill_step (fun K hK => ?_); go_simp; (first | (with_reducible refine ⟨_, H0.out _, hK _ ?_⟩) | (with_reducible refine ⟨_, H1.out _, hK _ ?_⟩) | (with_reducible refine ⟨_, H2.out _, hK _ ?_⟩) | (with_reducible refine ⟨_, H3.out _, hK _ ?_⟩)); clear hK K))
  try refine wpStill_nil ?_
  go_wp2_with fail
  refine bodyPost_ret (v := .agg #[.int .i64 a0, .int .i64 b0, .int .i64 a1, .int .i64 b1]) (by simp [results, Try.results36, go_sem, d0, d1, d2, d3]) rfl ⟨rfl, bz⟩
end Go.Proofs.Ytpgkdpoehkdhcaa
