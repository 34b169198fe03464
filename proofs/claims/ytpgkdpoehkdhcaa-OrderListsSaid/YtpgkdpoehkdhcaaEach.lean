/- CONTRACTS of canvas.each with what it is handed, Part. -/
import Derived.Test.YtpgkdpoehkdhcaaCan5
import Derived.StillTailTactics
namespace Go.Proofs.Ytpgkdpoehkdhcaa
open Go.RowKit
set_option maxRecDepth 100000
set_option maxHeartbeats 2000000
set_option linter.unusedVariables false
set_option linter.unusedSimpArgs false

theorem heap_alloc_new3 (w : World) (o o' : Obj) : ((w.alloc o).alloc o').heap[w.heap.size + 1]? = some o' := by
  have := heap_alloc_new (w.alloc o) o'
  rwa [World.size_alloc] at this
def okI (x : Int) : Prop := -1152921504606846976 ≤ x ∧ x ≤ 1152921504606846976
theorem part1_any (x : Nat) (d : Nat) (hx : x ≤ 4611686018427387904) (hd : 1 ≤ d) (hd2 : d ≤ 4611686018427387904) (b : Nat) (w : World) (hc : w.cell? ⟨b, 0, none⟩ = some (.int .i64 d)) :
    Calls Try.prog 53 #[.int .i64 x, .pointer (some ⟨b, 0, none⟩)] w fun e w' => e = .returned (.int .i64 (byN x d : Nat)) ∧ w' = w := by
  have J := Lib.hid (by_any x d hx hd hd2)
  go_enter Try.func53, Try.ntmps53
  go_wp2_with (go_at_call 40; refine (J.out _).mono ?_; rintro e w' ⟨rfl, rfl⟩; dsimp only)
  go_ret
  exact ⟨rfl, rfl⟩
theorem part2_any (x : Nat) (d : Nat) (hx : x ≤ 4611686018427387904) (hd : 1 ≤ d) (hd2 : d ≤ 4611686018427387904) (b : Nat) (w : World) (hc : w.cell? ⟨b, 0, none⟩ = some (.int .i64 d)) :
    Calls Try.prog 54 #[.int .i64 x, .pointer (some ⟨b, 0, none⟩)] w fun e w' => e = .returned (.int .i64 (byN x d : Nat)) ∧ w' = w := by
  have J := Lib.hid (by_any x d hx hd hd2)
  go_enter Try.func54, Try.ntmps54
  go_wp2_with (go_at_call 40; refine (J.out _).mono ?_; rintro e w' ⟨rfl, rfl⟩; dsimp only)
  go_ret
  exact ⟨rfl, rfl⟩
theorem each_part (x0 y0 x1 y1 : Int) (a0 b0 a1 b1 : Int) (p q : Value) (w : World)
    (h0 : ∀ V, Below w.heap.size w V → Calls Try.prog 53 #[.int .i64 x0, p] V fun e w' => e = .returned (.int .i64 a0) ∧ w' = V)
    (h1 : ∀ V, Below w.heap.size w V → Calls Try.prog 54 #[.int .i64 y0, q] V fun e w' => e = .returned (.int .i64 b0) ∧ w' = V)
    (h2 : ∀ V, Below w.heap.size w V → Calls Try.prog 53 #[.int .i64 x1, p] V fun e w' => e = .returned (.int .i64 a1) ∧ w' = V)
    (h3 : ∀ V, Below w.heap.size w V → Calls Try.prog 54 #[.int .i64 y1, q] V fun e w' => e = .returned (.int .i64 b1) ∧ w' = V) :
    Calls Try.prog 52 #[.agg #[.int .i64 x0, .int .i64 y0, .int .i64 x1, .int .i64 y1], .func (.func 53) #[] #[p], .func (.func 54) #[] #[q]] w fun e w' => e = .returned (.agg #[.int .i64 a0, .int .i64 b0, .int .i64 a1, .int .i64 b1]) ∧ Below w.heap.size w w' := by
  have H0 := Lib.hid h0
  have H1 := Lib.hid h1
  have H2 := Lib.hid h2
  have H3 := Lib.hid h3
  clear h0 h1 h2 h3
  go_enter Try.func52, Try.ntmps52
  go_wp2_with fail
  generalize hw2 : World.alloc (World.alloc w _) _ = w2
  have c0 : w2.drew.cell? ⟨w.heap.size, 0, none⟩ = some (.int .i64 x0) := by rw [← hw2]; simp [go_sem]
  have c1 : w2.drew.cell? ⟨w.heap.size, 1, none⟩ = some (.int .i64 y0) := by rw [← hw2]; simp [go_sem]
  have c2 : w2.drew.cell? ⟨w.heap.size, 2, none⟩ = some (.int .i64 x1) := by rw [← hw2]; simp [go_sem]
  have c3 : w2.drew.cell? ⟨w.heap.size, 3, none⟩ = some (.int .i64 y1) := by rw [← hw2]; simp [go_sem]
  refine wp_region_still_tail 17 (by kernel_rfl) (by kernel_rfl) ?_
  simp only [List.take_succ_cons, List.take_zero, List.drop_succ_cons, List.drop_zero]
  change wpStill _ _ w2.drew (fun a' => wpList _ _ _ _ a' w2.drew) _ _
  have rr : ∃ u0 u1 u2 u3, w2.drew.heap[w.heap.size + 1]? = some (.cells #[u0, u1, u2, u3] 38 (0, 0)) := ⟨_, _, _, _, by rw [← hw2]; exact heap_alloc_new3 w _ _⟩
  have bb : Below w.heap.size w w2.drew := by rw [← hw2]; exact (below_alloc (below_alloc (Below.refl _ _) _) _).drew
  clear hw2
  generalize World.drew w2 = w3 at *
  obtain ⟨u0, u1, u2, u3, rr⟩ := rr
  have d0 : w3.cell? ⟨w.heap.size + 1, 0, none⟩ = some u0 := by simp [World.cell?, rr]
  have d1 : w3.cell? ⟨w.heap.size + 1, 1, none⟩ = some u1 := by simp [World.cell?, rr]
  have d2 : w3.cell? ⟨w.heap.size + 1, 2, none⟩ = some u2 := by simp [World.cell?, rr]
  have d3 : w3.cell? ⟨w.heap.size + 1, 3, none⟩ = some u3 := by simp [World.cell?, rr]
  have dz : ∀ k, w3.frozen? ⟨w.heap.size + 1, k, none⟩ = false := fun k => by simp [World.frozen?, rr]
  have bz := (((bb.setCell (p := ⟨w.heap.size + 1, 0, none⟩) (Nat.le_succ _) (.int .i64 a0)).setCell (p := ⟨w.heap.size + 1, 1, none⟩) (Nat.le_succ _) (.int .i64 b0)).setCell (p := ⟨w.heap.size + 1, 2, none⟩) (Nat.le_succ _) (.int .i64 a1)).setCell (p := ⟨w.heap.size + 1, 3, none⟩) (Nat.le_succ _) (.int .i64 b1)
  have BB := Lib.hid bb
  clear bb rr
  repeat (first | still_step | (refine wpStill_step (fun K hK => ?_); go_simp; (first | (with_reducible refine ⟨_, H0.out _ BB.out, hK _ ?_⟩) | (with_reducible refine ⟨_, H1.out _ BB.out, hK _ ?_⟩) | (with_reducible refine ⟨_, H2.out _ BB.out, hK _ ?_⟩) | (with_reducible refine ⟨_, H3.out _ BB.out, hK _ ?_⟩)); clear hK K))
  try refine wpStill_nil ?_
  go_wp2_with fail
  refine bodyPost_ret (v := .agg #[.int .i64 a0, .int .i64 b0, .int .i64 a1, .int .i64 b1]) (by simp [results, Try.results52, go_sem, d0, d1, d2, d3]) rfl ⟨rfl, bz⟩
end Go.Proofs.Ytpgkdpoehkdhcaa
