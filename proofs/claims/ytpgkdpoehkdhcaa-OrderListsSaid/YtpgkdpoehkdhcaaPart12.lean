/- CONTRACTS of canvas.Part, bounds. -/
import Derived.Test.YtpgkdpoehkdhcaaEach
namespace Go.Proofs.Ytpgkdpoehkdhcaa
open Go.RowKit
set_option maxRecDepth 100000
set_option maxHeartbeats 2000000
set_option linter.unusedVariables false
set_option linter.unusedSimpArgs false

theorem part_any (x0 y0 x1 y1 dx dy : Nat) (hx0 : x0 ≤ 1048576) (hy0 : y0 ≤ 1048576) (hx1 : x1 ≤ 1048576) (hy1 : y1 ≤ 1048576) (h1 : 1 ≤ dx) (h2 : dx ≤ 1048576) (h3 : 1 ≤ dy) (h4 : dy ≤ 1048576) (w : World) :
    Calls Try.prog 44 #[rcV ⟨x0, y0, x1, y1⟩, .int .i64 dx, .int .i64 dy] w fun e w' => e = .returned (rcV ⟨(byN x0 dx : Nat), (byN y0 dy : Nat), (byN x1 dx : Nat), (byN y1 dy : Nat)⟩) ∧ Below w.heap.size w w' := by
  unfold rcV
  simp only
  have E := fun (V : World) (q : Nat) (hq : V.heap.size = q + 4) (c1 : V.cell? ⟨q + 1, 0, none⟩ = some (.int .i64 dx)) (c2 : V.cell? ⟨q + 1 + 1, 0, none⟩ = some (.int .i64 dy)) =>
    each_part x0 y0 x1 y1 (byN x0 dx : Nat) (byN y0 dy : Nat) (byN x1 dx : Nat) (byN y1 dy : Nat) (.pointer (some ⟨q + 1, 0, none⟩)) (.pointer (some ⟨q + 1 + 1, 0, none⟩)) V
      (fun U hU => part1_any x0 dx (by omega) h1 (by omega) _ U ((hU.cell (p := ⟨q + 1, 0, none⟩) (by simp only; omega)).trans c1))
      (fun U hU => part2_any y0 dy (by omega) h3 (by omega) _ U ((hU.cell (p := ⟨q + 1 + 1, 0, none⟩) (by simp only; omega)).trans c2))
      (fun U hU => part1_any x1 dx (by omega) h1 (by omega) _ U ((hU.cell (p := ⟨q + 1, 0, none⟩) (by simp only; omega)).trans c1))
      (fun U hU => part2_any y1 dy (by omega) h3 (by omega) _ U ((hU.cell (p := ⟨q + 1 + 1, 0, none⟩) (by simp only; omega)).trans c2))
  have E := Lib.hid E
  generalize ((byN x0 dx : Nat) : Int) = a0 at *
  generalize ((byN y0 dy : Nat) : Int) = b0 at *
  generalize ((byN x1 dx : Nat) : Int) = a1 at *
  generalize ((byN y1 dy : Nat) : Int) = b1 at *
  go_enter Try.func44, Try.ntmps44
  go_wp2_with fail
  generalize hw2 : World.alloc (World.alloc (World.alloc (World.alloc w _) _) _) _ = w2
  have c1 : w2.cell? ⟨w.heap.size + 1, 0, none⟩ = some (.int .i64 dx) := by rw [← hw2]; simp [go_sem]
  have c2 : w2.cell? ⟨w.heap.size + 1 + 1, 0, none⟩ = some (.int .i64 dy) := by rw [← hw2]; simp [go_sem]
  have d0 : w2.cell? ⟨w.heap.size + 1 + 1 + 1, 0, none⟩ = some (.int .i64 0) := by rw [← hw2]; simp [go_sem]
  have d1 : w2.cell? ⟨w.heap.size + 1 + 1 + 1, 1, none⟩ = some (.int .i64 0) := by rw [← hw2]; simp [go_sem]
  have d2 : w2.cell? ⟨w.heap.size + 1 + 1 + 1, 2, none⟩ = some (.int .i64 0) := by rw [← hw2]; simp [go_sem]
  have d3 : w2.cell? ⟨w.heap.size + 1 + 1 + 1, 3, none⟩ = some (.int .i64 0) := by rw [← hw2]; simp [go_sem]
  have hs : w2.heap.size = w.heap.size + 4 := by rw [← hw2]; simp
  have dz : ∀ k, w2.frozen? ⟨w.heap.size + 1 + 1 + 1, k, none⟩ = false := fun k => by rw [← hw2]; simp [go_sem]
  have bb : Below w.heap.size w w2 := by rw [← hw2]; exact below_alloc (below_alloc (below_alloc (below_alloc (Below.refl _ _) _) _) _) _
  clear hw2
  refine (E.out w2 _ hs c1 c2).mono ?_
  rintro e w3 ⟨rfl, hb3⟩
  have lt : w.heap.size + 1 + 1 + 1 < w2.heap.size := by omega
  have d0 := (hb3.cell (p := ⟨w.heap.size + 1 + 1 + 1, 0, none⟩) lt).trans d0
  have d1 := (hb3.cell (p := ⟨w.heap.size + 1 + 1 + 1, 1, none⟩) lt).trans d1
  have d2 := (hb3.cell (p := ⟨w.heap.size + 1 + 1 + 1, 2, none⟩) lt).trans d2
  have d3 := (hb3.cell (p := ⟨w.heap.size + 1 + 1 + 1, 3, none⟩) lt).trans d3
  have dz := fun k => (hb3.frozen (p := ⟨w.heap.size + 1 + 1 + 1, k, none⟩) lt).trans (dz k)
  have bb := below_trans bb hb3
  have bz := (((bb.setCell (p := ⟨w.heap.size + 1 + 1 + 1, 0, none⟩) (by simp only; omega) (.int .i64 a0)).setCell (p := ⟨w.heap.size + 1 + 1 + 1, 1, none⟩) (by simp only; omega) (.int .i64 b0)).setCell (p := ⟨w.heap.size + 1 + 1 + 1, 2, none⟩) (by simp only; omega) (.int .i64 a1)).setCell (p := ⟨w.heap.size + 1 + 1 + 1, 3, none⟩) (by simp only; omega) (.int .i64 b1)
  clear hb3 bb c1 c2
  go_wp2_with fail
  refine bodyPost_ret (v := .agg #[.int .i64 a0, .int .i64 b0, .int .i64 a1, .int .i64 b1]) (by simp [results, Try.results44, go_sem, d0, d1, d2, d3]) rfl ⟨rfl, bz⟩

/-- the least and the greatest of a component's samples -/
def loB (dp : Nat) (sg : Bool) : Int := if sg then -(2 ^ (dp - 1) : Nat) else 0
def hiB (dp : Nat) (sg : Bool) : Int := if sg then ((2 ^ (dp - 1) : Nat) : Int) - 1 else ((2 ^ dp : Nat) : Int) - 1
end Go.Proofs.Ytpgkdpoehkdhcaa
