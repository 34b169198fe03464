/- CONTRACT of canvas.places: an iterator over the cells of a grid, row by row. -/
import Derived.RangeFuncNested
import Derived.RangeFuncBound
import Derived.RangeFuncBox
import Derived.RangeFuncCalls
import Derived.RangeFuncLeaves
import Derived.Shelf.Abstract
import Derived.Shelf.RegionOpen
import Derived.WalkKit
import Derived.OwnWalkIn
import Derived.TacticsInMore
import Derived.LoopNIn
import Derived.LoopIn
import Derived.Maps.AppendAt
import Derived.Test.YtpgkdpoehkdhcaaCan5
namespace Go.Proofs.Ytpgkdpoehkdhcaa
open Go.RowKit Go.Shelf
attribute [local go_sem] Oper.semAt_some
set_option maxHeartbeats 1000000
set_option linter.unusedVariables false

/-- the cells of a grid, row by row: the k-th -/
def gridAt (W : Nat) (k : Nat) : Nat × Nat := (k % W, k / W)
def grid (W H : Nat) : List (Nat × Nat) := (List.range (W * H)).map (gridAt W)
abbrev Cell2 (W H : Nat) := { x : Nat × Nat // x.1 < W ∧ x.2 < H }
abbrev encG (W H : Nat) (x : Cell2 W H) : Array Value := #[.int .i64 x.1.1, .int .i64 x.1.2]
/-- two blocks are as they were -/
def Keeps2 (a b : Nat) (W W' : World) : Prop := W'.heap[a]? = W.heap[a]? ∧ W'.heap[b]? = W.heap[b]?
theorem Keeps2.refl (a b : Nat) (W : World) : Keeps2 a b W W := ⟨rfl, rfl⟩
theorem Keeps2.trans {a b : Nat} {A B C : World} (h : Keeps2 a b A B) (k : Keeps2 a b B C) : Keeps2 a b A C := ⟨k.1.trans h.1, k.2.trans h.2⟩
theorem Keeps2.cell1 {a b : Nat} {W W' : World} (h : Keeps2 a b W W') {j : Nat} : W'.cell? ⟨a, j, none⟩ = W.cell? ⟨a, j, none⟩ := World.cell?_of_block h.1
theorem Keeps2.cell2 {a b : Nat} {W W' : World} (h : Keeps2 a b W W') {j : Nat} : W'.cell? ⟨b, j, none⟩ = W.cell? ⟨b, j, none⟩ := World.cell?_of_block h.2

theorem grid_len (W H : Nat) : (grid W H).length = W * H := by simp [grid]
theorem grid_next {W H x y : Nat} (hx : x < W) : (List.range (y * W + x)).map (gridAt W) ++ [(x, y)] = (List.range (y * W + x + 1)).map (gridAt W) := by
  rw [List.range_succ, List.map_append]
  simp only [List.map_cons, List.map_nil, gridAt]
  rw [Nat.mul_comm y W, Nat.mul_add_mod, Nat.mod_eq_of_lt hx, Nat.mul_add_div (by omega), Nat.div_eq_of_lt hx, Nat.add_zero]
theorem cell_lt {W H x y : Nat} (hx : x < W) (hy : y < H) : y * W + x < W * H := by
  calc y * W + x < y * W + W := by omega
    _ = (y + 1) * W := by rw [Nat.add_mul, Nat.one_mul]
    _ ≤ H * W := Nat.mul_le_mul_right _ hy
    _ = W * H := Nat.mul_comm _ _

end Go.Proofs.Ytpgkdpoehkdhcaa
