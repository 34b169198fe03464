/- CONTRACT of canvas.places: an iterator over the cells of a grid, row by row. -/
import Derived.RangeFuncNested
import Derived.RangeFuncBound
import Derived.RangeFuncBox
import Derived.RangeFuncCalls
import Derived.RangeFuncLeaves
import Derived.Shelf.Abstract
import Derived.Shelf.RegionOpen
import Derived.WalkKit
import Derived.OwnWalkIn
import Derived.TacticsInMore
import Derived.LoopNIn
import Derived.LoopIn
import Derived.Maps.AppendAt
import Derived.Test.YtmieoifagnpbiaaCan5
namespace Go.Proofs.Ytmieoifagnpbiaa
open Go.RowKit Go.Shelf
attribute [local go_sem] Oper.semAt_some
set_option maxHeartbeats 1000000
set_option linter.unusedVariables false

/-- the cells of a grid, row by row: the k-th -/
def gridAt (W : Nat) (k : Nat) : Nat × Nat := (k % W, k / W)
def grid (W H : Nat) : List (Nat × Nat) := (List.range (W * H)).map (gridAt W)
abbrev Cell2 (W H : Nat) := { x : Nat × Nat // x.1 < W ∧ x.2 < H }
abbrev encG (W H : Nat) (x : Cell2 W H) : Array Value := #[.int .i64 x.1.1, .int .i64 x.1.2]
/-- two blocks are as they were -/
def Keeps2 (a b : Nat) (W W' : World) : Prop := W'.heap[a]? = W.heap[a]? ∧ W'.heap[b]? = W.heap[b]?
theorem Keeps2.refl (a b : Nat) (W : World) : Keeps2 a b W W := ⟨rfl, rfl⟩
theorem Keeps2.trans {a b : Nat} {A B C : World} (h : Keeps2 a b A B) (k : Keeps2 a b B C) : Keeps2 a b A C := ⟨k.1.trans h.1, k.2.trans h.2⟩
theorem Keeps2.cell1 {a b : Nat} {W W' : World} (h : Keeps2 a b W W') {j : Nat} : W'.cell? ⟨a, j, none⟩ = W.cell? ⟨a, j, none⟩ := World.cell?_of_block h.1
theorem Keeps2.cell2 {a b : Nat} {W W' : World} (h : Keeps2 a b W W') {j : Nat} : W'.cell? ⟨b, j, none⟩ = W.cell? ⟨b, j, none⟩ := World.cell?_of_block h.2

theorem grid_len (W H : Nat) : (grid W H).length = W * H := by simp [grid]
theorem grid_next {W H x y : Nat} (hx : x < W) : (List.range (y * W + x)).map (gridAt W) ++ [(x, y)] = (List.range (y * W + x + 1)).map (gridAt W) := by
  rw [List.range_succ, List.map_append]
  simp only [List.map_cons, List.map_nil, gridAt]
  rw [Nat.mul_comm y W, Nat.mul_add_mod, Nat.mod_eq_of_lt hx, Nat.mul_add_div (by omega), Nat.div_eq_of_lt hx, Nat.add_zero]
theorem cell_lt {W H x y : Nat} (hx : x < W) (hy : y < H) : y * W + x < W * H := by
  calc y * W + x < y * W + W := by omega
    _ = (y + 1) * W := by rw [Nat.add_mul, Nat.one_mul]
    _ ≤ H * W := Nat.mul_le_mul_right _ hy
    _ = W * H := Nat.mul_comm _ _

set_option maxRecDepth 100000 in
theorem places1_in (n : Nat) (hn : 1 ≤ n) (l bh bw : Nat) (W H : Nat) (hW : W ≤ 1048576) (hH : H ≤ 1048576)
    (J Jx : List (Cell2 W H) → World → Prop)
    (hY : ∀ pre x V, J pre V → pre.length < W * H + 1 → YieldAt Fence.wide (n - 1) Try.prog l (encG W H x) V fun e V' =>
      (e = .returned (.bool true) ∧ J (pre ++ [x]) V' ∧ Keeps2 bh bw V V') ∨ (e = .returned (.bool false) ∧ Jx (pre ++ [x]) V'))
    (V : World) (ch : V.cell? ⟨bh, 0, none⟩ = some (.int .i64 H)) (cw : V.cell? ⟨bw, 0, none⟩ = some (.int .i64 W)) (h0 : J [] V) :
    CallsIn Fence.wide n Try.prog 62 #[.func (.yield l) #[] #[], .pointer (some ⟨bh, 0, none⟩), .pointer (some ⟨bw, 0, none⟩)] V fun e V' => (∃ v, e = .returned v) ∧
      ((∃ ys, (ys.map Subtype.val = grid W H) ∧ J ys V') ∨ (∃ pre, True ∧ Jx pre V')) := by
  refine callsIn_of_wp Try.func62 rfl trivial ?_ rfl
  simp only [Try.ntmps62, List.size_toArray, List.length_cons, List.length_nil, Nat.reduceAdd, Nat.reduceSub, Array.replicate_succ, Array.replicate_zero, List.push_toArray, List.append_toArray, List.nil_append, List.cons_append]
  gi_wp2
  gi_loopw [7] (fun i wr => ∃ (y : Nat) (pre : List (Cell2 W H)), y ≤ H ∧ i = .int .i64 y ∧ pre.map Subtype.val = (List.range (y * W)).map (gridAt W) ∧ J pre wr ∧ Keeps2 bh bw V wr)
    (fun i _ => H - (intOf i).toNat)
  case atStart => exact ⟨0, [], Nat.zero_le _, rfl, by simp, h0, Keeps2.refl _ _ _⟩
  case round =>
    obtain ⟨y, pre, hy, rfl, hpre, hJ, hk⟩ := hrel
    have ch1 := hk.cell1.trans ch
    have cw1 := hk.cell2.trans cw
    by_cases hlt : y < H
    · gi_wp2
      obtain ⟨wa, hwa⟩ : ∃ wa, wa = wr := ⟨_, rfl⟩
      subst hwa
      gi_loopw [11] (fun i wr => ∃ (x : Nat) (pre : List (Cell2 W H)), x ≤ W ∧ i = .int .i64 x ∧ pre.map Subtype.val = (List.range (y * W + x)).map (gridAt W) ∧ J pre wr ∧ Keeps2 bh bw V wr)
        (fun i _ => W - (intOf i).toNat)
      case atStart => exact ⟨0, pre, Nat.zero_le _, rfl, hpre, hJ, hk⟩
      case round =>
        obtain ⟨x, pre, hx, rfl, hpre, hJ, hk⟩ := hrel
        have ch2 := hk.cell1.trans ch
        have cw2 := hk.cell2.trans cw
        by_cases hlx : x < W
        · have hl : pre.length < W * H + 1 := by
            have := congrArg List.length hpre
            simp at this
            have := cell_lt hlx hlt
            omega
          obtain ⟨fn, tmps, assign, body, hy', hR⟩ := hY pre ⟨(x, y), hlx, hlt⟩ wr hJ hl
          have hy' : (Instr.yield l #[.int .i64 (x : Int), .int .i64 (y : Int)]).run Try.prog wr = .ok (.round l fn tmps assign body) wr := hy'
          have hR := Lib.hid hR
          have hnx := grid_next (H := H) (y := y) hlx
          clear hY h0
          gi_wp2
          refine hR.out.mono ?_
          rintro e W3 (⟨rfl, hJ3, hk3⟩ | ⟨rfl, hJx3⟩)
          · gi_wp2
            go_roundw
            case rel => exact ⟨x + 1, _, by omega, by go_num, by simp only [List.map_append, hpre, List.map_cons, List.map_nil]; exact hnx, hJ3, hk.trans hk3⟩
            case measure => simp [intOf]; omega
          · gi_wp2
            refine bodyPost_ret (results_none rfl _ _ _) rfl ?_
            exact ⟨⟨_, rfl⟩, .inr ⟨_, trivial, hJx3⟩⟩
        · obtain rfl : x = W := by omega
          have hz : (y + 1) * x = y * x + x := by rw [Nat.add_mul, Nat.one_mul]
          clear hY h0
          gi_wp2
          go_roundw
          case rel => exact ⟨y + 1, pre, by omega, by go_num, by rw [hz]; exact hpre, hJ, hk⟩
          case measure => simp [intOf]; omega
    · obtain rfl : y = H := by omega
      gi_wp2
      go_end0
      exact ⟨⟨_, rfl⟩, .inl ⟨pre, by rw [hpre, Nat.mul_comm]; rfl, hJ⟩⟩

theorem places_any (W H : Int) (w : World) :
    Calls Try.prog 46 #[.int .i64 W, .int .i64 H] w fun e w' => e = .returned (.func (.func 62) #[] #[.pointer (some ⟨w.heap.size + 1, 0, none⟩), .pointer (some ⟨w.heap.size, 0, none⟩)]) ∧
      w' = (w.alloc (.cells #[.int .i64 W] 3)).alloc (.cells #[.int .i64 H] 3) := by
  go_enter Try.func46, Try.ntmps46
  go_wp2_with fail
  go_ret
  exact ⟨rfl, rfl⟩
end Go.Proofs.Ytmieoifagnpbiaa
