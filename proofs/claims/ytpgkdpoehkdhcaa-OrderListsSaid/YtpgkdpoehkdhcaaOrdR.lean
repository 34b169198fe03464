/- (order.spot).ranked: the walk. -/
import Derived.Test.YtpgkdpoehkdhcaaSw
import Derived.Test.YtpgkdpoehkdhcaaLoad
namespace Go.Proofs.Ytpgkdpoehkdhcaa
open Go.RowKit Go.Sort
attribute [local go_sem] opv opnd
set_option maxHeartbeats 40000000
set_option linter.unusedVariables false
set_option linter.unusedSimpArgs false
set_option maxRecDepth 1000000

/-- a packet with its rank, by the order od -/
def rankS (od : Nat) (s : Spot) : Spot :=
  match od with
  | 0 => ⟨s.ly, s.rs, s.cm, s.pc, s.x, s.y, s.ly, s.rs, s.cm, s.pc, 0, 0⟩
  | 1 => ⟨s.ly, s.rs, s.cm, s.pc, s.x, s.y, s.rs, s.ly, s.cm, s.pc, 0, 0⟩
  | 2 => ⟨s.ly, s.rs, s.cm, s.pc, s.x, s.y, s.rs, s.y, s.x, s.cm, s.pc, s.ly⟩
  | 3 => ⟨s.ly, s.rs, s.cm, s.pc, s.x, s.y, s.y, s.x, s.cm, s.rs, s.pc, s.ly⟩
  | _ => ⟨s.ly, s.rs, s.cm, s.pc, s.x, s.y, s.cm, s.y, s.x, s.rs, s.pc, s.ly⟩
theorem ranked0 (ly rs cm pc x y r0 r1 r2 r3 r4 r5 : Int) (w : World) : Calls Try.prog 28 #[.agg #[.int .i64 ly, .int .i64 rs, .int .i64 cm, .int .i64 pc, .int .i64 x, .int .i64 y, .int .i64 r0, .int .i64 r1, .int .i64 r2, .int .i64 r3, .int .i64 r4, .int .i64 r5], .int .i64 0] w fun e w' => e = .returned (.agg #[.int .i64 ly, .int .i64 rs, .int .i64 cm, .int .i64 pc, .int .i64 x, .int .i64 y, .int .i64 ly, .int .i64 rs, .int .i64 cm, .int .i64 pc, .int .i64 0, .int .i64 0]) ∧ RowKit.Below w.heap.size w w' := by
  go_enter Try.func28, Try.ntmps28
  go_wp2_with fail
  refine bodyPost_ret (v := .agg #[.int .i64 ly, .int .i64 rs, .int .i64 cm, .int .i64 pc, .int .i64 x, .int .i64 y, .int .i64 ly, .int .i64 rs, .int .i64 cm, .int .i64 pc, .int .i64 0, .int .i64 0]) (by simp [results, Try.results28, go_sem]) rfl ⟨rfl, ?_⟩
  repeat (refine RowKit.Below.setCell ?_ (by first | exact Nat.le_refl _ | (simp only; omega)) _)
  exact below_alloc (below_alloc (RowKit.Below.refl _ _) _) _
theorem ranked1 (ly rs cm pc x y r0 r1 r2 r3 r4 r5 : Int) (w : World) : Calls Try.prog 28 #[.agg #[.int .i64 ly, .int .i64 rs, .int .i64 cm, .int .i64 pc, .int .i64 x, .int .i64 y, .int .i64 r0, .int .i64 r1, .int .i64 r2, .int .i64 r3, .int .i64 r4, .int .i64 r5], .int .i64 1] w fun e w' => e = .returned (.agg #[.int .i64 ly, .int .i64 rs, .int .i64 cm, .int .i64 pc, .int .i64 x, .int .i64 y, .int .i64 rs, .int .i64 ly, .int .i64 cm, .int .i64 pc, .int .i64 0, .int .i64 0]) ∧ RowKit.Below w.heap.size w w' := by
  go_enter Try.func28, Try.ntmps28
  go_wp2_with fail
  refine bodyPost_ret (v := .agg #[.int .i64 ly, .int .i64 rs, .int .i64 cm, .int .i64 pc, .int .i64 x, .int .i64 y, .int .i64 rs, .int .i64 ly, .int .i64 cm, .int .i64 pc, .int .i64 0, .int .i64 0]) (by simp [results, Try.results28, go_sem]) rfl ⟨rfl, ?_⟩
  repeat (refine RowKit.Below.setCell ?_ (by first | exact Nat.le_refl _ | (simp only; omega)) _)
  exact below_alloc (below_alloc (RowKit.Below.refl _ _) _) _
theorem ranked2 (ly rs cm pc x y r0 r1 r2 r3 r4 r5 : Int) (w : World) : Calls Try.prog 28 #[.agg #[.int .i64 ly, .int .i64 rs, .int .i64 cm, .int .i64 pc, .int .i64 x, .int .i64 y, .int .i64 r0, .int .i64 r1, .int .i64 r2, .int .i64 r3, .int .i64 r4, .int .i64 r5], .int .i64 2] w fun e w' => e = .returned (.agg #[.int .i64 ly, .int .i64 rs, .int .i64 cm, .int .i64 pc, .int .i64 x, .int .i64 y, .int .i64 rs, .int .i64 y, .int .i64 x, .int .i64 cm, .int .i64 pc, .int .i64 ly]) ∧ RowKit.Below w.heap.size w w' := by
  go_enter Try.func28, Try.ntmps28
  go_wp2_with fail
  refine bodyPost_ret (v := .agg #[.int .i64 ly, .int .i64 rs, .int .i64 cm, .int .i64 pc, .int .i64 x, .int .i64 y, .int .i64 rs, .int .i64 y, .int .i64 x, .int .i64 cm, .int .i64 pc, .int .i64 ly]) (by simp [results, Try.results28, go_sem]) rfl ⟨rfl, ?_⟩
  repeat (refine RowKit.Below.setCell ?_ (by first | exact Nat.le_refl _ | (simp only; omega)) _)
  exact below_alloc (below_alloc (RowKit.Below.refl _ _) _) _
theorem ranked3 (ly rs cm pc x y r0 r1 r2 r3 r4 r5 : Int) (w : World) : Calls Try.prog 28 #[.agg #[.int .i64 ly, .int .i64 rs, .int .i64 cm, .int .i64 pc, .int .i64 x, .int .i64 y, .int .i64 r0, .int .i64 r1, .int .i64 r2, .int .i64 r3, .int .i64 r4, .int .i64 r5], .int .i64 3] w fun e w' => e = .returned (.agg #[.int .i64 ly, .int .i64 rs, .int .i64 cm, .int .i64 pc, .int .i64 x, .int .i64 y, .int .i64 y, .int .i64 x, .int .i64 cm, .int .i64 rs, .int .i64 pc, .int .i64 ly]) ∧ RowKit.Below w.heap.size w w' := by
  go_enter Try.func28, Try.ntmps28
  go_wp2_with fail
  refine bodyPost_ret (v := .agg #[.int .i64 ly, .int .i64 rs, .int .i64 cm, .int .i64 pc, .int .i64 x, .int .i64 y, .int .i64 y, .int .i64 x, .int .i64 cm, .int .i64 rs, .int .i64 pc, .int .i64 ly]) (by simp [results, Try.results28, go_sem]) rfl ⟨rfl, ?_⟩
  repeat (refine RowKit.Below.setCell ?_ (by first | exact Nat.le_refl _ | (simp only; omega)) _)
  exact below_alloc (below_alloc (RowKit.Below.refl _ _) _) _
theorem ranked4 (ly rs cm pc x y r0 r1 r2 r3 r4 r5 : Int) (w : World) : Calls Try.prog 28 #[.agg #[.int .i64 ly, .int .i64 rs, .int .i64 cm, .int .i64 pc, .int .i64 x, .int .i64 y, .int .i64 r0, .int .i64 r1, .int .i64 r2, .int .i64 r3, .int .i64 r4, .int .i64 r5], .int .i64 4] w fun e w' => e = .returned (.agg #[.int .i64 ly, .int .i64 rs, .int .i64 cm, .int .i64 pc, .int .i64 x, .int .i64 y, .int .i64 cm, .int .i64 y, .int .i64 x, .int .i64 rs, .int .i64 pc, .int .i64 ly]) ∧ RowKit.Below w.heap.size w w' := by
  go_enter Try.func28, Try.ntmps28
  go_wp2_with fail
  refine bodyPost_ret (v := .agg #[.int .i64 ly, .int .i64 rs, .int .i64 cm, .int .i64 pc, .int .i64 x, .int .i64 y, .int .i64 cm, .int .i64 y, .int .i64 x, .int .i64 rs, .int .i64 pc, .int .i64 ly]) (by simp [results, Try.results28, go_sem]) rfl ⟨rfl, ?_⟩
  repeat (refine RowKit.Below.setCell ?_ (by first | exact Nat.le_refl _ | (simp only; omega)) _)
  exact below_alloc (below_alloc (RowKit.Below.refl _ _) _) _
theorem ranked_any (od : Nat) (hod : od ≤ 4) (s : Spot) (w : World) : Calls Try.prog 28 #[.agg (spotL s).toArray, .int .i64 od] w fun e w' => e = .returned (.agg (spotL (rankS od s)).toArray) ∧ RowKit.Below w.heap.size w w' := by
  obtain ⟨ly, rs, cm, pc, x, y, r0, r1, r2, r3, r4, r5⟩ := s
  have h : od = 0 ∨ od = 1 ∨ od = 2 ∨ od = 3 ∨ od = 4 := by omega
  rcases h with rfl | rfl | rfl | rfl | rfl
  · exact ranked0 ly rs cm pc x y r0 r1 r2 r3 r4 r5 w
  · exact ranked1 ly rs cm pc x y r0 r1 r2 r3 r4 r5 w
  · exact ranked2 ly rs cm pc x y r0 r1 r2 r3 r4 r5 w
  · exact ranked3 ly rs cm pc x y r0 r1 r2 r3 r4 r5 w
  · exact ranked4 ly rs cm pc x y r0 r1 r2 r3 r4 r5 w
end Go.Proofs.Ytpgkdpoehkdhcaa
