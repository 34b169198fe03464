/- CONTRACTS of dwt.half, dwt.sides, dwt.halved, dwt.fits, dwt.parts: rectangles. -/
import Derived.Test.YtmcdhdofgaoadaaLift6
import Derived.Test.YtmcdhdofgaoadaaMem3
import Derived.BigQuiet
import Derived.StillTailTactics
namespace Go.Proofs.Ytmcdhdofgaoadaa
open Go.RowKit
set_option maxHeartbeats 4000000
set_option linter.unusedVariables false
set_option linter.unusedSimpArgs false

/-- a rectangle: its first place, its sides -/
def rectV (x y W H : Nat) : Value := .agg #[.int .i64 x, .int .i64 y, .int .i64 ((x : Int) + W), .int .i64 ((y : Int) + H)]
def hf (x : Nat) : Nat := (x + 1) / 2
theorem hf_low (x W : Nat) : ((hf x : Nat) : Int) + (low W (x % 2) : Nat) = ((x : Int) + W + 1) / 2 := by
  unfold hf low; omega

theorem heap_alloc_new2 (w : World) (o o' : Obj) : ((w.alloc o).alloc o').heap[w.heap.size + 1]? = some o' := by
  have := heap_alloc_new (w.alloc o) o'
  rwa [World.size_alloc] at this

theorem half_any (n : Int) (hn : -1152921504606846976 ≤ n ∧ n ≤ 1152921504606846976) (w : World) :
    Calls Try.prog 48 #[.int .i64 n] w fun e w' => e = .returned (.int .i64 ((n + 1) / 2)) ∧ w' = w := by
  have s1 : IntKind.i64.wrap (n + 1) = n + 1 := IntWalk.i64_in _ (by omega)
  have s2 : IntKind.i64.wrap ((n + 1) / 2) = (n + 1) / 2 := IntWalk.i64_in _ (by omega)
  go_enter Try.func48, Try.ntmps48
  go_wp2_with fail
  go_ret
  exact ⟨rfl, rfl⟩

theorem sides_any (x y W H : Nat) (hx : x ≤ 1099511627776) (hy : y ≤ 1099511627776) (hW : W ≤ 1099511627776) (hH : H ≤ 1099511627776) (w : World) :
    Calls Try.prog 22 #[rectV x y W H] w fun e w' => e = .returned (.tuple #[.int .i64 W, .int .i64 H]) ∧ Below w.heap.size w w' := by
  unfold rectV
  have s1 : IntKind.i64.wrap ((x : Int) + W - x) = W := by rw [show (x : Int) + W - x = W by omega]; exact IntWalk.i64_in _ (by omega)
  have s2 : IntKind.i64.wrap ((y : Int) + H - y) = H := by rw [show (y : Int) + H - y = H by omega]; exact IntWalk.i64_in _ (by omega)
  go_enter Try.func22, Try.ntmps22
  go_wp2_with fail
  go_quiet (fail)
  go_wp2_with fail
  go_ret2
  exact ⟨rfl, below_drewN (below_alloc (Below.refl _ _) _) _⟩

theorem halved_any (x y W H : Nat) (hx : x ≤ 1099511627776) (hy : y ≤ 1099511627776) (hW : W ≤ 1099511627776) (hH : H ≤ 1099511627776) (w : World) :
    Calls Try.prog 29 #[rectV x y W H] w fun e w' => e = .returned (rectV (hf x) (hf y) (low W (x % 2)) (low H (y % 2))) ∧ Below w.heap.size w w' := by
  have e1 := hf_low x W
  have e2 := hf_low y H
  unfold rectV
  rw [e1, e2]
  clear e1 e2
  have e3 : ((hf x : Nat) : Int) = ((x : Int) + 1) / 2 := by unfold hf; omega
  have e4 : ((hf y : Nat) : Int) = ((y : Int) + 1) / 2 := by unfold hf; omega
  rw [e3, e4]
  clear e3 e4
  go_enter Try.func29, Try.ntmps29
  go_wp2_with fail
  generalize hw2 : World.alloc (World.alloc w _) _ = w2
  have c0 : w2.drew.cell? ⟨w.heap.size, 0, none⟩ = some (.int .i64 x) := by rw [← hw2]; simp
  have c1 : w2.drew.cell? ⟨w.heap.size, 1, none⟩ = some (.int .i64 y) := by rw [← hw2]; simp
  have c2 : w2.drew.cell? ⟨w.heap.size, 2, none⟩ = some (.int .i64 ((x : Int) + W)) := by rw [← hw2]; simp
  have c3 : w2.drew.cell? ⟨w.heap.size, 3, none⟩ = some (.int .i64 ((y : Int) + H)) := by rw [← hw2]; simp
  refine wp_region_still_tail 13 (by kernel_rfl) (by kernel_rfl) ?_
  simp only [List.take_succ_cons, List.take_zero, List.drop_succ_cons, List.drop_zero]
  change wpStill _ _ w2.drew (fun a' => wpList _ _ _ _ a' w2.drew) _ _
  have rr : ∃ u0 u1 u2 u3, w2.drew.heap[w.heap.size + 1]? = some (.cells #[u0, u1, u2, u3] 23 (0, 0)) := ⟨_, _, _, _, by rw [← hw2]; exact heap_alloc_new2 w _ _⟩
  have bb : Below w.heap.size w w2.drew := by rw [← hw2]; exact (below_alloc (below_alloc (Below.refl _ _) _) _).drew
  clear hw2
  generalize World.drew w2 = w3 at *
  obtain ⟨u0, u1, u2, u3, rr⟩ := rr
  have d0 : w3.cell? ⟨w.heap.size + 1, 0, none⟩ = some u0 := by simp [World.cell?, rr]
  have d1 : w3.cell? ⟨w.heap.size + 1, 1, none⟩ = some u1 := by simp [World.cell?, rr]
  have d2 : w3.cell? ⟨w.heap.size + 1, 2, none⟩ = some u2 := by simp [World.cell?, rr]
  have d3 : w3.cell? ⟨w.heap.size + 1, 3, none⟩ = some u3 := by simp [World.cell?, rr]
  have dz : ∀ k, w3.frozen? ⟨w.heap.size + 1, k, none⟩ = false := fun k => by simp [World.frozen?, rr]
  have bz := (((bb.setCell (p := ⟨w.heap.size + 1, 0, none⟩) (Nat.le_succ _) (.int .i64 (((x : Int) + 1) / 2))).setCell (p := ⟨w.heap.size + 1, 1, none⟩) (Nat.le_succ _) (.int .i64 (((y : Int) + 1) / 2))).setCell (p := ⟨w.heap.size + 1, 2, none⟩) (Nat.le_succ _) (.int .i64 (((x : Int) + W + 1) / 2))).setCell (p := ⟨w.heap.size + 1, 3, none⟩) (Nat.le_succ _) (.int .i64 (((y : Int) + H + 1) / 2))
  repeat (first | still_step | still_call (half_any _ (by omega) _))
  try refine wpStill_nil ?_
  go_wp2_with fail
  refine bodyPost_ret (v := .agg #[.int .i64 (((x : Int) + 1) / 2), .int .i64 (((y : Int) + 1) / 2), .int .i64 (((x : Int) + W + 1) / 2), .int .i64 (((y : Int) + H + 1) / 2)]) (by simp [results, Try.results29, go_sem, d0, d1, d2, d3]) rfl ⟨rfl, bz⟩

theorem fits_any (x y W H l : Nat) (hx : x ≤ 1099511627776) (hy : y ≤ 1099511627776) (hW : W ≤ 4096) (hH : H ≤ 4096) (hl : l ≤ 5) (w : World) :
    Calls Try.prog 21 #[rectV x y W H, .int .i64 l] w fun e w' => e = .returned (.bool true) ∧ Below w.heap.size w w' := by
  have hS := sides_any x y W H hx hy (by omega) (by omega)
  unfold rectV at hS ⊢
  have HS := Lib.hid hS
  clear hS
  go_enter Try.func21, Try.ntmps21
  go_wp2_with fail
  refine (HS.out _).mono ?_
  rintro e w1 ⟨rfl, hb⟩
  have hb1 := below_trans (below_alloc (Below.refl _ w) _) hb
  go_wp2_with fail
  have h5 : decide ((l : Int) ≤ 5) = true := by simp; omega
  go_ret
  exact ⟨ret_bool h5, hb1⟩

end Go.Proofs.Ytmcdhdofgaoadaa
