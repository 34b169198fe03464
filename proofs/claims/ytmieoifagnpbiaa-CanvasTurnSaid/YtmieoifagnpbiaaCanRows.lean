/- THE WALK OF CanvasRows. -/
import Derived.Test.YtmieoifagnpbiaaKnown12
namespace Go.Proofs.Ytmieoifagnpbiaa
open Go.RowKit
set_option maxHeartbeats 4000000
set_option linter.unusedVariables false
set_option linter.unusedSimpArgs false
set_option maxRecDepth 100000

theorem heap_set_same {w : World} {g j : Nat} {cs : Array Value} {T : TypeId} (h : w.heap[g]? = some (.cells cs T (0, 0))) (u : Value) : (w.setCell ⟨g, j, none⟩ u).heap[g]? = some (.cells (cs.setIfInBounds j u) T (0, 0)) := heap_setCell_same w g j cs T u h
theorem comps1 {w : World} {b B : Nat} {cs : Array Value} {T : TypeId} {d : CompD} (h : w.heap[b]? = some (.cells cs T (0, 0))) (hB : b < B) (hc : cs = (compL d).toArray) : CompsAt w B (some ⟨b, 0, none⟩) 1 (fun _ => d) :=
  comps_block h hB fun k hk j hj => by
    obtain rfl : k = 0 := by omega
    rw [hc, Nat.zero_mul, Nat.zero_add, List.getElem?_toArray]
theorem rows_0_f (which : Int) (hk : which % 16 = 0) (w : World) : Calls Try.prog 3 #[.int .i64 which, .bool false] w fun e w' => e = .returned (.bool true) ∧ Below w.heap.size w w' := by
  have W0 := Lib.hid (fun (v : World) => by have := within12 which 16 (by omega) (by omega) v; rw [hk] at this; exact this)
  go_enter Try.func3, Try.ntmps3
  go_wp2_with fail
  refine (known12 _).mono ?_
  rintro e w1 ⟨rfl, hb1⟩
  go_wp2_with fail
  refine (one_any 20 20 3 3 _).mono ?_
  rintro e w2 ⟨b, rfl, gb, hbb, hb2⟩
  unfold parV
  have hbl := below_trans hb1 hb2
  have hlt : b < w2.heap.size := (Array.getElem?_eq_some_iff.1 gb).1
  have hws := hbl.size
  have hwb := Nat.le_trans hb1.size hbb
  clear hb1 hb2 hbb
  go_wp2_with fail
  generalize hw3 : World.alloc (World.alloc w2 _) _ = W3
  have gb3 : W3.heap[b]? = some (.cells #[.int .i64 8, .bool false, .int .i64 1, .int .i64 1, .slice none 0 0] 34 (0, 0)) := by rw [← hw3]; exact (Below.heap_alloc _ _ _ (by simp; omega)).trans ((Below.heap_alloc _ _ _ (by omega)).trans gb)
  have m0 : W3.cell? ⟨w2.heap.size, 0, none⟩ = some (.int .i64 20) := by rw [← hw3]; simp [go_sem]
  have m1 : W3.cell? ⟨w2.heap.size, 1, none⟩ = some (.int .i64 20) := by rw [← hw3]; simp [go_sem]
  have m2 : W3.cell? ⟨w2.heap.size, 2, none⟩ = some (.int .i64 3) := by rw [← hw3]; simp [go_sem]
  have m3 : W3.cell? ⟨w2.heap.size, 3, none⟩ = some (.int .i64 3) := by rw [← hw3]; simp [go_sem]
  have m4 : W3.cell? ⟨w2.heap.size, 4, none⟩ = some (.slice (some ⟨b, 0, none⟩) 1 1) := by rw [← hw3]; simp [go_sem]
  have p0 : W3.cell? ⟨w2.heap.size + 1, 0, none⟩ = some (.int .i64 64) := by rw [← hw3]; simp [go_sem]
  have p1 : W3.cell? ⟨w2.heap.size + 1, 1, none⟩ = some (.int .i64 64) := by rw [← hw3]; simp [go_sem]
  have p2 : W3.cell? ⟨w2.heap.size + 1, 2, none⟩ = some (.int .i64 2) := by rw [← hw3]; simp [go_sem]
  have p3 : W3.cell? ⟨w2.heap.size + 1, 3, none⟩ = some (.int .i64 4) := by rw [← hw3]; simp [go_sem]
  have p4 : W3.cell? ⟨w2.heap.size + 1, 4, none⟩ = some (.int .i64 4) := by rw [← hw3]; simp [go_sem]
  have p5 : W3.cell? ⟨w2.heap.size + 1, 5, none⟩ = some (.int .i64 15) := by rw [← hw3]; simp [go_sem]
  have p6 : W3.cell? ⟨w2.heap.size + 1, 6, none⟩ = some (.int .i64 0) := by rw [← hw3]; simp [go_sem]
  have p7 : W3.cell? ⟨w2.heap.size + 1, 7, none⟩ = some (.int .i64 0) := by rw [← hw3]; simp [go_sem]
  have p8 : W3.cell? ⟨w2.heap.size + 1, 8, none⟩ = some (.int .i64 1) := by rw [← hw3]; simp [go_sem]
  have p9 : W3.cell? ⟨w2.heap.size + 1, 9, none⟩ = some (.bool false) := by rw [← hw3]; simp [go_sem]
  have p10 : W3.cell? ⟨w2.heap.size + 1, 10, none⟩ = some (.bool false) := by rw [← hw3]; simp [go_sem]
  have p11 : W3.cell? ⟨w2.heap.size + 1, 11, none⟩ = some (.bool false) := by rw [← hw3]; simp [go_sem]
  have fm : ∀ j, W3.frozen? ⟨w2.heap.size, j, none⟩ = false := fun j => by rw [← hw3]; exact (World.frozen?_of_block (a := ⟨w2.heap.size, j, none⟩) (Below.heap_alloc _ _ _ (by simp))).trans (frozen_of_row _ _ j _ _ (heap_alloc_new w2 _))
  have fp : ∀ j, W3.frozen? ⟨w2.heap.size + 1, j, none⟩ = false := fun j => by rw [← hw3]; exact frozen_of_row _ _ j _ _ (heap_alloc_new2 w2 _ _)
  have c0 : W3.cell? ⟨b, 0, none⟩ = some (.int .i64 8) := (cell_of_row _ _ _ _ _ (0, 0) gb3).trans rfl
  have c1 : W3.cell? ⟨b, 1, none⟩ = some (.bool false) := (cell_of_row _ _ _ _ _ (0, 0) gb3).trans rfl
  have c2 : W3.cell? ⟨b, 2, none⟩ = some (.int .i64 1) := (cell_of_row _ _ _ _ _ (0, 0) gb3).trans rfl
  have c3 : W3.cell? ⟨b, 3, none⟩ = some (.int .i64 1) := (cell_of_row _ _ _ _ _ (0, 0) gb3).trans rfl
  have c4 : W3.cell? ⟨b, 4, none⟩ = some (.slice none 0 0) := (cell_of_row _ _ _ _ _ (0, 0) gb3).trans rfl
  have fb : ∀ j, W3.frozen? ⟨b, j, none⟩ = false := fun j => frozen_of_row _ _ j _ _ gb3
  have hs3 : W3.heap.size = w2.heap.size + 2 := by rw [← hw3]; simp
  have hbl3 : Below w.heap.size w W3 := by rw [← hw3]; exact below_alloc (below_alloc hbl _) _
  clear hw3 gb hbl
  refine (W0.out _).mono ?_
  rintro e w4 ⟨rfl, rfl⟩
  clear W0
  have g4 := (Below.heap_setCell W3 ⟨w2.heap.size, 0, none⟩ (.int .i64 64) b (by simp only; omega)).trans gb3
  have hc4 : CompsAt (W3.setCell ⟨w2.heap.size, 0, none⟩ (.int .i64 64)) (W3.setCell ⟨w2.heap.size, 0, none⟩ (.int .i64 64)).heap.size (some ⟨b, 0, none⟩) 1 (fun _ => ⟨8, false, 1, 1, none, 0, 0⟩) := comps1 g4 (by simp; omega) rfl
  have FR := frame_any 64 20 3 3 _ 1 1 (fun _ => ⟨8, false, 1, 1, none, 0, 0⟩) 64 64 2 4 4 15 0 0 1 false false false _ hc4 (by omega)
  have fe : frameE 64 20 3 3 1 (fun _ => ⟨8, false, 1, 1, none, 0, 0⟩) 64 64 2 4 4 15 0 0 1 false = 0 := by decide
  rw [fe] at FR
  unfold imgV parV at FR
  have hb4 : Below w.heap.size w (W3.setCell ⟨w2.heap.size, 0, none⟩ (.int .i64 64)) := hbl3.setCell (p := ⟨w2.heap.size, 0, none⟩) (by simp only; omega) _
  have FR := Lib.hid FR
  clear fe hc4 g4 gb3
  go_wp2_with fail
  refine FR.out.mono ?_
  rintro e w5 ⟨rfl, hb5⟩
  go_wp2_with fail
  go_ret
  exact ⟨rfl, below_trans hb4 hb5⟩

theorem rows_0_t (which : Int) (hk : which % 16 = 0) (w : World) : Calls Try.prog 3 #[.int .i64 which, .bool true] w fun e w' => e = .returned (.bool true) ∧ Below w.heap.size w w' := by
  have W0 := Lib.hid (fun (v : World) => by have := within12 which 16 (by omega) (by omega) v; rw [hk] at this; exact this)
  go_enter Try.func3, Try.ntmps3
  go_wp2_with fail
  refine (known12 _).mono ?_
  rintro e w1 ⟨rfl, hb1⟩
  go_wp2_with fail
  refine (one_any 20 20 3 3 _).mono ?_
  rintro e w2 ⟨b, rfl, gb, hbb, hb2⟩
  unfold parV
  have hbl := below_trans hb1 hb2
  have hlt : b < w2.heap.size := (Array.getElem?_eq_some_iff.1 gb).1
  have hws := hbl.size
  have hwb := Nat.le_trans hb1.size hbb
  clear hb1 hb2 hbb
  go_wp2_with fail
  generalize hw3 : World.alloc (World.alloc w2 _) _ = W3
  have gb3 : W3.heap[b]? = some (.cells #[.int .i64 8, .bool false, .int .i64 1, .int .i64 1, .slice none 0 0] 34 (0, 0)) := by rw [← hw3]; exact (Below.heap_alloc _ _ _ (by simp; omega)).trans ((Below.heap_alloc _ _ _ (by omega)).trans gb)
  have m0 : W3.cell? ⟨w2.heap.size, 0, none⟩ = some (.int .i64 20) := by rw [← hw3]; simp [go_sem]
  have m1 : W3.cell? ⟨w2.heap.size, 1, none⟩ = some (.int .i64 20) := by rw [← hw3]; simp [go_sem]
  have m2 : W3.cell? ⟨w2.heap.size, 2, none⟩ = some (.int .i64 3) := by rw [← hw3]; simp [go_sem]
  have m3 : W3.cell? ⟨w2.heap.size, 3, none⟩ = some (.int .i64 3) := by rw [← hw3]; simp [go_sem]
  have m4 : W3.cell? ⟨w2.heap.size, 4, none⟩ = some (.slice (some ⟨b, 0, none⟩) 1 1) := by rw [← hw3]; simp [go_sem]
  have p0 : W3.cell? ⟨w2.heap.size + 1, 0, none⟩ = some (.int .i64 64) := by rw [← hw3]; simp [go_sem]
  have p1 : W3.cell? ⟨w2.heap.size + 1, 1, none⟩ = some (.int .i64 64) := by rw [← hw3]; simp [go_sem]
  have p2 : W3.cell? ⟨w2.heap.size + 1, 2, none⟩ = some (.int .i64 2) := by rw [← hw3]; simp [go_sem]
  have p3 : W3.cell? ⟨w2.heap.size + 1, 3, none⟩ = some (.int .i64 4) := by rw [← hw3]; simp [go_sem]
  have p4 : W3.cell? ⟨w2.heap.size + 1, 4, none⟩ = some (.int .i64 4) := by rw [← hw3]; simp [go_sem]
  have p5 : W3.cell? ⟨w2.heap.size + 1, 5, none⟩ = some (.int .i64 15) := by rw [← hw3]; simp [go_sem]
  have p6 : W3.cell? ⟨w2.heap.size + 1, 6, none⟩ = some (.int .i64 0) := by rw [← hw3]; simp [go_sem]
  have p7 : W3.cell? ⟨w2.heap.size + 1, 7, none⟩ = some (.int .i64 0) := by rw [← hw3]; simp [go_sem]
  have p8 : W3.cell? ⟨w2.heap.size + 1, 8, none⟩ = some (.int .i64 1) := by rw [← hw3]; simp [go_sem]
  have p9 : W3.cell? ⟨w2.heap.size + 1, 9, none⟩ = some (.bool false) := by rw [← hw3]; simp [go_sem]
  have p10 : W3.cell? ⟨w2.heap.size + 1, 10, none⟩ = some (.bool false) := by rw [← hw3]; simp [go_sem]
  have p11 : W3.cell? ⟨w2.heap.size + 1, 11, none⟩ = some (.bool false) := by rw [← hw3]; simp [go_sem]
  have fm : ∀ j, W3.frozen? ⟨w2.heap.size, j, none⟩ = false := fun j => by rw [← hw3]; exact (World.frozen?_of_block (a := ⟨w2.heap.size, j, none⟩) (Below.heap_alloc _ _ _ (by simp))).trans (frozen_of_row _ _ j _ _ (heap_alloc_new w2 _))
  have fp : ∀ j, W3.frozen? ⟨w2.heap.size + 1, j, none⟩ = false := fun j => by rw [← hw3]; exact frozen_of_row _ _ j _ _ (heap_alloc_new2 w2 _ _)
  have c0 : W3.cell? ⟨b, 0, none⟩ = some (.int .i64 8) := (cell_of_row _ _ _ _ _ (0, 0) gb3).trans rfl
  have c1 : W3.cell? ⟨b, 1, none⟩ = some (.bool false) := (cell_of_row _ _ _ _ _ (0, 0) gb3).trans rfl
  have c2 : W3.cell? ⟨b, 2, none⟩ = some (.int .i64 1) := (cell_of_row _ _ _ _ _ (0, 0) gb3).trans rfl
  have c3 : W3.cell? ⟨b, 3, none⟩ = some (.int .i64 1) := (cell_of_row _ _ _ _ _ (0, 0) gb3).trans rfl
  have c4 : W3.cell? ⟨b, 4, none⟩ = some (.slice none 0 0) := (cell_of_row _ _ _ _ _ (0, 0) gb3).trans rfl
  have fb : ∀ j, W3.frozen? ⟨b, j, none⟩ = false := fun j => frozen_of_row _ _ j _ _ gb3
  have hs3 : W3.heap.size = w2.heap.size + 2 := by rw [← hw3]; simp
  have hbl3 : Below w.heap.size w W3 := by rw [← hw3]; exact below_alloc (below_alloc hbl _) _
  clear hw3 gb hbl
  refine (W0.out _).mono ?_
  rintro e w4 ⟨rfl, rfl⟩
  clear W0
  have g4 := (Below.heap_setCell W3 ⟨w2.heap.size, 0, none⟩ (.int .i64 65) b (by simp only; omega)).trans gb3
  have hc4 : CompsAt (W3.setCell ⟨w2.heap.size, 0, none⟩ (.int .i64 65)) (W3.setCell ⟨w2.heap.size, 0, none⟩ (.int .i64 65)).heap.size (some ⟨b, 0, none⟩) 1 (fun _ => ⟨8, false, 1, 1, none, 0, 0⟩) := comps1 g4 (by simp; omega) rfl
  have FR := frame_any 65 20 3 3 _ 1 1 (fun _ => ⟨8, false, 1, 1, none, 0, 0⟩) 64 64 2 4 4 15 0 0 1 false false false _ hc4 (by omega)
  have fe : frameE 65 20 3 3 1 (fun _ => ⟨8, false, 1, 1, none, 0, 0⟩) 64 64 2 4 4 15 0 0 1 false = 14 := by decide
  rw [fe] at FR
  unfold imgV parV at FR
  have hb4 : Below w.heap.size w (W3.setCell ⟨w2.heap.size, 0, none⟩ (.int .i64 65)) := hbl3.setCell (p := ⟨w2.heap.size, 0, none⟩) (by simp only; omega) _
  have FR := Lib.hid FR
  clear fe hc4 g4 gb3
  go_wp2_with fail
  refine FR.out.mono ?_
  rintro e w5 ⟨rfl, hb5⟩
  go_wp2_with fail
  go_ret
  exact ⟨rfl, below_trans hb4 hb5⟩

theorem rows_1_f (which : Int) (hk : which % 16 = 1) (w : World) : Calls Try.prog 3 #[.int .i64 which, .bool false] w fun e w' => e = .returned (.bool true) ∧ Below w.heap.size w w' := by
  have W0 := Lib.hid (fun (v : World) => by have := within12 which 16 (by omega) (by omega) v; rw [hk] at this; exact this)
  go_enter Try.func3, Try.ntmps3
  go_wp2_with fail
  refine (known12 _).mono ?_
  rintro e w1 ⟨rfl, hb1⟩
  go_wp2_with fail
  refine (one_any 20 20 3 3 _).mono ?_
  rintro e w2 ⟨b, rfl, gb, hbb, hb2⟩
  unfold parV
  have hbl := below_trans hb1 hb2
  have hlt : b < w2.heap.size := (Array.getElem?_eq_some_iff.1 gb).1
  have hws := hbl.size
  have hwb := Nat.le_trans hb1.size hbb
  clear hb1 hb2 hbb
  go_wp2_with fail
  generalize hw3 : World.alloc (World.alloc w2 _) _ = W3
  have gb3 : W3.heap[b]? = some (.cells #[.int .i64 8, .bool false, .int .i64 1, .int .i64 1, .slice none 0 0] 34 (0, 0)) := by rw [← hw3]; exact (Below.heap_alloc _ _ _ (by simp; omega)).trans ((Below.heap_alloc _ _ _ (by omega)).trans gb)
  have m0 : W3.cell? ⟨w2.heap.size, 0, none⟩ = some (.int .i64 20) := by rw [← hw3]; simp [go_sem]
  have m1 : W3.cell? ⟨w2.heap.size, 1, none⟩ = some (.int .i64 20) := by rw [← hw3]; simp [go_sem]
  have m2 : W3.cell? ⟨w2.heap.size, 2, none⟩ = some (.int .i64 3) := by rw [← hw3]; simp [go_sem]
  have m3 : W3.cell? ⟨w2.heap.size, 3, none⟩ = some (.int .i64 3) := by rw [← hw3]; simp [go_sem]
  have m4 : W3.cell? ⟨w2.heap.size, 4, none⟩ = some (.slice (some ⟨b, 0, none⟩) 1 1) := by rw [← hw3]; simp [go_sem]
  have p0 : W3.cell? ⟨w2.heap.size + 1, 0, none⟩ = some (.int .i64 64) := by rw [← hw3]; simp [go_sem]
  have p1 : W3.cell? ⟨w2.heap.size + 1, 1, none⟩ = some (.int .i64 64) := by rw [← hw3]; simp [go_sem]
  have p2 : W3.cell? ⟨w2.heap.size + 1, 2, none⟩ = some (.int .i64 2) := by rw [← hw3]; simp [go_sem]
  have p3 : W3.cell? ⟨w2.heap.size + 1, 3, none⟩ = some (.int .i64 4) := by rw [← hw3]; simp [go_sem]
  have p4 : W3.cell? ⟨w2.heap.size + 1, 4, none⟩ = some (.int .i64 4) := by rw [← hw3]; simp [go_sem]
  have p5 : W3.cell? ⟨w2.heap.size + 1, 5, none⟩ = some (.int .i64 15) := by rw [← hw3]; simp [go_sem]
  have p6 : W3.cell? ⟨w2.heap.size + 1, 6, none⟩ = some (.int .i64 0) := by rw [← hw3]; simp [go_sem]
  have p7 : W3.cell? ⟨w2.heap.size + 1, 7, none⟩ = some (.int .i64 0) := by rw [← hw3]; simp [go_sem]
  have p8 : W3.cell? ⟨w2.heap.size + 1, 8, none⟩ = some (.int .i64 1) := by rw [← hw3]; simp [go_sem]
  have p9 : W3.cell? ⟨w2.heap.size + 1, 9, none⟩ = some (.bool false) := by rw [← hw3]; simp [go_sem]
  have p10 : W3.cell? ⟨w2.heap.size + 1, 10, none⟩ = some (.bool false) := by rw [← hw3]; simp [go_sem]
  have p11 : W3.cell? ⟨w2.heap.size + 1, 11, none⟩ = some (.bool false) := by rw [← hw3]; simp [go_sem]
  have fm : ∀ j, W3.frozen? ⟨w2.heap.size, j, none⟩ = false := fun j => by rw [← hw3]; exact (World.frozen?_of_block (a := ⟨w2.heap.size, j, none⟩) (Below.heap_alloc _ _ _ (by simp))).trans (frozen_of_row _ _ j _ _ (heap_alloc_new w2 _))
  have fp : ∀ j, W3.frozen? ⟨w2.heap.size + 1, j, none⟩ = false := fun j => by rw [← hw3]; exact frozen_of_row _ _ j _ _ (heap_alloc_new2 w2 _ _)
  have c0 : W3.cell? ⟨b, 0, none⟩ = some (.int .i64 8) := (cell_of_row _ _ _ _ _ (0, 0) gb3).trans rfl
  have c1 : W3.cell? ⟨b, 1, none⟩ = some (.bool false) := (cell_of_row _ _ _ _ _ (0, 0) gb3).trans rfl
  have c2 : W3.cell? ⟨b, 2, none⟩ = some (.int .i64 1) := (cell_of_row _ _ _ _ _ (0, 0) gb3).trans rfl
  have c3 : W3.cell? ⟨b, 3, none⟩ = some (.int .i64 1) := (cell_of_row _ _ _ _ _ (0, 0) gb3).trans rfl
  have c4 : W3.cell? ⟨b, 4, none⟩ = some (.slice none 0 0) := (cell_of_row _ _ _ _ _ (0, 0) gb3).trans rfl
  have fb : ∀ j, W3.frozen? ⟨b, j, none⟩ = false := fun j => frozen_of_row _ _ j _ _ gb3
  have hs3 : W3.heap.size = w2.heap.size + 2 := by rw [← hw3]; simp
  have hbl3 : Below w.heap.size w W3 := by rw [← hw3]; exact below_alloc (below_alloc hbl _) _
  clear hw3 gb hbl
  refine (W0.out _).mono ?_
  rintro e w4 ⟨rfl, rfl⟩
  clear W0
  have g4 := (Below.heap_setCell W3 ⟨w2.heap.size, 2, none⟩ (.int .i64 19) b (by simp only; omega)).trans gb3
  have hc4 : CompsAt (W3.setCell ⟨w2.heap.size, 2, none⟩ (.int .i64 19)) (W3.setCell ⟨w2.heap.size, 2, none⟩ (.int .i64 19)).heap.size (some ⟨b, 0, none⟩) 1 (fun _ => ⟨8, false, 1, 1, none, 0, 0⟩) := comps1 g4 (by simp; omega) rfl
  have FR := frame_any 20 20 19 3 _ 1 1 (fun _ => ⟨8, false, 1, 1, none, 0, 0⟩) 64 64 2 4 4 15 0 0 1 false false false _ hc4 (by omega)
  have fe : frameE 20 20 19 3 1 (fun _ => ⟨8, false, 1, 1, none, 0, 0⟩) 64 64 2 4 4 15 0 0 1 false = 0 := by decide
  rw [fe] at FR
  unfold imgV parV at FR
  have hb4 : Below w.heap.size w (W3.setCell ⟨w2.heap.size, 2, none⟩ (.int .i64 19)) := hbl3.setCell (p := ⟨w2.heap.size, 2, none⟩) (by simp only; omega) _
  have FR := Lib.hid FR
  clear fe hc4 g4 gb3
  go_wp2_with fail
  refine FR.out.mono ?_
  rintro e w5 ⟨rfl, hb5⟩
  go_wp2_with fail
  go_ret
  exact ⟨rfl, below_trans hb4 hb5⟩

theorem rows_1_t (which : Int) (hk : which % 16 = 1) (w : World) : Calls Try.prog 3 #[.int .i64 which, .bool true] w fun e w' => e = .returned (.bool true) ∧ Below w.heap.size w w' := by
  have W0 := Lib.hid (fun (v : World) => by have := within12 which 16 (by omega) (by omega) v; rw [hk] at this; exact this)
  go_enter Try.func3, Try.ntmps3
  go_wp2_with fail
  refine (known12 _).mono ?_
  rintro e w1 ⟨rfl, hb1⟩
  go_wp2_with fail
  refine (one_any 20 20 3 3 _).mono ?_
  rintro e w2 ⟨b, rfl, gb, hbb, hb2⟩
  unfold parV
  have hbl := below_trans hb1 hb2
  have hlt : b < w2.heap.size := (Array.getElem?_eq_some_iff.1 gb).1
  have hws := hbl.size
  have hwb := Nat.le_trans hb1.size hbb
  clear hb1 hb2 hbb
  go_wp2_with fail
  generalize hw3 : World.alloc (World.alloc w2 _) _ = W3
  have gb3 : W3.heap[b]? = some (.cells #[.int .i64 8, .bool false, .int .i64 1, .int .i64 1, .slice none 0 0] 34 (0, 0)) := by rw [← hw3]; exact (Below.heap_alloc _ _ _ (by simp; omega)).trans ((Below.heap_alloc _ _ _ (by omega)).trans gb)
  have m0 : W3.cell? ⟨w2.heap.size, 0, none⟩ = some (.int .i64 20) := by rw [← hw3]; simp [go_sem]
  have m1 : W3.cell? ⟨w2.heap.size, 1, none⟩ = some (.int .i64 20) := by rw [← hw3]; simp [go_sem]
  have m2 : W3.cell? ⟨w2.heap.size, 2, none⟩ = some (.int .i64 3) := by rw [← hw3]; simp [go_sem]
  have m3 : W3.cell? ⟨w2.heap.size, 3, none⟩ = some (.int .i64 3) := by rw [← hw3]; simp [go_sem]
  have m4 : W3.cell? ⟨w2.heap.size, 4, none⟩ = some (.slice (some ⟨b, 0, none⟩) 1 1) := by rw [← hw3]; simp [go_sem]
  have p0 : W3.cell? ⟨w2.heap.size + 1, 0, none⟩ = some (.int .i64 64) := by rw [← hw3]; simp [go_sem]
  have p1 : W3.cell? ⟨w2.heap.size + 1, 1, none⟩ = some (.int .i64 64) := by rw [← hw3]; simp [go_sem]
  have p2 : W3.cell? ⟨w2.heap.size + 1, 2, none⟩ = some (.int .i64 2) := by rw [← hw3]; simp [go_sem]
  have p3 : W3.cell? ⟨w2.heap.size + 1, 3, none⟩ = some (.int .i64 4) := by rw [← hw3]; simp [go_sem]
  have p4 : W3.cell? ⟨w2.heap.size + 1, 4, none⟩ = some (.int .i64 4) := by rw [← hw3]; simp [go_sem]
  have p5 : W3.cell? ⟨w2.heap.size + 1, 5, none⟩ = some (.int .i64 15) := by rw [← hw3]; simp [go_sem]
  have p6 : W3.cell? ⟨w2.heap.size + 1, 6, none⟩ = some (.int .i64 0) := by rw [← hw3]; simp [go_sem]
  have p7 : W3.cell? ⟨w2.heap.size + 1, 7, none⟩ = some (.int .i64 0) := by rw [← hw3]; simp [go_sem]
  have p8 : W3.cell? ⟨w2.heap.size + 1, 8, none⟩ = some (.int .i64 1) := by rw [← hw3]; simp [go_sem]
  have p9 : W3.cell? ⟨w2.heap.size + 1, 9, none⟩ = some (.bool false) := by rw [← hw3]; simp [go_sem]
  have p10 : W3.cell? ⟨w2.heap.size + 1, 10, none⟩ = some (.bool false) := by rw [← hw3]; simp [go_sem]
  have p11 : W3.cell? ⟨w2.heap.size + 1, 11, none⟩ = some (.bool false) := by rw [← hw3]; simp [go_sem]
  have fm : ∀ j, W3.frozen? ⟨w2.heap.size, j, none⟩ = false := fun j => by rw [← hw3]; exact (World.frozen?_of_block (a := ⟨w2.heap.size, j, none⟩) (Below.heap_alloc _ _ _ (by simp))).trans (frozen_of_row _ _ j _ _ (heap_alloc_new w2 _))
  have fp : ∀ j, W3.frozen? ⟨w2.heap.size + 1, j, none⟩ = false := fun j => by rw [← hw3]; exact frozen_of_row _ _ j _ _ (heap_alloc_new2 w2 _ _)
  have c0 : W3.cell? ⟨b, 0, none⟩ = some (.int .i64 8) := (cell_of_row _ _ _ _ _ (0, 0) gb3).trans rfl
  have c1 : W3.cell? ⟨b, 1, none⟩ = some (.bool false) := (cell_of_row _ _ _ _ _ (0, 0) gb3).trans rfl
  have c2 : W3.cell? ⟨b, 2, none⟩ = some (.int .i64 1) := (cell_of_row _ _ _ _ _ (0, 0) gb3).trans rfl
  have c3 : W3.cell? ⟨b, 3, none⟩ = some (.int .i64 1) := (cell_of_row _ _ _ _ _ (0, 0) gb3).trans rfl
  have c4 : W3.cell? ⟨b, 4, none⟩ = some (.slice none 0 0) := (cell_of_row _ _ _ _ _ (0, 0) gb3).trans rfl
  have fb : ∀ j, W3.frozen? ⟨b, j, none⟩ = false := fun j => frozen_of_row _ _ j _ _ gb3
  have hs3 : W3.heap.size = w2.heap.size + 2 := by rw [← hw3]; simp
  have hbl3 : Below w.heap.size w W3 := by rw [← hw3]; exact below_alloc (below_alloc hbl _) _
  clear hw3 gb hbl
  refine (W0.out _).mono ?_
  rintro e w4 ⟨rfl, rfl⟩
  clear W0
  have g4 := (Below.heap_setCell W3 ⟨w2.heap.size, 2, none⟩ (.int .i64 20) b (by simp only; omega)).trans gb3
  have hc4 : CompsAt (W3.setCell ⟨w2.heap.size, 2, none⟩ (.int .i64 20)) (W3.setCell ⟨w2.heap.size, 2, none⟩ (.int .i64 20)).heap.size (some ⟨b, 0, none⟩) 1 (fun _ => ⟨8, false, 1, 1, none, 0, 0⟩) := comps1 g4 (by simp; omega) rfl
  have FR := frame_any 20 20 20 3 _ 1 1 (fun _ => ⟨8, false, 1, 1, none, 0, 0⟩) 64 64 2 4 4 15 0 0 1 false false false _ hc4 (by omega)
  have fe : frameE 20 20 20 3 1 (fun _ => ⟨8, false, 1, 1, none, 0, 0⟩) 64 64 2 4 4 15 0 0 1 false = 1 := by decide
  rw [fe] at FR
  unfold imgV parV at FR
  have hb4 : Below w.heap.size w (W3.setCell ⟨w2.heap.size, 2, none⟩ (.int .i64 20)) := hbl3.setCell (p := ⟨w2.heap.size, 2, none⟩) (by simp only; omega) _
  have FR := Lib.hid FR
  clear fe hc4 g4 gb3
  go_wp2_with fail
  refine FR.out.mono ?_
  rintro e w5 ⟨rfl, hb5⟩
  go_wp2_with fail
  go_ret
  exact ⟨rfl, below_trans hb4 hb5⟩

theorem rows_2_f (which : Int) (hk : which % 16 = 2) (w : World) : Calls Try.prog 3 #[.int .i64 which, .bool false] w fun e w' => e = .returned (.bool true) ∧ Below w.heap.size w w' := by
  have W0 := Lib.hid (fun (v : World) => by have := within12 which 16 (by omega) (by omega) v; rw [hk] at this; exact this)
  go_enter Try.func3, Try.ntmps3
  go_wp2_with fail
  refine (known12 _).mono ?_
  rintro e w1 ⟨rfl, hb1⟩
  go_wp2_with fail
  refine (one_any 20 20 3 3 _).mono ?_
  rintro e w2 ⟨b, rfl, gb, hbb, hb2⟩
  unfold parV
  have hbl := below_trans hb1 hb2
  have hlt : b < w2.heap.size := (Array.getElem?_eq_some_iff.1 gb).1
  have hws := hbl.size
  have hwb := Nat.le_trans hb1.size hbb
  clear hb1 hb2 hbb
  go_wp2_with fail
  generalize hw3 : World.alloc (World.alloc w2 _) _ = W3
  have gb3 : W3.heap[b]? = some (.cells #[.int .i64 8, .bool false, .int .i64 1, .int .i64 1, .slice none 0 0] 34 (0, 0)) := by rw [← hw3]; exact (Below.heap_alloc _ _ _ (by simp; omega)).trans ((Below.heap_alloc _ _ _ (by omega)).trans gb)
  have m0 : W3.cell? ⟨w2.heap.size, 0, none⟩ = some (.int .i64 20) := by rw [← hw3]; simp [go_sem]
  have m1 : W3.cell? ⟨w2.heap.size, 1, none⟩ = some (.int .i64 20) := by rw [← hw3]; simp [go_sem]
  have m2 : W3.cell? ⟨w2.heap.size, 2, none⟩ = some (.int .i64 3) := by rw [← hw3]; simp [go_sem]
  have m3 : W3.cell? ⟨w2.heap.size, 3, none⟩ = some (.int .i64 3) := by rw [← hw3]; simp [go_sem]
  have m4 : W3.cell? ⟨w2.heap.size, 4, none⟩ = some (.slice (some ⟨b, 0, none⟩) 1 1) := by rw [← hw3]; simp [go_sem]
  have p0 : W3.cell? ⟨w2.heap.size + 1, 0, none⟩ = some (.int .i64 64) := by rw [← hw3]; simp [go_sem]
  have p1 : W3.cell? ⟨w2.heap.size + 1, 1, none⟩ = some (.int .i64 64) := by rw [← hw3]; simp [go_sem]
  have p2 : W3.cell? ⟨w2.heap.size + 1, 2, none⟩ = some (.int .i64 2) := by rw [← hw3]; simp [go_sem]
  have p3 : W3.cell? ⟨w2.heap.size + 1, 3, none⟩ = some (.int .i64 4) := by rw [← hw3]; simp [go_sem]
  have p4 : W3.cell? ⟨w2.heap.size + 1, 4, none⟩ = some (.int .i64 4) := by rw [← hw3]; simp [go_sem]
  have p5 : W3.cell? ⟨w2.heap.size + 1, 5, none⟩ = some (.int .i64 15) := by rw [← hw3]; simp [go_sem]
  have p6 : W3.cell? ⟨w2.heap.size + 1, 6, none⟩ = some (.int .i64 0) := by rw [← hw3]; simp [go_sem]
  have p7 : W3.cell? ⟨w2.heap.size + 1, 7, none⟩ = some (.int .i64 0) := by rw [← hw3]; simp [go_sem]
  have p8 : W3.cell? ⟨w2.heap.size + 1, 8, none⟩ = some (.int .i64 1) := by rw [← hw3]; simp [go_sem]
  have p9 : W3.cell? ⟨w2.heap.size + 1, 9, none⟩ = some (.bool false) := by rw [← hw3]; simp [go_sem]
  have p10 : W3.cell? ⟨w2.heap.size + 1, 10, none⟩ = some (.bool false) := by rw [← hw3]; simp [go_sem]
  have p11 : W3.cell? ⟨w2.heap.size + 1, 11, none⟩ = some (.bool false) := by rw [← hw3]; simp [go_sem]
  have fm : ∀ j, W3.frozen? ⟨w2.heap.size, j, none⟩ = false := fun j => by rw [← hw3]; exact (World.frozen?_of_block (a := ⟨w2.heap.size, j, none⟩) (Below.heap_alloc _ _ _ (by simp))).trans (frozen_of_row _ _ j _ _ (heap_alloc_new w2 _))
  have fp : ∀ j, W3.frozen? ⟨w2.heap.size + 1, j, none⟩ = false := fun j => by rw [← hw3]; exact frozen_of_row _ _ j _ _ (heap_alloc_new2 w2 _ _)
  have c0 : W3.cell? ⟨b, 0, none⟩ = some (.int .i64 8) := (cell_of_row _ _ _ _ _ (0, 0) gb3).trans rfl
  have c1 : W3.cell? ⟨b, 1, none⟩ = some (.bool false) := (cell_of_row _ _ _ _ _ (0, 0) gb3).trans rfl
  have c2 : W3.cell? ⟨b, 2, none⟩ = some (.int .i64 1) := (cell_of_row _ _ _ _ _ (0, 0) gb3).trans rfl
  have c3 : W3.cell? ⟨b, 3, none⟩ = some (.int .i64 1) := (cell_of_row _ _ _ _ _ (0, 0) gb3).trans rfl
  have c4 : W3.cell? ⟨b, 4, none⟩ = some (.slice none 0 0) := (cell_of_row _ _ _ _ _ (0, 0) gb3).trans rfl
  have fb : ∀ j, W3.frozen? ⟨b, j, none⟩ = false := fun j => frozen_of_row _ _ j _ _ gb3
  have hs3 : W3.heap.size = w2.heap.size + 2 := by rw [← hw3]; simp
  have hbl3 : Below w.heap.size w W3 := by rw [← hw3]; exact below_alloc (below_alloc hbl _) _
  clear hw3 gb hbl
  refine (W0.out _).mono ?_
  rintro e w4 ⟨rfl, rfl⟩
  clear W0
  have g4 := (Below.heap_setCell W3 ⟨w2.heap.size, 3, none⟩ (.int .i64 0) b (by simp only; omega)).trans gb3
  have hc4 : CompsAt (W3.setCell ⟨w2.heap.size, 3, none⟩ (.int .i64 0)) (W3.setCell ⟨w2.heap.size, 3, none⟩ (.int .i64 0)).heap.size (some ⟨b, 0, none⟩) 1 (fun _ => ⟨8, false, 1, 1, none, 0, 0⟩) := comps1 g4 (by simp; omega) rfl
  have FR := frame_any 20 20 3 0 _ 1 1 (fun _ => ⟨8, false, 1, 1, none, 0, 0⟩) 64 64 2 4 4 15 0 0 1 false false false _ hc4 (by omega)
  have fe : frameE 20 20 3 0 1 (fun _ => ⟨8, false, 1, 1, none, 0, 0⟩) 64 64 2 4 4 15 0 0 1 false = 0 := by decide
  rw [fe] at FR
  unfold imgV parV at FR
  have hb4 : Below w.heap.size w (W3.setCell ⟨w2.heap.size, 3, none⟩ (.int .i64 0)) := hbl3.setCell (p := ⟨w2.heap.size, 3, none⟩) (by simp only; omega) _
  have FR := Lib.hid FR
  clear fe hc4 g4 gb3
  go_wp2_with fail
  refine FR.out.mono ?_
  rintro e w5 ⟨rfl, hb5⟩
  go_wp2_with fail
  go_ret
  exact ⟨rfl, below_trans hb4 hb5⟩

theorem rows_2_t (which : Int) (hk : which % 16 = 2) (w : World) : Calls Try.prog 3 #[.int .i64 which, .bool true] w fun e w' => e = .returned (.bool true) ∧ Below w.heap.size w w' := by
  have W0 := Lib.hid (fun (v : World) => by have := within12 which 16 (by omega) (by omega) v; rw [hk] at this; exact this)
  go_enter Try.func3, Try.ntmps3
  go_wp2_with fail
  refine (known12 _).mono ?_
  rintro e w1 ⟨rfl, hb1⟩
  go_wp2_with fail
  refine (one_any 20 20 3 3 _).mono ?_
  rintro e w2 ⟨b, rfl, gb, hbb, hb2⟩
  unfold parV
  have hbl := below_trans hb1 hb2
  have hlt : b < w2.heap.size := (Array.getElem?_eq_some_iff.1 gb).1
  have hws := hbl.size
  have hwb := Nat.le_trans hb1.size hbb
  clear hb1 hb2 hbb
  go_wp2_with fail
  generalize hw3 : World.alloc (World.alloc w2 _) _ = W3
  have gb3 : W3.heap[b]? = some (.cells #[.int .i64 8, .bool false, .int .i64 1, .int .i64 1, .slice none 0 0] 34 (0, 0)) := by rw [← hw3]; exact (Below.heap_alloc _ _ _ (by simp; omega)).trans ((Below.heap_alloc _ _ _ (by omega)).trans gb)
  have m0 : W3.cell? ⟨w2.heap.size, 0, none⟩ = some (.int .i64 20) := by rw [← hw3]; simp [go_sem]
  have m1 : W3.cell? ⟨w2.heap.size, 1, none⟩ = some (.int .i64 20) := by rw [← hw3]; simp [go_sem]
  have m2 : W3.cell? ⟨w2.heap.size, 2, none⟩ = some (.int .i64 3) := by rw [← hw3]; simp [go_sem]
  have m3 : W3.cell? ⟨w2.heap.size, 3, none⟩ = some (.int .i64 3) := by rw [← hw3]; simp [go_sem]
  have m4 : W3.cell? ⟨w2.heap.size, 4, none⟩ = some (.slice (some ⟨b, 0, none⟩) 1 1) := by rw [← hw3]; simp [go_sem]
  have p0 : W3.cell? ⟨w2.heap.size + 1, 0, none⟩ = some (.int .i64 64) := by rw [← hw3]; simp [go_sem]
  have p1 : W3.cell? ⟨w2.heap.size + 1, 1, none⟩ = some (.int .i64 64) := by rw [← hw3]; simp [go_sem]
  have p2 : W3.cell? ⟨w2.heap.size + 1, 2, none⟩ = some (.int .i64 2) := by rw [← hw3]; simp [go_sem]
  have p3 : W3.cell? ⟨w2.heap.size + 1, 3, none⟩ = some (.int .i64 4) := by rw [← hw3]; simp [go_sem]
  have p4 : W3.cell? ⟨w2.heap.size + 1, 4, none⟩ = some (.int .i64 4) := by rw [← hw3]; simp [go_sem]
  have p5 : W3.cell? ⟨w2.heap.size + 1, 5, none⟩ = some (.int .i64 15) := by rw [← hw3]; simp [go_sem]
  have p6 : W3.cell? ⟨w2.heap.size + 1, 6, none⟩ = some (.int .i64 0) := by rw [← hw3]; simp [go_sem]
  have p7 : W3.cell? ⟨w2.heap.size + 1, 7, none⟩ = some (.int .i64 0) := by rw [← hw3]; simp [go_sem]
  have p8 : W3.cell? ⟨w2.heap.size + 1, 8, none⟩ = some (.int .i64 1) := by rw [← hw3]; simp [go_sem]
  have p9 : W3.cell? ⟨w2.heap.size + 1, 9, none⟩ = some (.bool false) := by rw [← hw3]; simp [go_sem]
  have p10 : W3.cell? ⟨w2.heap.size + 1, 10, none⟩ = some (.bool false) := by rw [← hw3]; simp [go_sem]
  have p11 : W3.cell? ⟨w2.heap.size + 1, 11, none⟩ = some (.bool false) := by rw [← hw3]; simp [go_sem]
  have fm : ∀ j, W3.frozen? ⟨w2.heap.size, j, none⟩ = false := fun j => by rw [← hw3]; exact (World.frozen?_of_block (a := ⟨w2.heap.size, j, none⟩) (Below.heap_alloc _ _ _ (by simp))).trans (frozen_of_row _ _ j _ _ (heap_alloc_new w2 _))
  have fp : ∀ j, W3.frozen? ⟨w2.heap.size + 1, j, none⟩ = false := fun j => by rw [← hw3]; exact frozen_of_row _ _ j _ _ (heap_alloc_new2 w2 _ _)
  have c0 : W3.cell? ⟨b, 0, none⟩ = some (.int .i64 8) := (cell_of_row _ _ _ _ _ (0, 0) gb3).trans rfl
  have c1 : W3.cell? ⟨b, 1, none⟩ = some (.bool false) := (cell_of_row _ _ _ _ _ (0, 0) gb3).trans rfl
  have c2 : W3.cell? ⟨b, 2, none⟩ = some (.int .i64 1) := (cell_of_row _ _ _ _ _ (0, 0) gb3).trans rfl
  have c3 : W3.cell? ⟨b, 3, none⟩ = some (.int .i64 1) := (cell_of_row _ _ _ _ _ (0, 0) gb3).trans rfl
  have c4 : W3.cell? ⟨b, 4, none⟩ = some (.slice none 0 0) := (cell_of_row _ _ _ _ _ (0, 0) gb3).trans rfl
  have fb : ∀ j, W3.frozen? ⟨b, j, none⟩ = false := fun j => frozen_of_row _ _ j _ _ gb3
  have hs3 : W3.heap.size = w2.heap.size + 2 := by rw [← hw3]; simp
  have hbl3 : Below w.heap.size w W3 := by rw [← hw3]; exact below_alloc (below_alloc hbl _) _
  clear hw3 gb hbl
  refine (W0.out _).mono ?_
  rintro e w4 ⟨rfl, rfl⟩
  clear W0
  have g4 := (Below.heap_setCell W3 ⟨w2.heap.size, 3, none⟩ (.int .i64 (-1)) b (by simp only; omega)).trans gb3
  have hc4 : CompsAt (W3.setCell ⟨w2.heap.size, 3, none⟩ (.int .i64 (-1))) (W3.setCell ⟨w2.heap.size, 3, none⟩ (.int .i64 (-1))).heap.size (some ⟨b, 0, none⟩) 1 (fun _ => ⟨8, false, 1, 1, none, 0, 0⟩) := comps1 g4 (by simp; omega) rfl
  have FR := frame_any 20 20 3 (-1) _ 1 1 (fun _ => ⟨8, false, 1, 1, none, 0, 0⟩) 64 64 2 4 4 15 0 0 1 false false false _ hc4 (by omega)
  have fe : frameE 20 20 3 (-1) 1 (fun _ => ⟨8, false, 1, 1, none, 0, 0⟩) 64 64 2 4 4 15 0 0 1 false = 1 := by decide
  rw [fe] at FR
  unfold imgV parV at FR
  have hb4 : Below w.heap.size w (W3.setCell ⟨w2.heap.size, 3, none⟩ (.int .i64 (-1))) := hbl3.setCell (p := ⟨w2.heap.size, 3, none⟩) (by simp only; omega) _
  have FR := Lib.hid FR
  clear fe hc4 g4 gb3
  go_wp2_with fail
  refine FR.out.mono ?_
  rintro e w5 ⟨rfl, hb5⟩
  go_wp2_with fail
  go_ret
  exact ⟨rfl, below_trans hb4 hb5⟩

theorem rows_3_f (which : Int) (hk : which % 16 = 3) (w : World) : Calls Try.prog 3 #[.int .i64 which, .bool false] w fun e w' => e = .returned (.bool true) ∧ Below w.heap.size w w' := by
  have W0 := Lib.hid (fun (v : World) => by have := within12 which 16 (by omega) (by omega) v; rw [hk] at this; exact this)
  go_enter Try.func3, Try.ntmps3
  go_wp2_with fail
  refine (known12 _).mono ?_
  rintro e w1 ⟨rfl, hb1⟩
  go_wp2_with fail
  refine (one_any 20 20 3 3 _).mono ?_
  rintro e w2 ⟨b, rfl, gb, hbb, hb2⟩
  unfold parV
  have hbl := below_trans hb1 hb2
  have hlt : b < w2.heap.size := (Array.getElem?_eq_some_iff.1 gb).1
  have hws := hbl.size
  have hwb := Nat.le_trans hb1.size hbb
  clear hb1 hb2 hbb
  go_wp2_with fail
  generalize hw3 : World.alloc (World.alloc w2 _) _ = W3
  have gb3 : W3.heap[b]? = some (.cells #[.int .i64 8, .bool false, .int .i64 1, .int .i64 1, .slice none 0 0] 34 (0, 0)) := by rw [← hw3]; exact (Below.heap_alloc _ _ _ (by simp; omega)).trans ((Below.heap_alloc _ _ _ (by omega)).trans gb)
  have m0 : W3.cell? ⟨w2.heap.size, 0, none⟩ = some (.int .i64 20) := by rw [← hw3]; simp [go_sem]
  have m1 : W3.cell? ⟨w2.heap.size, 1, none⟩ = some (.int .i64 20) := by rw [← hw3]; simp [go_sem]
  have m2 : W3.cell? ⟨w2.heap.size, 2, none⟩ = some (.int .i64 3) := by rw [← hw3]; simp [go_sem]
  have m3 : W3.cell? ⟨w2.heap.size, 3, none⟩ = some (.int .i64 3) := by rw [← hw3]; simp [go_sem]
  have m4 : W3.cell? ⟨w2.heap.size, 4, none⟩ = some (.slice (some ⟨b, 0, none⟩) 1 1) := by rw [← hw3]; simp [go_sem]
  have p0 : W3.cell? ⟨w2.heap.size + 1, 0, none⟩ = some (.int .i64 64) := by rw [← hw3]; simp [go_sem]
  have p1 : W3.cell? ⟨w2.heap.size + 1, 1, none⟩ = some (.int .i64 64) := by rw [← hw3]; simp [go_sem]
  have p2 : W3.cell? ⟨w2.heap.size + 1, 2, none⟩ = some (.int .i64 2) := by rw [← hw3]; simp [go_sem]
  have p3 : W3.cell? ⟨w2.heap.size + 1, 3, none⟩ = some (.int .i64 4) := by rw [← hw3]; simp [go_sem]
  have p4 : W3.cell? ⟨w2.heap.size + 1, 4, none⟩ = some (.int .i64 4) := by rw [← hw3]; simp [go_sem]
  have p5 : W3.cell? ⟨w2.heap.size + 1, 5, none⟩ = some (.int .i64 15) := by rw [← hw3]; simp [go_sem]
  have p6 : W3.cell? ⟨w2.heap.size + 1, 6, none⟩ = some (.int .i64 0) := by rw [← hw3]; simp [go_sem]
  have p7 : W3.cell? ⟨w2.heap.size + 1, 7, none⟩ = some (.int .i64 0) := by rw [← hw3]; simp [go_sem]
  have p8 : W3.cell? ⟨w2.heap.size + 1, 8, none⟩ = some (.int .i64 1) := by rw [← hw3]; simp [go_sem]
  have p9 : W3.cell? ⟨w2.heap.size + 1, 9, none⟩ = some (.bool false) := by rw [← hw3]; simp [go_sem]
  have p10 : W3.cell? ⟨w2.heap.size + 1, 10, none⟩ = some (.bool false) := by rw [← hw3]; simp [go_sem]
  have p11 : W3.cell? ⟨w2.heap.size + 1, 11, none⟩ = some (.bool false) := by rw [← hw3]; simp [go_sem]
  have fm : ∀ j, W3.frozen? ⟨w2.heap.size, j, none⟩ = false := fun j => by rw [← hw3]; exact (World.frozen?_of_block (a := ⟨w2.heap.size, j, none⟩) (Below.heap_alloc _ _ _ (by simp))).trans (frozen_of_row _ _ j _ _ (heap_alloc_new w2 _))
  have fp : ∀ j, W3.frozen? ⟨w2.heap.size + 1, j, none⟩ = false := fun j => by rw [← hw3]; exact frozen_of_row _ _ j _ _ (heap_alloc_new2 w2 _ _)
  have c0 : W3.cell? ⟨b, 0, none⟩ = some (.int .i64 8) := (cell_of_row _ _ _ _ _ (0, 0) gb3).trans rfl
  have c1 : W3.cell? ⟨b, 1, none⟩ = some (.bool false) := (cell_of_row _ _ _ _ _ (0, 0) gb3).trans rfl
  have c2 : W3.cell? ⟨b, 2, none⟩ = some (.int .i64 1) := (cell_of_row _ _ _ _ _ (0, 0) gb3).trans rfl
  have c3 : W3.cell? ⟨b, 3, none⟩ = some (.int .i64 1) := (cell_of_row _ _ _ _ _ (0, 0) gb3).trans rfl
  have c4 : W3.cell? ⟨b, 4, none⟩ = some (.slice none 0 0) := (cell_of_row _ _ _ _ _ (0, 0) gb3).trans rfl
  have fb : ∀ j, W3.frozen? ⟨b, j, none⟩ = false := fun j => frozen_of_row _ _ j _ _ gb3
  have hs3 : W3.heap.size = w2.heap.size + 2 := by rw [← hw3]; simp
  have hbl3 : Below w.heap.size w W3 := by rw [← hw3]; exact below_alloc (below_alloc hbl _) _
  clear hw3 gb hbl
  refine (W0.out _).mono ?_
  rintro e w4 ⟨rfl, rfl⟩
  clear W0
  have g4 := heap_set_same (j := 0) gb3 (.int .i64 16)
  have hc4 : CompsAt (W3.setCell ⟨b, 0, none⟩ (.int .i64 16)) (W3.setCell ⟨b, 0, none⟩ (.int .i64 16)).heap.size (some ⟨b, 0, none⟩) 1 (fun _ => ⟨16, false, 1, 1, none, 0, 0⟩) := comps1 g4 (by simp; omega) rfl
  have FR := frame_any 20 20 3 3 _ 1 1 (fun _ => ⟨16, false, 1, 1, none, 0, 0⟩) 64 64 2 4 4 15 0 0 1 false false false _ hc4 (by omega)
  have fe : frameE 20 20 3 3 1 (fun _ => ⟨16, false, 1, 1, none, 0, 0⟩) 64 64 2 4 4 15 0 0 1 false = 0 := by decide
  rw [fe] at FR
  unfold imgV parV at FR
  have hb4 : Below w.heap.size w (W3.setCell ⟨b, 0, none⟩ (.int .i64 16)) := hbl3.setCell (p := ⟨b, 0, none⟩) (by simp only; omega) _
  have FR := Lib.hid FR
  clear fe hc4 g4 gb3
  go_wp2_with fail
  refine FR.out.mono ?_
  rintro e w5 ⟨rfl, hb5⟩
  go_wp2_with fail
  go_ret
  exact ⟨rfl, below_trans hb4 hb5⟩

theorem rows_3_t (which : Int) (hk : which % 16 = 3) (w : World) : Calls Try.prog 3 #[.int .i64 which, .bool true] w fun e w' => e = .returned (.bool true) ∧ Below w.heap.size w w' := by
  have W0 := Lib.hid (fun (v : World) => by have := within12 which 16 (by omega) (by omega) v; rw [hk] at this; exact this)
  go_enter Try.func3, Try.ntmps3
  go_wp2_with fail
  refine (known12 _).mono ?_
  rintro e w1 ⟨rfl, hb1⟩
  go_wp2_with fail
  refine (one_any 20 20 3 3 _).mono ?_
  rintro e w2 ⟨b, rfl, gb, hbb, hb2⟩
  unfold parV
  have hbl := below_trans hb1 hb2
  have hlt : b < w2.heap.size := (Array.getElem?_eq_some_iff.1 gb).1
  have hws := hbl.size
  have hwb := Nat.le_trans hb1.size hbb
  clear hb1 hb2 hbb
  go_wp2_with fail
  generalize hw3 : World.alloc (World.alloc w2 _) _ = W3
  have gb3 : W3.heap[b]? = some (.cells #[.int .i64 8, .bool false, .int .i64 1, .int .i64 1, .slice none 0 0] 34 (0, 0)) := by rw [← hw3]; exact (Below.heap_alloc _ _ _ (by simp; omega)).trans ((Below.heap_alloc _ _ _ (by omega)).trans gb)
  have m0 : W3.cell? ⟨w2.heap.size, 0, none⟩ = some (.int .i64 20) := by rw [← hw3]; simp [go_sem]
  have m1 : W3.cell? ⟨w2.heap.size, 1, none⟩ = some (.int .i64 20) := by rw [← hw3]; simp [go_sem]
  have m2 : W3.cell? ⟨w2.heap.size, 2, none⟩ = some (.int .i64 3) := by rw [← hw3]; simp [go_sem]
  have m3 : W3.cell? ⟨w2.heap.size, 3, none⟩ = some (.int .i64 3) := by rw [← hw3]; simp [go_sem]
  have m4 : W3.cell? ⟨w2.heap.size, 4, none⟩ = some (.slice (some ⟨b, 0, none⟩) 1 1) := by rw [← hw3]; simp [go_sem]
  have p0 : W3.cell? ⟨w2.heap.size + 1, 0, none⟩ = some (.int .i64 64) := by rw [← hw3]; simp [go_sem]
  have p1 : W3.cell? ⟨w2.heap.size + 1, 1, none⟩ = some (.int .i64 64) := by rw [← hw3]; simp [go_sem]
  have p2 : W3.cell? ⟨w2.heap.size + 1, 2, none⟩ = some (.int .i64 2) := by rw [← hw3]; simp [go_sem]
  have p3 : W3.cell? ⟨w2.heap.size + 1, 3, none⟩ = some (.int .i64 4) := by rw [← hw3]; simp [go_sem]
  have p4 : W3.cell? ⟨w2.heap.size + 1, 4, none⟩ = some (.int .i64 4) := by rw [← hw3]; simp [go_sem]
  have p5 : W3.cell? ⟨w2.heap.size + 1, 5, none⟩ = some (.int .i64 15) := by rw [← hw3]; simp [go_sem]
  have p6 : W3.cell? ⟨w2.heap.size + 1, 6, none⟩ = some (.int .i64 0) := by rw [← hw3]; simp [go_sem]
  have p7 : W3.cell? ⟨w2.heap.size + 1, 7, none⟩ = some (.int .i64 0) := by rw [← hw3]; simp [go_sem]
  have p8 : W3.cell? ⟨w2.heap.size + 1, 8, none⟩ = some (.int .i64 1) := by rw [← hw3]; simp [go_sem]
  have p9 : W3.cell? ⟨w2.heap.size + 1, 9, none⟩ = some (.bool false) := by rw [← hw3]; simp [go_sem]
  have p10 : W3.cell? ⟨w2.heap.size + 1, 10, none⟩ = some (.bool false) := by rw [← hw3]; simp [go_sem]
  have p11 : W3.cell? ⟨w2.heap.size + 1, 11, none⟩ = some (.bool false) := by rw [← hw3]; simp [go_sem]
  have fm : ∀ j, W3.frozen? ⟨w2.heap.size, j, none⟩ = false := fun j => by rw [← hw3]; exact (World.frozen?_of_block (a := ⟨w2.heap.size, j, none⟩) (Below.heap_alloc _ _ _ (by simp))).trans (frozen_of_row _ _ j _ _ (heap_alloc_new w2 _))
  have fp : ∀ j, W3.frozen? ⟨w2.heap.size + 1, j, none⟩ = false := fun j => by rw [← hw3]; exact frozen_of_row _ _ j _ _ (heap_alloc_new2 w2 _ _)
  have c0 : W3.cell? ⟨b, 0, none⟩ = some (.int .i64 8) := (cell_of_row _ _ _ _ _ (0, 0) gb3).trans rfl
  have c1 : W3.cell? ⟨b, 1, none⟩ = some (.bool false) := (cell_of_row _ _ _ _ _ (0, 0) gb3).trans rfl
  have c2 : W3.cell? ⟨b, 2, none⟩ = some (.int .i64 1) := (cell_of_row _ _ _ _ _ (0, 0) gb3).trans rfl
  have c3 : W3.cell? ⟨b, 3, none⟩ = some (.int .i64 1) := (cell_of_row _ _ _ _ _ (0, 0) gb3).trans rfl
  have c4 : W3.cell? ⟨b, 4, none⟩ = some (.slice none 0 0) := (cell_of_row _ _ _ _ _ (0, 0) gb3).trans rfl
  have fb : ∀ j, W3.frozen? ⟨b, j, none⟩ = false := fun j => frozen_of_row _ _ j _ _ gb3
  have hs3 : W3.heap.size = w2.heap.size + 2 := by rw [← hw3]; simp
  have hbl3 : Below w.heap.size w W3 := by rw [← hw3]; exact below_alloc (below_alloc hbl _) _
  clear hw3 gb hbl
  refine (W0.out _).mono ?_
  rintro e w4 ⟨rfl, rfl⟩
  clear W0
  have g4 := heap_set_same (j := 0) gb3 (.int .i64 17)
  have hc4 : CompsAt (W3.setCell ⟨b, 0, none⟩ (.int .i64 17)) (W3.setCell ⟨b, 0, none⟩ (.int .i64 17)).heap.size (some ⟨b, 0, none⟩) 1 (fun _ => ⟨17, false, 1, 1, none, 0, 0⟩) := comps1 g4 (by simp; omega) rfl
  have FR := frame_any 20 20 3 3 _ 1 1 (fun _ => ⟨17, false, 1, 1, none, 0, 0⟩) 64 64 2 4 4 15 0 0 1 false false false _ hc4 (by omega)
  have fe : frameE 20 20 3 3 1 (fun _ => ⟨17, false, 1, 1, none, 0, 0⟩) 64 64 2 4 4 15 0 0 1 false = 1 := by decide
  rw [fe] at FR
  unfold imgV parV at FR
  have hb4 : Below w.heap.size w (W3.setCell ⟨b, 0, none⟩ (.int .i64 17)) := hbl3.setCell (p := ⟨b, 0, none⟩) (by simp only; omega) _
  have FR := Lib.hid FR
  clear fe hc4 g4 gb3
  go_wp2_with fail
  refine FR.out.mono ?_
  rintro e w5 ⟨rfl, hb5⟩
  go_wp2_with fail
  go_ret
  exact ⟨rfl, below_trans hb4 hb5⟩

theorem rows_4_f (which : Int) (hk : which % 16 = 4) (w : World) : Calls Try.prog 3 #[.int .i64 which, .bool false] w fun e w' => e = .returned (.bool true) ∧ Below w.heap.size w w' := by
  have W0 := Lib.hid (fun (v : World) => by have := within12 which 16 (by omega) (by omega) v; rw [hk] at this; exact this)
  go_enter Try.func3, Try.ntmps3
  go_wp2_with fail
  refine (known12 _).mono ?_
  rintro e w1 ⟨rfl, hb1⟩
  go_wp2_with fail
  refine (one_any 20 20 3 3 _).mono ?_
  rintro e w2 ⟨b, rfl, gb, hbb, hb2⟩
  unfold parV
  have hbl := below_trans hb1 hb2
  have hlt : b < w2.heap.size := (Array.getElem?_eq_some_iff.1 gb).1
  have hws := hbl.size
  have hwb := Nat.le_trans hb1.size hbb
  clear hb1 hb2 hbb
  go_wp2_with fail
  generalize hw3 : World.alloc (World.alloc w2 _) _ = W3
  have gb3 : W3.heap[b]? = some (.cells #[.int .i64 8, .bool false, .int .i64 1, .int .i64 1, .slice none 0 0] 34 (0, 0)) := by rw [← hw3]; exact (Below.heap_alloc _ _ _ (by simp; omega)).trans ((Below.heap_alloc _ _ _ (by omega)).trans gb)
  have m0 : W3.cell? ⟨w2.heap.size, 0, none⟩ = some (.int .i64 20) := by rw [← hw3]; simp [go_sem]
  have m1 : W3.cell? ⟨w2.heap.size, 1, none⟩ = some (.int .i64 20) := by rw [← hw3]; simp [go_sem]
  have m2 : W3.cell? ⟨w2.heap.size, 2, none⟩ = some (.int .i64 3) := by rw [← hw3]; simp [go_sem]
  have m3 : W3.cell? ⟨w2.heap.size, 3, none⟩ = some (.int .i64 3) := by rw [← hw3]; simp [go_sem]
  have m4 : W3.cell? ⟨w2.heap.size, 4, none⟩ = some (.slice (some ⟨b, 0, none⟩) 1 1) := by rw [← hw3]; simp [go_sem]
  have p0 : W3.cell? ⟨w2.heap.size + 1, 0, none⟩ = some (.int .i64 64) := by rw [← hw3]; simp [go_sem]
  have p1 : W3.cell? ⟨w2.heap.size + 1, 1, none⟩ = some (.int .i64 64) := by rw [← hw3]; simp [go_sem]
  have p2 : W3.cell? ⟨w2.heap.size + 1, 2, none⟩ = some (.int .i64 2) := by rw [← hw3]; simp [go_sem]
  have p3 : W3.cell? ⟨w2.heap.size + 1, 3, none⟩ = some (.int .i64 4) := by rw [← hw3]; simp [go_sem]
  have p4 : W3.cell? ⟨w2.heap.size + 1, 4, none⟩ = some (.int .i64 4) := by rw [← hw3]; simp [go_sem]
  have p5 : W3.cell? ⟨w2.heap.size + 1, 5, none⟩ = some (.int .i64 15) := by rw [← hw3]; simp [go_sem]
  have p6 : W3.cell? ⟨w2.heap.size + 1, 6, none⟩ = some (.int .i64 0) := by rw [← hw3]; simp [go_sem]
  have p7 : W3.cell? ⟨w2.heap.size + 1, 7, none⟩ = some (.int .i64 0) := by rw [← hw3]; simp [go_sem]
  have p8 : W3.cell? ⟨w2.heap.size + 1, 8, none⟩ = some (.int .i64 1) := by rw [← hw3]; simp [go_sem]
  have p9 : W3.cell? ⟨w2.heap.size + 1, 9, none⟩ = some (.bool false) := by rw [← hw3]; simp [go_sem]
  have p10 : W3.cell? ⟨w2.heap.size + 1, 10, none⟩ = some (.bool false) := by rw [← hw3]; simp [go_sem]
  have p11 : W3.cell? ⟨w2.heap.size + 1, 11, none⟩ = some (.bool false) := by rw [← hw3]; simp [go_sem]
  have fm : ∀ j, W3.frozen? ⟨w2.heap.size, j, none⟩ = false := fun j => by rw [← hw3]; exact (World.frozen?_of_block (a := ⟨w2.heap.size, j, none⟩) (Below.heap_alloc _ _ _ (by simp))).trans (frozen_of_row _ _ j _ _ (heap_alloc_new w2 _))
  have fp : ∀ j, W3.frozen? ⟨w2.heap.size + 1, j, none⟩ = false := fun j => by rw [← hw3]; exact frozen_of_row _ _ j _ _ (heap_alloc_new2 w2 _ _)
  have c0 : W3.cell? ⟨b, 0, none⟩ = some (.int .i64 8) := (cell_of_row _ _ _ _ _ (0, 0) gb3).trans rfl
  have c1 : W3.cell? ⟨b, 1, none⟩ = some (.bool false) := (cell_of_row _ _ _ _ _ (0, 0) gb3).trans rfl
  have c2 : W3.cell? ⟨b, 2, none⟩ = some (.int .i64 1) := (cell_of_row _ _ _ _ _ (0, 0) gb3).trans rfl
  have c3 : W3.cell? ⟨b, 3, none⟩ = some (.int .i64 1) := (cell_of_row _ _ _ _ _ (0, 0) gb3).trans rfl
  have c4 : W3.cell? ⟨b, 4, none⟩ = some (.slice none 0 0) := (cell_of_row _ _ _ _ _ (0, 0) gb3).trans rfl
  have fb : ∀ j, W3.frozen? ⟨b, j, none⟩ = false := fun j => frozen_of_row _ _ j _ _ gb3
  have hs3 : W3.heap.size = w2.heap.size + 2 := by rw [← hw3]; simp
  have hbl3 : Below w.heap.size w W3 := by rw [← hw3]; exact below_alloc (below_alloc hbl _) _
  clear hw3 gb hbl
  refine (W0.out _).mono ?_
  rintro e w4 ⟨rfl, rfl⟩
  clear W0
  have g4 := heap_set_same (j := 2) gb3 (.int .i64 4)
  have hc4 : CompsAt (W3.setCell ⟨b, 2, none⟩ (.int .i64 4)) (W3.setCell ⟨b, 2, none⟩ (.int .i64 4)).heap.size (some ⟨b, 0, none⟩) 1 (fun _ => ⟨8, false, 4, 1, none, 0, 0⟩) := comps1 g4 (by simp; omega) rfl
  have FR := frame_any 20 20 3 3 _ 1 1 (fun _ => ⟨8, false, 4, 1, none, 0, 0⟩) 64 64 2 4 4 15 0 0 1 false false false _ hc4 (by omega)
  have fe : frameE 20 20 3 3 1 (fun _ => ⟨8, false, 4, 1, none, 0, 0⟩) 64 64 2 4 4 15 0 0 1 false = 0 := by decide
  rw [fe] at FR
  unfold imgV parV at FR
  have hb4 : Below w.heap.size w (W3.setCell ⟨b, 2, none⟩ (.int .i64 4)) := hbl3.setCell (p := ⟨b, 2, none⟩) (by simp only; omega) _
  have FR := Lib.hid FR
  clear fe hc4 g4 gb3
  go_wp2_with fail
  refine FR.out.mono ?_
  rintro e w5 ⟨rfl, hb5⟩
  go_wp2_with fail
  go_ret
  exact ⟨rfl, below_trans hb4 hb5⟩

theorem rows_4_t (which : Int) (hk : which % 16 = 4) (w : World) : Calls Try.prog 3 #[.int .i64 which, .bool true] w fun e w' => e = .returned (.bool true) ∧ Below w.heap.size w w' := by
  have W0 := Lib.hid (fun (v : World) => by have := within12 which 16 (by omega) (by omega) v; rw [hk] at this; exact this)
  go_enter Try.func3, Try.ntmps3
  go_wp2_with fail
  refine (known12 _).mono ?_
  rintro e w1 ⟨rfl, hb1⟩
  go_wp2_with fail
  refine (one_any 20 20 3 3 _).mono ?_
  rintro e w2 ⟨b, rfl, gb, hbb, hb2⟩
  unfold parV
  have hbl := below_trans hb1 hb2
  have hlt : b < w2.heap.size := (Array.getElem?_eq_some_iff.1 gb).1
  have hws := hbl.size
  have hwb := Nat.le_trans hb1.size hbb
  clear hb1 hb2 hbb
  go_wp2_with fail
  generalize hw3 : World.alloc (World.alloc w2 _) _ = W3
  have gb3 : W3.heap[b]? = some (.cells #[.int .i64 8, .bool false, .int .i64 1, .int .i64 1, .slice none 0 0] 34 (0, 0)) := by rw [← hw3]; exact (Below.heap_alloc _ _ _ (by simp; omega)).trans ((Below.heap_alloc _ _ _ (by omega)).trans gb)
  have m0 : W3.cell? ⟨w2.heap.size, 0, none⟩ = some (.int .i64 20) := by rw [← hw3]; simp [go_sem]
  have m1 : W3.cell? ⟨w2.heap.size, 1, none⟩ = some (.int .i64 20) := by rw [← hw3]; simp [go_sem]
  have m2 : W3.cell? ⟨w2.heap.size, 2, none⟩ = some (.int .i64 3) := by rw [← hw3]; simp [go_sem]
  have m3 : W3.cell? ⟨w2.heap.size, 3, none⟩ = some (.int .i64 3) := by rw [← hw3]; simp [go_sem]
  have m4 : W3.cell? ⟨w2.heap.size, 4, none⟩ = some (.slice (some ⟨b, 0, none⟩) 1 1) := by rw [← hw3]; simp [go_sem]
  have p0 : W3.cell? ⟨w2.heap.size + 1, 0, none⟩ = some (.int .i64 64) := by rw [← hw3]; simp [go_sem]
  have p1 : W3.cell? ⟨w2.heap.size + 1, 1, none⟩ = some (.int .i64 64) := by rw [← hw3]; simp [go_sem]
  have p2 : W3.cell? ⟨w2.heap.size + 1, 2, none⟩ = some (.int .i64 2) := by rw [← hw3]; simp [go_sem]
  have p3 : W3.cell? ⟨w2.heap.size + 1, 3, none⟩ = some (.int .i64 4) := by rw [← hw3]; simp [go_sem]
  have p4 : W3.cell? ⟨w2.heap.size + 1, 4, none⟩ = some (.int .i64 4) := by rw [← hw3]; simp [go_sem]
  have p5 : W3.cell? ⟨w2.heap.size + 1, 5, none⟩ = some (.int .i64 15) := by rw [← hw3]; simp [go_sem]
  have p6 : W3.cell? ⟨w2.heap.size + 1, 6, none⟩ = some (.int .i64 0) := by rw [← hw3]; simp [go_sem]
  have p7 : W3.cell? ⟨w2.heap.size + 1, 7, none⟩ = some (.int .i64 0) := by rw [← hw3]; simp [go_sem]
  have p8 : W3.cell? ⟨w2.heap.size + 1, 8, none⟩ = some (.int .i64 1) := by rw [← hw3]; simp [go_sem]
  have p9 : W3.cell? ⟨w2.heap.size + 1, 9, none⟩ = some (.bool false) := by rw [← hw3]; simp [go_sem]
  have p10 : W3.cell? ⟨w2.heap.size + 1, 10, none⟩ = some (.bool false) := by rw [← hw3]; simp [go_sem]
  have p11 : W3.cell? ⟨w2.heap.size + 1, 11, none⟩ = some (.bool false) := by rw [← hw3]; simp [go_sem]
  have fm : ∀ j, W3.frozen? ⟨w2.heap.size, j, none⟩ = false := fun j => by rw [← hw3]; exact (World.frozen?_of_block (a := ⟨w2.heap.size, j, none⟩) (Below.heap_alloc _ _ _ (by simp))).trans (frozen_of_row _ _ j _ _ (heap_alloc_new w2 _))
  have fp : ∀ j, W3.frozen? ⟨w2.heap.size + 1, j, none⟩ = false := fun j => by rw [← hw3]; exact frozen_of_row _ _ j _ _ (heap_alloc_new2 w2 _ _)
  have c0 : W3.cell? ⟨b, 0, none⟩ = some (.int .i64 8) := (cell_of_row _ _ _ _ _ (0, 0) gb3).trans rfl
  have c1 : W3.cell? ⟨b, 1, none⟩ = some (.bool false) := (cell_of_row _ _ _ _ _ (0, 0) gb3).trans rfl
  have c2 : W3.cell? ⟨b, 2, none⟩ = some (.int .i64 1) := (cell_of_row _ _ _ _ _ (0, 0) gb3).trans rfl
  have c3 : W3.cell? ⟨b, 3, none⟩ = some (.int .i64 1) := (cell_of_row _ _ _ _ _ (0, 0) gb3).trans rfl
  have c4 : W3.cell? ⟨b, 4, none⟩ = some (.slice none 0 0) := (cell_of_row _ _ _ _ _ (0, 0) gb3).trans rfl
  have fb : ∀ j, W3.frozen? ⟨b, j, none⟩ = false := fun j => frozen_of_row _ _ j _ _ gb3
  have hs3 : W3.heap.size = w2.heap.size + 2 := by rw [← hw3]; simp
  have hbl3 : Below w.heap.size w W3 := by rw [← hw3]; exact below_alloc (below_alloc hbl _) _
  clear hw3 gb hbl
  refine (W0.out _).mono ?_
  rintro e w4 ⟨rfl, rfl⟩
  clear W0
  have g4 := heap_set_same (j := 2) gb3 (.int .i64 5)
  have hc4 : CompsAt (W3.setCell ⟨b, 2, none⟩ (.int .i64 5)) (W3.setCell ⟨b, 2, none⟩ (.int .i64 5)).heap.size (some ⟨b, 0, none⟩) 1 (fun _ => ⟨8, false, 5, 1, none, 0, 0⟩) := comps1 g4 (by simp; omega) rfl
  have FR := frame_any 20 20 3 3 _ 1 1 (fun _ => ⟨8, false, 5, 1, none, 0, 0⟩) 64 64 2 4 4 15 0 0 1 false false false _ hc4 (by omega)
  have fe : frameE 20 20 3 3 1 (fun _ => ⟨8, false, 5, 1, none, 0, 0⟩) 64 64 2 4 4 15 0 0 1 false = 1 := by decide
  rw [fe] at FR
  unfold imgV parV at FR
  have hb4 : Below w.heap.size w (W3.setCell ⟨b, 2, none⟩ (.int .i64 5)) := hbl3.setCell (p := ⟨b, 2, none⟩) (by simp only; omega) _
  have FR := Lib.hid FR
  clear fe hc4 g4 gb3
  go_wp2_with fail
  refine FR.out.mono ?_
  rintro e w5 ⟨rfl, hb5⟩
  go_wp2_with fail
  go_ret
  exact ⟨rfl, below_trans hb4 hb5⟩

theorem rows_5_f (which : Int) (hk : which % 16 = 5) (w : World) : Calls Try.prog 3 #[.int .i64 which, .bool false] w fun e w' => e = .returned (.bool true) ∧ Below w.heap.size w w' := by
  have W0 := Lib.hid (fun (v : World) => by have := within12 which 16 (by omega) (by omega) v; rw [hk] at this; exact this)
  go_enter Try.func3, Try.ntmps3
  go_wp2_with fail
  refine (known12 _).mono ?_
  rintro e w1 ⟨rfl, hb1⟩
  go_wp2_with fail
  refine (one_any 20 20 3 3 _).mono ?_
  rintro e w2 ⟨b, rfl, gb, hbb, hb2⟩
  unfold parV
  have hbl := below_trans hb1 hb2
  have hlt : b < w2.heap.size := (Array.getElem?_eq_some_iff.1 gb).1
  have hws := hbl.size
  have hwb := Nat.le_trans hb1.size hbb
  clear hb1 hb2 hbb
  go_wp2_with fail
  generalize hw3 : World.alloc (World.alloc w2 _) _ = W3
  have gb3 : W3.heap[b]? = some (.cells #[.int .i64 8, .bool false, .int .i64 1, .int .i64 1, .slice none 0 0] 34 (0, 0)) := by rw [← hw3]; exact (Below.heap_alloc _ _ _ (by simp; omega)).trans ((Below.heap_alloc _ _ _ (by omega)).trans gb)
  have m0 : W3.cell? ⟨w2.heap.size, 0, none⟩ = some (.int .i64 20) := by rw [← hw3]; simp [go_sem]
  have m1 : W3.cell? ⟨w2.heap.size, 1, none⟩ = some (.int .i64 20) := by rw [← hw3]; simp [go_sem]
  have m2 : W3.cell? ⟨w2.heap.size, 2, none⟩ = some (.int .i64 3) := by rw [← hw3]; simp [go_sem]
  have m3 : W3.cell? ⟨w2.heap.size, 3, none⟩ = some (.int .i64 3) := by rw [← hw3]; simp [go_sem]
  have m4 : W3.cell? ⟨w2.heap.size, 4, none⟩ = some (.slice (some ⟨b, 0, none⟩) 1 1) := by rw [← hw3]; simp [go_sem]
  have p0 : W3.cell? ⟨w2.heap.size + 1, 0, none⟩ = some (.int .i64 64) := by rw [← hw3]; simp [go_sem]
  have p1 : W3.cell? ⟨w2.heap.size + 1, 1, none⟩ = some (.int .i64 64) := by rw [← hw3]; simp [go_sem]
  have p2 : W3.cell? ⟨w2.heap.size + 1, 2, none⟩ = some (.int .i64 2) := by rw [← hw3]; simp [go_sem]
  have p3 : W3.cell? ⟨w2.heap.size + 1, 3, none⟩ = some (.int .i64 4) := by rw [← hw3]; simp [go_sem]
  have p4 : W3.cell? ⟨w2.heap.size + 1, 4, none⟩ = some (.int .i64 4) := by rw [← hw3]; simp [go_sem]
  have p5 : W3.cell? ⟨w2.heap.size + 1, 5, none⟩ = some (.int .i64 15) := by rw [← hw3]; simp [go_sem]
  have p6 : W3.cell? ⟨w2.heap.size + 1, 6, none⟩ = some (.int .i64 0) := by rw [← hw3]; simp [go_sem]
  have p7 : W3.cell? ⟨w2.heap.size + 1, 7, none⟩ = some (.int .i64 0) := by rw [← hw3]; simp [go_sem]
  have p8 : W3.cell? ⟨w2.heap.size + 1, 8, none⟩ = some (.int .i64 1) := by rw [← hw3]; simp [go_sem]
  have p9 : W3.cell? ⟨w2.heap.size + 1, 9, none⟩ = some (.bool false) := by rw [← hw3]; simp [go_sem]
  have p10 : W3.cell? ⟨w2.heap.size + 1, 10, none⟩ = some (.bool false) := by rw [← hw3]; simp [go_sem]
  have p11 : W3.cell? ⟨w2.heap.size + 1, 11, none⟩ = some (.bool false) := by rw [← hw3]; simp [go_sem]
  have fm : ∀ j, W3.frozen? ⟨w2.heap.size, j, none⟩ = false := fun j => by rw [← hw3]; exact (World.frozen?_of_block (a := ⟨w2.heap.size, j, none⟩) (Below.heap_alloc _ _ _ (by simp))).trans (frozen_of_row _ _ j _ _ (heap_alloc_new w2 _))
  have fp : ∀ j, W3.frozen? ⟨w2.heap.size + 1, j, none⟩ = false := fun j => by rw [← hw3]; exact frozen_of_row _ _ j _ _ (heap_alloc_new2 w2 _ _)
  have c0 : W3.cell? ⟨b, 0, none⟩ = some (.int .i64 8) := (cell_of_row _ _ _ _ _ (0, 0) gb3).trans rfl
  have c1 : W3.cell? ⟨b, 1, none⟩ = some (.bool false) := (cell_of_row _ _ _ _ _ (0, 0) gb3).trans rfl
  have c2 : W3.cell? ⟨b, 2, none⟩ = some (.int .i64 1) := (cell_of_row _ _ _ _ _ (0, 0) gb3).trans rfl
  have c3 : W3.cell? ⟨b, 3, none⟩ = some (.int .i64 1) := (cell_of_row _ _ _ _ _ (0, 0) gb3).trans rfl
  have c4 : W3.cell? ⟨b, 4, none⟩ = some (.slice none 0 0) := (cell_of_row _ _ _ _ _ (0, 0) gb3).trans rfl
  have fb : ∀ j, W3.frozen? ⟨b, j, none⟩ = false := fun j => frozen_of_row _ _ j _ _ gb3
  have hs3 : W3.heap.size = w2.heap.size + 2 := by rw [← hw3]; simp
  have hbl3 : Below w.heap.size w W3 := by rw [← hw3]; exact below_alloc (below_alloc hbl _) _
  clear hw3 gb hbl
  refine (W0.out _).mono ?_
  rintro e w4 ⟨rfl, rfl⟩
  clear W0
  have g4 := heap_set_same (j := 3) gb3 (.int .i64 1)
  have hc4 : CompsAt (W3.setCell ⟨b, 3, none⟩ (.int .i64 1)) (W3.setCell ⟨b, 3, none⟩ (.int .i64 1)).heap.size (some ⟨b, 0, none⟩) 1 (fun _ => ⟨8, false, 1, 1, none, 0, 0⟩) := comps1 g4 (by simp; omega) rfl
  have FR := frame_any 20 20 3 3 _ 1 1 (fun _ => ⟨8, false, 1, 1, none, 0, 0⟩) 64 64 2 4 4 15 0 0 1 false false false _ hc4 (by omega)
  have fe : frameE 20 20 3 3 1 (fun _ => ⟨8, false, 1, 1, none, 0, 0⟩) 64 64 2 4 4 15 0 0 1 false = 0 := by decide
  rw [fe] at FR
  unfold imgV parV at FR
  have hb4 : Below w.heap.size w (W3.setCell ⟨b, 3, none⟩ (.int .i64 1)) := hbl3.setCell (p := ⟨b, 3, none⟩) (by simp only; omega) _
  have FR := Lib.hid FR
  clear fe hc4 g4 gb3
  go_wp2_with fail
  refine FR.out.mono ?_
  rintro e w5 ⟨rfl, hb5⟩
  go_wp2_with fail
  go_ret
  exact ⟨rfl, below_trans hb4 hb5⟩

theorem rows_5_t (which : Int) (hk : which % 16 = 5) (w : World) : Calls Try.prog 3 #[.int .i64 which, .bool true] w fun e w' => e = .returned (.bool true) ∧ Below w.heap.size w w' := by
  have W0 := Lib.hid (fun (v : World) => by have := within12 which 16 (by omega) (by omega) v; rw [hk] at this; exact this)
  go_enter Try.func3, Try.ntmps3
  go_wp2_with fail
  refine (known12 _).mono ?_
  rintro e w1 ⟨rfl, hb1⟩
  go_wp2_with fail
  refine (one_any 20 20 3 3 _).mono ?_
  rintro e w2 ⟨b, rfl, gb, hbb, hb2⟩
  unfold parV
  have hbl := below_trans hb1 hb2
  have hlt : b < w2.heap.size := (Array.getElem?_eq_some_iff.1 gb).1
  have hws := hbl.size
  have hwb := Nat.le_trans hb1.size hbb
  clear hb1 hb2 hbb
  go_wp2_with fail
  generalize hw3 : World.alloc (World.alloc w2 _) _ = W3
  have gb3 : W3.heap[b]? = some (.cells #[.int .i64 8, .bool false, .int .i64 1, .int .i64 1, .slice none 0 0] 34 (0, 0)) := by rw [← hw3]; exact (Below.heap_alloc _ _ _ (by simp; omega)).trans ((Below.heap_alloc _ _ _ (by omega)).trans gb)
  have m0 : W3.cell? ⟨w2.heap.size, 0, none⟩ = some (.int .i64 20) := by rw [← hw3]; simp [go_sem]
  have m1 : W3.cell? ⟨w2.heap.size, 1, none⟩ = some (.int .i64 20) := by rw [← hw3]; simp [go_sem]
  have m2 : W3.cell? ⟨w2.heap.size, 2, none⟩ = some (.int .i64 3) := by rw [← hw3]; simp [go_sem]
  have m3 : W3.cell? ⟨w2.heap.size, 3, none⟩ = some (.int .i64 3) := by rw [← hw3]; simp [go_sem]
  have m4 : W3.cell? ⟨w2.heap.size, 4, none⟩ = some (.slice (some ⟨b, 0, none⟩) 1 1) := by rw [← hw3]; simp [go_sem]
  have p0 : W3.cell? ⟨w2.heap.size + 1, 0, none⟩ = some (.int .i64 64) := by rw [← hw3]; simp [go_sem]
  have p1 : W3.cell? ⟨w2.heap.size + 1, 1, none⟩ = some (.int .i64 64) := by rw [← hw3]; simp [go_sem]
  have p2 : W3.cell? ⟨w2.heap.size + 1, 2, none⟩ = some (.int .i64 2) := by rw [← hw3]; simp [go_sem]
  have p3 : W3.cell? ⟨w2.heap.size + 1, 3, none⟩ = some (.int .i64 4) := by rw [← hw3]; simp [go_sem]
  have p4 : W3.cell? ⟨w2.heap.size + 1, 4, none⟩ = some (.int .i64 4) := by rw [← hw3]; simp [go_sem]
  have p5 : W3.cell? ⟨w2.heap.size + 1, 5, none⟩ = some (.int .i64 15) := by rw [← hw3]; simp [go_sem]
  have p6 : W3.cell? ⟨w2.heap.size + 1, 6, none⟩ = some (.int .i64 0) := by rw [← hw3]; simp [go_sem]
  have p7 : W3.cell? ⟨w2.heap.size + 1, 7, none⟩ = some (.int .i64 0) := by rw [← hw3]; simp [go_sem]
  have p8 : W3.cell? ⟨w2.heap.size + 1, 8, none⟩ = some (.int .i64 1) := by rw [← hw3]; simp [go_sem]
  have p9 : W3.cell? ⟨w2.heap.size + 1, 9, none⟩ = some (.bool false) := by rw [← hw3]; simp [go_sem]
  have p10 : W3.cell? ⟨w2.heap.size + 1, 10, none⟩ = some (.bool false) := by rw [← hw3]; simp [go_sem]
  have p11 : W3.cell? ⟨w2.heap.size + 1, 11, none⟩ = some (.bool false) := by rw [← hw3]; simp [go_sem]
  have fm : ∀ j, W3.frozen? ⟨w2.heap.size, j, none⟩ = false := fun j => by rw [← hw3]; exact (World.frozen?_of_block (a := ⟨w2.heap.size, j, none⟩) (Below.heap_alloc _ _ _ (by simp))).trans (frozen_of_row _ _ j _ _ (heap_alloc_new w2 _))
  have fp : ∀ j, W3.frozen? ⟨w2.heap.size + 1, j, none⟩ = false := fun j => by rw [← hw3]; exact frozen_of_row _ _ j _ _ (heap_alloc_new2 w2 _ _)
  have c0 : W3.cell? ⟨b, 0, none⟩ = some (.int .i64 8) := (cell_of_row _ _ _ _ _ (0, 0) gb3).trans rfl
  have c1 : W3.cell? ⟨b, 1, none⟩ = some (.bool false) := (cell_of_row _ _ _ _ _ (0, 0) gb3).trans rfl
  have c2 : W3.cell? ⟨b, 2, none⟩ = some (.int .i64 1) := (cell_of_row _ _ _ _ _ (0, 0) gb3).trans rfl
  have c3 : W3.cell? ⟨b, 3, none⟩ = some (.int .i64 1) := (cell_of_row _ _ _ _ _ (0, 0) gb3).trans rfl
  have c4 : W3.cell? ⟨b, 4, none⟩ = some (.slice none 0 0) := (cell_of_row _ _ _ _ _ (0, 0) gb3).trans rfl
  have fb : ∀ j, W3.frozen? ⟨b, j, none⟩ = false := fun j => frozen_of_row _ _ j _ _ gb3
  have hs3 : W3.heap.size = w2.heap.size + 2 := by rw [← hw3]; simp
  have hbl3 : Below w.heap.size w W3 := by rw [← hw3]; exact below_alloc (below_alloc hbl _) _
  clear hw3 gb hbl
  refine (W0.out _).mono ?_
  rintro e w4 ⟨rfl, rfl⟩
  clear W0
  have g4 := heap_set_same (j := 3) gb3 (.int .i64 0)
  have hc4 : CompsAt (W3.setCell ⟨b, 3, none⟩ (.int .i64 0)) (W3.setCell ⟨b, 3, none⟩ (.int .i64 0)).heap.size (some ⟨b, 0, none⟩) 1 (fun _ => ⟨8, false, 1, 0, none, 0, 0⟩) := comps1 g4 (by simp; omega) rfl
  have FR := frame_any 20 20 3 3 _ 1 1 (fun _ => ⟨8, false, 1, 0, none, 0, 0⟩) 64 64 2 4 4 15 0 0 1 false false false _ hc4 (by omega)
  have fe : frameE 20 20 3 3 1 (fun _ => ⟨8, false, 1, 0, none, 0, 0⟩) 64 64 2 4 4 15 0 0 1 false = 1 := by decide
  rw [fe] at FR
  unfold imgV parV at FR
  have hb4 : Below w.heap.size w (W3.setCell ⟨b, 3, none⟩ (.int .i64 0)) := hbl3.setCell (p := ⟨b, 3, none⟩) (by simp only; omega) _
  have FR := Lib.hid FR
  clear fe hc4 g4 gb3
  go_wp2_with fail
  refine FR.out.mono ?_
  rintro e w5 ⟨rfl, hb5⟩
  go_wp2_with fail
  go_ret
  exact ⟨rfl, below_trans hb4 hb5⟩

theorem rows_6_f (which : Int) (hk : which % 16 = 6) (w : World) : Calls Try.prog 3 #[.int .i64 which, .bool false] w fun e w' => e = .returned (.bool true) ∧ Below w.heap.size w w' := by
  have W0 := Lib.hid (fun (v : World) => by have := within12 which 16 (by omega) (by omega) v; rw [hk] at this; exact this)
  go_enter Try.func3, Try.ntmps3
  go_wp2_with fail
  refine (known12 _).mono ?_
  rintro e w1 ⟨rfl, hb1⟩
  go_wp2_with fail
  refine (one_any 20 20 3 3 _).mono ?_
  rintro e w2 ⟨b, rfl, gb, hbb, hb2⟩
  unfold parV
  have hbl := below_trans hb1 hb2
  have hlt : b < w2.heap.size := (Array.getElem?_eq_some_iff.1 gb).1
  have hws := hbl.size
  have hwb := Nat.le_trans hb1.size hbb
  clear hb1 hb2 hbb
  go_wp2_with fail
  generalize hw3 : World.alloc (World.alloc w2 _) _ = W3
  have gb3 : W3.heap[b]? = some (.cells #[.int .i64 8, .bool false, .int .i64 1, .int .i64 1, .slice none 0 0] 34 (0, 0)) := by rw [← hw3]; exact (Below.heap_alloc _ _ _ (by simp; omega)).trans ((Below.heap_alloc _ _ _ (by omega)).trans gb)
  have m0 : W3.cell? ⟨w2.heap.size, 0, none⟩ = some (.int .i64 20) := by rw [← hw3]; simp [go_sem]
  have m1 : W3.cell? ⟨w2.heap.size, 1, none⟩ = some (.int .i64 20) := by rw [← hw3]; simp [go_sem]
  have m2 : W3.cell? ⟨w2.heap.size, 2, none⟩ = some (.int .i64 3) := by rw [← hw3]; simp [go_sem]
  have m3 : W3.cell? ⟨w2.heap.size, 3, none⟩ = some (.int .i64 3) := by rw [← hw3]; simp [go_sem]
  have m4 : W3.cell? ⟨w2.heap.size, 4, none⟩ = some (.slice (some ⟨b, 0, none⟩) 1 1) := by rw [← hw3]; simp [go_sem]
  have p0 : W3.cell? ⟨w2.heap.size + 1, 0, none⟩ = some (.int .i64 64) := by rw [← hw3]; simp [go_sem]
  have p1 : W3.cell? ⟨w2.heap.size + 1, 1, none⟩ = some (.int .i64 64) := by rw [← hw3]; simp [go_sem]
  have p2 : W3.cell? ⟨w2.heap.size + 1, 2, none⟩ = some (.int .i64 2) := by rw [← hw3]; simp [go_sem]
  have p3 : W3.cell? ⟨w2.heap.size + 1, 3, none⟩ = some (.int .i64 4) := by rw [← hw3]; simp [go_sem]
  have p4 : W3.cell? ⟨w2.heap.size + 1, 4, none⟩ = some (.int .i64 4) := by rw [← hw3]; simp [go_sem]
  have p5 : W3.cell? ⟨w2.heap.size + 1, 5, none⟩ = some (.int .i64 15) := by rw [← hw3]; simp [go_sem]
  have p6 : W3.cell? ⟨w2.heap.size + 1, 6, none⟩ = some (.int .i64 0) := by rw [← hw3]; simp [go_sem]
  have p7 : W3.cell? ⟨w2.heap.size + 1, 7, none⟩ = some (.int .i64 0) := by rw [← hw3]; simp [go_sem]
  have p8 : W3.cell? ⟨w2.heap.size + 1, 8, none⟩ = some (.int .i64 1) := by rw [← hw3]; simp [go_sem]
  have p9 : W3.cell? ⟨w2.heap.size + 1, 9, none⟩ = some (.bool false) := by rw [← hw3]; simp [go_sem]
  have p10 : W3.cell? ⟨w2.heap.size + 1, 10, none⟩ = some (.bool false) := by rw [← hw3]; simp [go_sem]
  have p11 : W3.cell? ⟨w2.heap.size + 1, 11, none⟩ = some (.bool false) := by rw [← hw3]; simp [go_sem]
  have fm : ∀ j, W3.frozen? ⟨w2.heap.size, j, none⟩ = false := fun j => by rw [← hw3]; exact (World.frozen?_of_block (a := ⟨w2.heap.size, j, none⟩) (Below.heap_alloc _ _ _ (by simp))).trans (frozen_of_row _ _ j _ _ (heap_alloc_new w2 _))
  have fp : ∀ j, W3.frozen? ⟨w2.heap.size + 1, j, none⟩ = false := fun j => by rw [← hw3]; exact frozen_of_row _ _ j _ _ (heap_alloc_new2 w2 _ _)
  have c0 : W3.cell? ⟨b, 0, none⟩ = some (.int .i64 8) := (cell_of_row _ _ _ _ _ (0, 0) gb3).trans rfl
  have c1 : W3.cell? ⟨b, 1, none⟩ = some (.bool false) := (cell_of_row _ _ _ _ _ (0, 0) gb3).trans rfl
  have c2 : W3.cell? ⟨b, 2, none⟩ = some (.int .i64 1) := (cell_of_row _ _ _ _ _ (0, 0) gb3).trans rfl
  have c3 : W3.cell? ⟨b, 3, none⟩ = some (.int .i64 1) := (cell_of_row _ _ _ _ _ (0, 0) gb3).trans rfl
  have c4 : W3.cell? ⟨b, 4, none⟩ = some (.slice none 0 0) := (cell_of_row _ _ _ _ _ (0, 0) gb3).trans rfl
  have fb : ∀ j, W3.frozen? ⟨b, j, none⟩ = false := fun j => frozen_of_row _ _ j _ _ gb3
  have hs3 : W3.heap.size = w2.heap.size + 2 := by rw [← hw3]; simp
  have hbl3 : Below w.heap.size w W3 := by rw [← hw3]; exact below_alloc (below_alloc hbl _) _
  clear hw3 gb hbl
  refine (W0.out _).mono ?_
  rintro e w4 ⟨rfl, rfl⟩
  clear W0
  have g4 := (Below.heap_setCell W3 ⟨w2.heap.size + 1, 0, none⟩ (.int .i64 4) b (by simp only; omega)).trans gb3
  have hc4 : CompsAt (W3.setCell ⟨w2.heap.size + 1, 0, none⟩ (.int .i64 4)) (W3.setCell ⟨w2.heap.size + 1, 0, none⟩ (.int .i64 4)).heap.size (some ⟨b, 0, none⟩) 1 (fun _ => ⟨8, false, 1, 1, none, 0, 0⟩) := comps1 g4 (by simp; omega) rfl
  have FR := frame_any 20 20 3 3 _ 1 1 (fun _ => ⟨8, false, 1, 1, none, 0, 0⟩) 4 64 2 4 4 15 0 0 1 false false false _ hc4 (by omega)
  have fe : frameE 20 20 3 3 1 (fun _ => ⟨8, false, 1, 1, none, 0, 0⟩) 4 64 2 4 4 15 0 0 1 false = 0 := by decide
  rw [fe] at FR
  unfold imgV parV at FR
  have hb4 : Below w.heap.size w (W3.setCell ⟨w2.heap.size + 1, 0, none⟩ (.int .i64 4)) := hbl3.setCell (p := ⟨w2.heap.size + 1, 0, none⟩) (by simp only; omega) _
  have FR := Lib.hid FR
  clear fe hc4 g4 gb3
  go_wp2_with fail
  refine FR.out.mono ?_
  rintro e w5 ⟨rfl, hb5⟩
  go_wp2_with fail
  go_ret
  exact ⟨rfl, below_trans hb4 hb5⟩

theorem rows_6_t (which : Int) (hk : which % 16 = 6) (w : World) : Calls Try.prog 3 #[.int .i64 which, .bool true] w fun e w' => e = .returned (.bool true) ∧ Below w.heap.size w w' := by
  have W0 := Lib.hid (fun (v : World) => by have := within12 which 16 (by omega) (by omega) v; rw [hk] at this; exact this)
  go_enter Try.func3, Try.ntmps3
  go_wp2_with fail
  refine (known12 _).mono ?_
  rintro e w1 ⟨rfl, hb1⟩
  go_wp2_with fail
  refine (one_any 20 20 3 3 _).mono ?_
  rintro e w2 ⟨b, rfl, gb, hbb, hb2⟩
  unfold parV
  have hbl := below_trans hb1 hb2
  have hlt : b < w2.heap.size := (Array.getElem?_eq_some_iff.1 gb).1
  have hws := hbl.size
  have hwb := Nat.le_trans hb1.size hbb
  clear hb1 hb2 hbb
  go_wp2_with fail
  generalize hw3 : World.alloc (World.alloc w2 _) _ = W3
  have gb3 : W3.heap[b]? = some (.cells #[.int .i64 8, .bool false, .int .i64 1, .int .i64 1, .slice none 0 0] 34 (0, 0)) := by rw [← hw3]; exact (Below.heap_alloc _ _ _ (by simp; omega)).trans ((Below.heap_alloc _ _ _ (by omega)).trans gb)
  have m0 : W3.cell? ⟨w2.heap.size, 0, none⟩ = some (.int .i64 20) := by rw [← hw3]; simp [go_sem]
  have m1 : W3.cell? ⟨w2.heap.size, 1, none⟩ = some (.int .i64 20) := by rw [← hw3]; simp [go_sem]
  have m2 : W3.cell? ⟨w2.heap.size, 2, none⟩ = some (.int .i64 3) := by rw [← hw3]; simp [go_sem]
  have m3 : W3.cell? ⟨w2.heap.size, 3, none⟩ = some (.int .i64 3) := by rw [← hw3]; simp [go_sem]
  have m4 : W3.cell? ⟨w2.heap.size, 4, none⟩ = some (.slice (some ⟨b, 0, none⟩) 1 1) := by rw [← hw3]; simp [go_sem]
  have p0 : W3.cell? ⟨w2.heap.size + 1, 0, none⟩ = some (.int .i64 64) := by rw [← hw3]; simp [go_sem]
  have p1 : W3.cell? ⟨w2.heap.size + 1, 1, none⟩ = some (.int .i64 64) := by rw [← hw3]; simp [go_sem]
  have p2 : W3.cell? ⟨w2.heap.size + 1, 2, none⟩ = some (.int .i64 2) := by rw [← hw3]; simp [go_sem]
  have p3 : W3.cell? ⟨w2.heap.size + 1, 3, none⟩ = some (.int .i64 4) := by rw [← hw3]; simp [go_sem]
  have p4 : W3.cell? ⟨w2.heap.size + 1, 4, none⟩ = some (.int .i64 4) := by rw [← hw3]; simp [go_sem]
  have p5 : W3.cell? ⟨w2.heap.size + 1, 5, none⟩ = some (.int .i64 15) := by rw [← hw3]; simp [go_sem]
  have p6 : W3.cell? ⟨w2.heap.size + 1, 6, none⟩ = some (.int .i64 0) := by rw [← hw3]; simp [go_sem]
  have p7 : W3.cell? ⟨w2.heap.size + 1, 7, none⟩ = some (.int .i64 0) := by rw [← hw3]; simp [go_sem]
  have p8 : W3.cell? ⟨w2.heap.size + 1, 8, none⟩ = some (.int .i64 1) := by rw [← hw3]; simp [go_sem]
  have p9 : W3.cell? ⟨w2.heap.size + 1, 9, none⟩ = some (.bool false) := by rw [← hw3]; simp [go_sem]
  have p10 : W3.cell? ⟨w2.heap.size + 1, 10, none⟩ = some (.bool false) := by rw [← hw3]; simp [go_sem]
  have p11 : W3.cell? ⟨w2.heap.size + 1, 11, none⟩ = some (.bool false) := by rw [← hw3]; simp [go_sem]
  have fm : ∀ j, W3.frozen? ⟨w2.heap.size, j, none⟩ = false := fun j => by rw [← hw3]; exact (World.frozen?_of_block (a := ⟨w2.heap.size, j, none⟩) (Below.heap_alloc _ _ _ (by simp))).trans (frozen_of_row _ _ j _ _ (heap_alloc_new w2 _))
  have fp : ∀ j, W3.frozen? ⟨w2.heap.size + 1, j, none⟩ = false := fun j => by rw [← hw3]; exact frozen_of_row _ _ j _ _ (heap_alloc_new2 w2 _ _)
  have c0 : W3.cell? ⟨b, 0, none⟩ = some (.int .i64 8) := (cell_of_row _ _ _ _ _ (0, 0) gb3).trans rfl
  have c1 : W3.cell? ⟨b, 1, none⟩ = some (.bool false) := (cell_of_row _ _ _ _ _ (0, 0) gb3).trans rfl
  have c2 : W3.cell? ⟨b, 2, none⟩ = some (.int .i64 1) := (cell_of_row _ _ _ _ _ (0, 0) gb3).trans rfl
  have c3 : W3.cell? ⟨b, 3, none⟩ = some (.int .i64 1) := (cell_of_row _ _ _ _ _ (0, 0) gb3).trans rfl
  have c4 : W3.cell? ⟨b, 4, none⟩ = some (.slice none 0 0) := (cell_of_row _ _ _ _ _ (0, 0) gb3).trans rfl
  have fb : ∀ j, W3.frozen? ⟨b, j, none⟩ = false := fun j => frozen_of_row _ _ j _ _ gb3
  have hs3 : W3.heap.size = w2.heap.size + 2 := by rw [← hw3]; simp
  have hbl3 : Below w.heap.size w W3 := by rw [← hw3]; exact below_alloc (below_alloc hbl _) _
  clear hw3 gb hbl
  refine (W0.out _).mono ?_
  rintro e w4 ⟨rfl, rfl⟩
  clear W0
  have g4 := (Below.heap_setCell W3 ⟨w2.heap.size + 1, 0, none⟩ (.int .i64 3) b (by simp only; omega)).trans gb3
  have hc4 : CompsAt (W3.setCell ⟨w2.heap.size + 1, 0, none⟩ (.int .i64 3)) (W3.setCell ⟨w2.heap.size + 1, 0, none⟩ (.int .i64 3)).heap.size (some ⟨b, 0, none⟩) 1 (fun _ => ⟨8, false, 1, 1, none, 0, 0⟩) := comps1 g4 (by simp; omega) rfl
  have FR := frame_any 20 20 3 3 _ 1 1 (fun _ => ⟨8, false, 1, 1, none, 0, 0⟩) 3 64 2 4 4 15 0 0 1 false false false _ hc4 (by omega)
  have fe : frameE 20 20 3 3 1 (fun _ => ⟨8, false, 1, 1, none, 0, 0⟩) 3 64 2 4 4 15 0 0 1 false = 1 := by decide
  rw [fe] at FR
  unfold imgV parV at FR
  have hb4 : Below w.heap.size w (W3.setCell ⟨w2.heap.size + 1, 0, none⟩ (.int .i64 3)) := hbl3.setCell (p := ⟨w2.heap.size + 1, 0, none⟩) (by simp only; omega) _
  have FR := Lib.hid FR
  clear fe hc4 g4 gb3
  go_wp2_with fail
  refine FR.out.mono ?_
  rintro e w5 ⟨rfl, hb5⟩
  go_wp2_with fail
  go_ret
  exact ⟨rfl, below_trans hb4 hb5⟩

theorem rows_7_f (which : Int) (hk : which % 16 = 7) (w : World) : Calls Try.prog 3 #[.int .i64 which, .bool false] w fun e w' => e = .returned (.bool true) ∧ Below w.heap.size w w' := by
  have W0 := Lib.hid (fun (v : World) => by have := within12 which 16 (by omega) (by omega) v; rw [hk] at this; exact this)
  go_enter Try.func3, Try.ntmps3
  go_wp2_with fail
  refine (known12 _).mono ?_
  rintro e w1 ⟨rfl, hb1⟩
  go_wp2_with fail
  refine (one_any 20 20 3 3 _).mono ?_
  rintro e w2 ⟨b, rfl, gb, hbb, hb2⟩
  unfold parV
  have hbl := below_trans hb1 hb2
  have hlt : b < w2.heap.size := (Array.getElem?_eq_some_iff.1 gb).1
  have hws := hbl.size
  have hwb := Nat.le_trans hb1.size hbb
  clear hb1 hb2 hbb
  go_wp2_with fail
  generalize hw3 : World.alloc (World.alloc w2 _) _ = W3
  have gb3 : W3.heap[b]? = some (.cells #[.int .i64 8, .bool false, .int .i64 1, .int .i64 1, .slice none 0 0] 34 (0, 0)) := by rw [← hw3]; exact (Below.heap_alloc _ _ _ (by simp; omega)).trans ((Below.heap_alloc _ _ _ (by omega)).trans gb)
  have m0 : W3.cell? ⟨w2.heap.size, 0, none⟩ = some (.int .i64 20) := by rw [← hw3]; simp [go_sem]
  have m1 : W3.cell? ⟨w2.heap.size, 1, none⟩ = some (.int .i64 20) := by rw [← hw3]; simp [go_sem]
  have m2 : W3.cell? ⟨w2.heap.size, 2, none⟩ = some (.int .i64 3) := by rw [← hw3]; simp [go_sem]
  have m3 : W3.cell? ⟨w2.heap.size, 3, none⟩ = some (.int .i64 3) := by rw [← hw3]; simp [go_sem]
  have m4 : W3.cell? ⟨w2.heap.size, 4, none⟩ = some (.slice (some ⟨b, 0, none⟩) 1 1) := by rw [← hw3]; simp [go_sem]
  have p0 : W3.cell? ⟨w2.heap.size + 1, 0, none⟩ = some (.int .i64 64) := by rw [← hw3]; simp [go_sem]
  have p1 : W3.cell? ⟨w2.heap.size + 1, 1, none⟩ = some (.int .i64 64) := by rw [← hw3]; simp [go_sem]
  have p2 : W3.cell? ⟨w2.heap.size + 1, 2, none⟩ = some (.int .i64 2) := by rw [← hw3]; simp [go_sem]
  have p3 : W3.cell? ⟨w2.heap.size + 1, 3, none⟩ = some (.int .i64 4) := by rw [← hw3]; simp [go_sem]
  have p4 : W3.cell? ⟨w2.heap.size + 1, 4, none⟩ = some (.int .i64 4) := by rw [← hw3]; simp [go_sem]
  have p5 : W3.cell? ⟨w2.heap.size + 1, 5, none⟩ = some (.int .i64 15) := by rw [← hw3]; simp [go_sem]
  have p6 : W3.cell? ⟨w2.heap.size + 1, 6, none⟩ = some (.int .i64 0) := by rw [← hw3]; simp [go_sem]
  have p7 : W3.cell? ⟨w2.heap.size + 1, 7, none⟩ = some (.int .i64 0) := by rw [← hw3]; simp [go_sem]
  have p8 : W3.cell? ⟨w2.heap.size + 1, 8, none⟩ = some (.int .i64 1) := by rw [← hw3]; simp [go_sem]
  have p9 : W3.cell? ⟨w2.heap.size + 1, 9, none⟩ = some (.bool false) := by rw [← hw3]; simp [go_sem]
  have p10 : W3.cell? ⟨w2.heap.size + 1, 10, none⟩ = some (.bool false) := by rw [← hw3]; simp [go_sem]
  have p11 : W3.cell? ⟨w2.heap.size + 1, 11, none⟩ = some (.bool false) := by rw [← hw3]; simp [go_sem]
  have fm : ∀ j, W3.frozen? ⟨w2.heap.size, j, none⟩ = false := fun j => by rw [← hw3]; exact (World.frozen?_of_block (a := ⟨w2.heap.size, j, none⟩) (Below.heap_alloc _ _ _ (by simp))).trans (frozen_of_row _ _ j _ _ (heap_alloc_new w2 _))
  have fp : ∀ j, W3.frozen? ⟨w2.heap.size + 1, j, none⟩ = false := fun j => by rw [← hw3]; exact frozen_of_row _ _ j _ _ (heap_alloc_new2 w2 _ _)
  have c0 : W3.cell? ⟨b, 0, none⟩ = some (.int .i64 8) := (cell_of_row _ _ _ _ _ (0, 0) gb3).trans rfl
  have c1 : W3.cell? ⟨b, 1, none⟩ = some (.bool false) := (cell_of_row _ _ _ _ _ (0, 0) gb3).trans rfl
  have c2 : W3.cell? ⟨b, 2, none⟩ = some (.int .i64 1) := (cell_of_row _ _ _ _ _ (0, 0) gb3).trans rfl
  have c3 : W3.cell? ⟨b, 3, none⟩ = some (.int .i64 1) := (cell_of_row _ _ _ _ _ (0, 0) gb3).trans rfl
  have c4 : W3.cell? ⟨b, 4, none⟩ = some (.slice none 0 0) := (cell_of_row _ _ _ _ _ (0, 0) gb3).trans rfl
  have fb : ∀ j, W3.frozen? ⟨b, j, none⟩ = false := fun j => frozen_of_row _ _ j _ _ gb3
  have hs3 : W3.heap.size = w2.heap.size + 2 := by rw [← hw3]; simp
  have hbl3 : Below w.heap.size w W3 := by rw [← hw3]; exact below_alloc (below_alloc hbl _) _
  clear hw3 gb hbl
  refine (W0.out _).mono ?_
  rintro e w4 ⟨rfl, rfl⟩
  clear W0
  have g4 := (Below.heap_setCell W3 ⟨w2.heap.size + 1, 1, none⟩ (.int .i64 65536) b (by simp only; omega)).trans gb3
  have hc4 : CompsAt (W3.setCell ⟨w2.heap.size + 1, 1, none⟩ (.int .i64 65536)) (W3.setCell ⟨w2.heap.size + 1, 1, none⟩ (.int .i64 65536)).heap.size (some ⟨b, 0, none⟩) 1 (fun _ => ⟨8, false, 1, 1, none, 0, 0⟩) := comps1 g4 (by simp; omega) rfl
  have FR := frame_any 20 20 3 3 _ 1 1 (fun _ => ⟨8, false, 1, 1, none, 0, 0⟩) 64 65536 2 4 4 15 0 0 1 false false false _ hc4 (by omega)
  have fe : frameE 20 20 3 3 1 (fun _ => ⟨8, false, 1, 1, none, 0, 0⟩) 64 65536 2 4 4 15 0 0 1 false = 0 := by decide
  rw [fe] at FR
  unfold imgV parV at FR
  have hb4 : Below w.heap.size w (W3.setCell ⟨w2.heap.size + 1, 1, none⟩ (.int .i64 65536)) := hbl3.setCell (p := ⟨w2.heap.size + 1, 1, none⟩) (by simp only; omega) _
  have FR := Lib.hid FR
  clear fe hc4 g4 gb3
  go_wp2_with fail
  refine FR.out.mono ?_
  rintro e w5 ⟨rfl, hb5⟩
  go_wp2_with fail
  go_ret
  exact ⟨rfl, below_trans hb4 hb5⟩

theorem rows_7_t (which : Int) (hk : which % 16 = 7) (w : World) : Calls Try.prog 3 #[.int .i64 which, .bool true] w fun e w' => e = .returned (.bool true) ∧ Below w.heap.size w w' := by
  have W0 := Lib.hid (fun (v : World) => by have := within12 which 16 (by omega) (by omega) v; rw [hk] at this; exact this)
  go_enter Try.func3, Try.ntmps3
  go_wp2_with fail
  refine (known12 _).mono ?_
  rintro e w1 ⟨rfl, hb1⟩
  go_wp2_with fail
  refine (one_any 20 20 3 3 _).mono ?_
  rintro e w2 ⟨b, rfl, gb, hbb, hb2⟩
  unfold parV
  have hbl := below_trans hb1 hb2
  have hlt : b < w2.heap.size := (Array.getElem?_eq_some_iff.1 gb).1
  have hws := hbl.size
  have hwb := Nat.le_trans hb1.size hbb
  clear hb1 hb2 hbb
  go_wp2_with fail
  generalize hw3 : World.alloc (World.alloc w2 _) _ = W3
  have gb3 : W3.heap[b]? = some (.cells #[.int .i64 8, .bool false, .int .i64 1, .int .i64 1, .slice none 0 0] 34 (0, 0)) := by rw [← hw3]; exact (Below.heap_alloc _ _ _ (by simp; omega)).trans ((Below.heap_alloc _ _ _ (by omega)).trans gb)
  have m0 : W3.cell? ⟨w2.heap.size, 0, none⟩ = some (.int .i64 20) := by rw [← hw3]; simp [go_sem]
  have m1 : W3.cell? ⟨w2.heap.size, 1, none⟩ = some (.int .i64 20) := by rw [← hw3]; simp [go_sem]
  have m2 : W3.cell? ⟨w2.heap.size, 2, none⟩ = some (.int .i64 3) := by rw [← hw3]; simp [go_sem]
  have m3 : W3.cell? ⟨w2.heap.size, 3, none⟩ = some (.int .i64 3) := by rw [← hw3]; simp [go_sem]
  have m4 : W3.cell? ⟨w2.heap.size, 4, none⟩ = some (.slice (some ⟨b, 0, none⟩) 1 1) := by rw [← hw3]; simp [go_sem]
  have p0 : W3.cell? ⟨w2.heap.size + 1, 0, none⟩ = some (.int .i64 64) := by rw [← hw3]; simp [go_sem]
  have p1 : W3.cell? ⟨w2.heap.size + 1, 1, none⟩ = some (.int .i64 64) := by rw [← hw3]; simp [go_sem]
  have p2 : W3.cell? ⟨w2.heap.size + 1, 2, none⟩ = some (.int .i64 2) := by rw [← hw3]; simp [go_sem]
  have p3 : W3.cell? ⟨w2.heap.size + 1, 3, none⟩ = some (.int .i64 4) := by rw [← hw3]; simp [go_sem]
  have p4 : W3.cell? ⟨w2.heap.size + 1, 4, none⟩ = some (.int .i64 4) := by rw [← hw3]; simp [go_sem]
  have p5 : W3.cell? ⟨w2.heap.size + 1, 5, none⟩ = some (.int .i64 15) := by rw [← hw3]; simp [go_sem]
  have p6 : W3.cell? ⟨w2.heap.size + 1, 6, none⟩ = some (.int .i64 0) := by rw [← hw3]; simp [go_sem]
  have p7 : W3.cell? ⟨w2.heap.size + 1, 7, none⟩ = some (.int .i64 0) := by rw [← hw3]; simp [go_sem]
  have p8 : W3.cell? ⟨w2.heap.size + 1, 8, none⟩ = some (.int .i64 1) := by rw [← hw3]; simp [go_sem]
  have p9 : W3.cell? ⟨w2.heap.size + 1, 9, none⟩ = some (.bool false) := by rw [← hw3]; simp [go_sem]
  have p10 : W3.cell? ⟨w2.heap.size + 1, 10, none⟩ = some (.bool false) := by rw [← hw3]; simp [go_sem]
  have p11 : W3.cell? ⟨w2.heap.size + 1, 11, none⟩ = some (.bool false) := by rw [← hw3]; simp [go_sem]
  have fm : ∀ j, W3.frozen? ⟨w2.heap.size, j, none⟩ = false := fun j => by rw [← hw3]; exact (World.frozen?_of_block (a := ⟨w2.heap.size, j, none⟩) (Below.heap_alloc _ _ _ (by simp))).trans (frozen_of_row _ _ j _ _ (heap_alloc_new w2 _))
  have fp : ∀ j, W3.frozen? ⟨w2.heap.size + 1, j, none⟩ = false := fun j => by rw [← hw3]; exact frozen_of_row _ _ j _ _ (heap_alloc_new2 w2 _ _)
  have c0 : W3.cell? ⟨b, 0, none⟩ = some (.int .i64 8) := (cell_of_row _ _ _ _ _ (0, 0) gb3).trans rfl
  have c1 : W3.cell? ⟨b, 1, none⟩ = some (.bool false) := (cell_of_row _ _ _ _ _ (0, 0) gb3).trans rfl
  have c2 : W3.cell? ⟨b, 2, none⟩ = some (.int .i64 1) := (cell_of_row _ _ _ _ _ (0, 0) gb3).trans rfl
  have c3 : W3.cell? ⟨b, 3, none⟩ = some (.int .i64 1) := (cell_of_row _ _ _ _ _ (0, 0) gb3).trans rfl
  have c4 : W3.cell? ⟨b, 4, none⟩ = some (.slice none 0 0) := (cell_of_row _ _ _ _ _ (0, 0) gb3).trans rfl
  have fb : ∀ j, W3.frozen? ⟨b, j, none⟩ = false := fun j => frozen_of_row _ _ j _ _ gb3
  have hs3 : W3.heap.size = w2.heap.size + 2 := by rw [← hw3]; simp
  have hbl3 : Below w.heap.size w W3 := by rw [← hw3]; exact below_alloc (below_alloc hbl _) _
  clear hw3 gb hbl
  refine (W0.out _).mono ?_
  rintro e w4 ⟨rfl, rfl⟩
  clear W0
  have g4 := (Below.heap_setCell W3 ⟨w2.heap.size + 1, 1, none⟩ (.int .i64 65537) b (by simp only; omega)).trans gb3
  have hc4 : CompsAt (W3.setCell ⟨w2.heap.size + 1, 1, none⟩ (.int .i64 65537)) (W3.setCell ⟨w2.heap.size + 1, 1, none⟩ (.int .i64 65537)).heap.size (some ⟨b, 0, none⟩) 1 (fun _ => ⟨8, false, 1, 1, none, 0, 0⟩) := comps1 g4 (by simp; omega) rfl
  have FR := frame_any 20 20 3 3 _ 1 1 (fun _ => ⟨8, false, 1, 1, none, 0, 0⟩) 64 65537 2 4 4 15 0 0 1 false false false _ hc4 (by omega)
  have fe : frameE 20 20 3 3 1 (fun _ => ⟨8, false, 1, 1, none, 0, 0⟩) 64 65537 2 4 4 15 0 0 1 false = 1 := by decide
  rw [fe] at FR
  unfold imgV parV at FR
  have hb4 : Below w.heap.size w (W3.setCell ⟨w2.heap.size + 1, 1, none⟩ (.int .i64 65537)) := hbl3.setCell (p := ⟨w2.heap.size + 1, 1, none⟩) (by simp only; omega) _
  have FR := Lib.hid FR
  clear fe hc4 g4 gb3
  go_wp2_with fail
  refine FR.out.mono ?_
  rintro e w5 ⟨rfl, hb5⟩
  go_wp2_with fail
  go_ret
  exact ⟨rfl, below_trans hb4 hb5⟩

theorem rows_8_f (which : Int) (hk : which % 16 = 8) (w : World) : Calls Try.prog 3 #[.int .i64 which, .bool false] w fun e w' => e = .returned (.bool true) ∧ Below w.heap.size w w' := by
  have W0 := Lib.hid (fun (v : World) => by have := within12 which 16 (by omega) (by omega) v; rw [hk] at this; exact this)
  go_enter Try.func3, Try.ntmps3
  go_wp2_with fail
  refine (known12 _).mono ?_
  rintro e w1 ⟨rfl, hb1⟩
  go_wp2_with fail
  refine (one_any 20 20 3 3 _).mono ?_
  rintro e w2 ⟨b, rfl, gb, hbb, hb2⟩
  unfold parV
  have hbl := below_trans hb1 hb2
  have hlt : b < w2.heap.size := (Array.getElem?_eq_some_iff.1 gb).1
  have hws := hbl.size
  have hwb := Nat.le_trans hb1.size hbb
  clear hb1 hb2 hbb
  go_wp2_with fail
  generalize hw3 : World.alloc (World.alloc w2 _) _ = W3
  have gb3 : W3.heap[b]? = some (.cells #[.int .i64 8, .bool false, .int .i64 1, .int .i64 1, .slice none 0 0] 34 (0, 0)) := by rw [← hw3]; exact (Below.heap_alloc _ _ _ (by simp; omega)).trans ((Below.heap_alloc _ _ _ (by omega)).trans gb)
  have m0 : W3.cell? ⟨w2.heap.size, 0, none⟩ = some (.int .i64 20) := by rw [← hw3]; simp [go_sem]
  have m1 : W3.cell? ⟨w2.heap.size, 1, none⟩ = some (.int .i64 20) := by rw [← hw3]; simp [go_sem]
  have m2 : W3.cell? ⟨w2.heap.size, 2, none⟩ = some (.int .i64 3) := by rw [← hw3]; simp [go_sem]
  have m3 : W3.cell? ⟨w2.heap.size, 3, none⟩ = some (.int .i64 3) := by rw [← hw3]; simp [go_sem]
  have m4 : W3.cell? ⟨w2.heap.size, 4, none⟩ = some (.slice (some ⟨b, 0, none⟩) 1 1) := by rw [← hw3]; simp [go_sem]
  have p0 : W3.cell? ⟨w2.heap.size + 1, 0, none⟩ = some (.int .i64 64) := by rw [← hw3]; simp [go_sem]
  have p1 : W3.cell? ⟨w2.heap.size + 1, 1, none⟩ = some (.int .i64 64) := by rw [← hw3]; simp [go_sem]
  have p2 : W3.cell? ⟨w2.heap.size + 1, 2, none⟩ = some (.int .i64 2) := by rw [← hw3]; simp [go_sem]
  have p3 : W3.cell? ⟨w2.heap.size + 1, 3, none⟩ = some (.int .i64 4) := by rw [← hw3]; simp [go_sem]
  have p4 : W3.cell? ⟨w2.heap.size + 1, 4, none⟩ = some (.int .i64 4) := by rw [← hw3]; simp [go_sem]
  have p5 : W3.cell? ⟨w2.heap.size + 1, 5, none⟩ = some (.int .i64 15) := by rw [← hw3]; simp [go_sem]
  have p6 : W3.cell? ⟨w2.heap.size + 1, 6, none⟩ = some (.int .i64 0) := by rw [← hw3]; simp [go_sem]
  have p7 : W3.cell? ⟨w2.heap.size + 1, 7, none⟩ = some (.int .i64 0) := by rw [← hw3]; simp [go_sem]
  have p8 : W3.cell? ⟨w2.heap.size + 1, 8, none⟩ = some (.int .i64 1) := by rw [← hw3]; simp [go_sem]
  have p9 : W3.cell? ⟨w2.heap.size + 1, 9, none⟩ = some (.bool false) := by rw [← hw3]; simp [go_sem]
  have p10 : W3.cell? ⟨w2.heap.size + 1, 10, none⟩ = some (.bool false) := by rw [← hw3]; simp [go_sem]
  have p11 : W3.cell? ⟨w2.heap.size + 1, 11, none⟩ = some (.bool false) := by rw [← hw3]; simp [go_sem]
  have fm : ∀ j, W3.frozen? ⟨w2.heap.size, j, none⟩ = false := fun j => by rw [← hw3]; exact (World.frozen?_of_block (a := ⟨w2.heap.size, j, none⟩) (Below.heap_alloc _ _ _ (by simp))).trans (frozen_of_row _ _ j _ _ (heap_alloc_new w2 _))
  have fp : ∀ j, W3.frozen? ⟨w2.heap.size + 1, j, none⟩ = false := fun j => by rw [← hw3]; exact frozen_of_row _ _ j _ _ (heap_alloc_new2 w2 _ _)
  have c0 : W3.cell? ⟨b, 0, none⟩ = some (.int .i64 8) := (cell_of_row _ _ _ _ _ (0, 0) gb3).trans rfl
  have c1 : W3.cell? ⟨b, 1, none⟩ = some (.bool false) := (cell_of_row _ _ _ _ _ (0, 0) gb3).trans rfl
  have c2 : W3.cell? ⟨b, 2, none⟩ = some (.int .i64 1) := (cell_of_row _ _ _ _ _ (0, 0) gb3).trans rfl
  have c3 : W3.cell? ⟨b, 3, none⟩ = some (.int .i64 1) := (cell_of_row _ _ _ _ _ (0, 0) gb3).trans rfl
  have c4 : W3.cell? ⟨b, 4, none⟩ = some (.slice none 0 0) := (cell_of_row _ _ _ _ _ (0, 0) gb3).trans rfl
  have fb : ∀ j, W3.frozen? ⟨b, j, none⟩ = false := fun j => frozen_of_row _ _ j _ _ gb3
  have hs3 : W3.heap.size = w2.heap.size + 2 := by rw [← hw3]; simp
  have hbl3 : Below w.heap.size w W3 := by rw [← hw3]; exact below_alloc (below_alloc hbl _) _
  clear hw3 gb hbl
  refine (W0.out _).mono ?_
  rintro e w4 ⟨rfl, rfl⟩
  clear W0
  have g4 := (Below.heap_setCell W3 ⟨w2.heap.size + 1, 2, none⟩ (.int .i64 5) b (by simp only; omega)).trans gb3
  have hc4 : CompsAt (W3.setCell ⟨w2.heap.size + 1, 2, none⟩ (.int .i64 5)) (W3.setCell ⟨w2.heap.size + 1, 2, none⟩ (.int .i64 5)).heap.size (some ⟨b, 0, none⟩) 1 (fun _ => ⟨8, false, 1, 1, none, 0, 0⟩) := comps1 g4 (by simp; omega) rfl
  have FR := frame_any 20 20 3 3 _ 1 1 (fun _ => ⟨8, false, 1, 1, none, 0, 0⟩) 64 64 5 4 4 15 0 0 1 false false false _ hc4 (by omega)
  have fe : frameE 20 20 3 3 1 (fun _ => ⟨8, false, 1, 1, none, 0, 0⟩) 64 64 5 4 4 15 0 0 1 false = 0 := by decide
  rw [fe] at FR
  unfold imgV parV at FR
  have hb4 : Below w.heap.size w (W3.setCell ⟨w2.heap.size + 1, 2, none⟩ (.int .i64 5)) := hbl3.setCell (p := ⟨w2.heap.size + 1, 2, none⟩) (by simp only; omega) _
  have FR := Lib.hid FR
  clear fe hc4 g4 gb3
  go_wp2_with fail
  refine FR.out.mono ?_
  rintro e w5 ⟨rfl, hb5⟩
  go_wp2_with fail
  go_ret
  exact ⟨rfl, below_trans hb4 hb5⟩

theorem rows_8_t (which : Int) (hk : which % 16 = 8) (w : World) : Calls Try.prog 3 #[.int .i64 which, .bool true] w fun e w' => e = .returned (.bool true) ∧ Below w.heap.size w w' := by
  have W0 := Lib.hid (fun (v : World) => by have := within12 which 16 (by omega) (by omega) v; rw [hk] at this; exact this)
  go_enter Try.func3, Try.ntmps3
  go_wp2_with fail
  refine (known12 _).mono ?_
  rintro e w1 ⟨rfl, hb1⟩
  go_wp2_with fail
  refine (one_any 20 20 3 3 _).mono ?_
  rintro e w2 ⟨b, rfl, gb, hbb, hb2⟩
  unfold parV
  have hbl := below_trans hb1 hb2
  have hlt : b < w2.heap.size := (Array.getElem?_eq_some_iff.1 gb).1
  have hws := hbl.size
  have hwb := Nat.le_trans hb1.size hbb
  clear hb1 hb2 hbb
  go_wp2_with fail
  generalize hw3 : World.alloc (World.alloc w2 _) _ = W3
  have gb3 : W3.heap[b]? = some (.cells #[.int .i64 8, .bool false, .int .i64 1, .int .i64 1, .slice none 0 0] 34 (0, 0)) := by rw [← hw3]; exact (Below.heap_alloc _ _ _ (by simp; omega)).trans ((Below.heap_alloc _ _ _ (by omega)).trans gb)
  have m0 : W3.cell? ⟨w2.heap.size, 0, none⟩ = some (.int .i64 20) := by rw [← hw3]; simp [go_sem]
  have m1 : W3.cell? ⟨w2.heap.size, 1, none⟩ = some (.int .i64 20) := by rw [← hw3]; simp [go_sem]
  have m2 : W3.cell? ⟨w2.heap.size, 2, none⟩ = some (.int .i64 3) := by rw [← hw3]; simp [go_sem]
  have m3 : W3.cell? ⟨w2.heap.size, 3, none⟩ = some (.int .i64 3) := by rw [← hw3]; simp [go_sem]
  have m4 : W3.cell? ⟨w2.heap.size, 4, none⟩ = some (.slice (some ⟨b, 0, none⟩) 1 1) := by rw [← hw3]; simp [go_sem]
  have p0 : W3.cell? ⟨w2.heap.size + 1, 0, none⟩ = some (.int .i64 64) := by rw [← hw3]; simp [go_sem]
  have p1 : W3.cell? ⟨w2.heap.size + 1, 1, none⟩ = some (.int .i64 64) := by rw [← hw3]; simp [go_sem]
  have p2 : W3.cell? ⟨w2.heap.size + 1, 2, none⟩ = some (.int .i64 2) := by rw [← hw3]; simp [go_sem]
  have p3 : W3.cell? ⟨w2.heap.size + 1, 3, none⟩ = some (.int .i64 4) := by rw [← hw3]; simp [go_sem]
  have p4 : W3.cell? ⟨w2.heap.size + 1, 4, none⟩ = some (.int .i64 4) := by rw [← hw3]; simp [go_sem]
  have p5 : W3.cell? ⟨w2.heap.size + 1, 5, none⟩ = some (.int .i64 15) := by rw [← hw3]; simp [go_sem]
  have p6 : W3.cell? ⟨w2.heap.size + 1, 6, none⟩ = some (.int .i64 0) := by rw [← hw3]; simp [go_sem]
  have p7 : W3.cell? ⟨w2.heap.size + 1, 7, none⟩ = some (.int .i64 0) := by rw [← hw3]; simp [go_sem]
  have p8 : W3.cell? ⟨w2.heap.size + 1, 8, none⟩ = some (.int .i64 1) := by rw [← hw3]; simp [go_sem]
  have p9 : W3.cell? ⟨w2.heap.size + 1, 9, none⟩ = some (.bool false) := by rw [← hw3]; simp [go_sem]
  have p10 : W3.cell? ⟨w2.heap.size + 1, 10, none⟩ = some (.bool false) := by rw [← hw3]; simp [go_sem]
  have p11 : W3.cell? ⟨w2.heap.size + 1, 11, none⟩ = some (.bool false) := by rw [← hw3]; simp [go_sem]
  have fm : ∀ j, W3.frozen? ⟨w2.heap.size, j, none⟩ = false := fun j => by rw [← hw3]; exact (World.frozen?_of_block (a := ⟨w2.heap.size, j, none⟩) (Below.heap_alloc _ _ _ (by simp))).trans (frozen_of_row _ _ j _ _ (heap_alloc_new w2 _))
  have fp : ∀ j, W3.frozen? ⟨w2.heap.size + 1, j, none⟩ = false := fun j => by rw [← hw3]; exact frozen_of_row _ _ j _ _ (heap_alloc_new2 w2 _ _)
  have c0 : W3.cell? ⟨b, 0, none⟩ = some (.int .i64 8) := (cell_of_row _ _ _ _ _ (0, 0) gb3).trans rfl
  have c1 : W3.cell? ⟨b, 1, none⟩ = some (.bool false) := (cell_of_row _ _ _ _ _ (0, 0) gb3).trans rfl
  have c2 : W3.cell? ⟨b, 2, none⟩ = some (.int .i64 1) := (cell_of_row _ _ _ _ _ (0, 0) gb3).trans rfl
  have c3 : W3.cell? ⟨b, 3, none⟩ = some (.int .i64 1) := (cell_of_row _ _ _ _ _ (0, 0) gb3).trans rfl
  have c4 : W3.cell? ⟨b, 4, none⟩ = some (.slice none 0 0) := (cell_of_row _ _ _ _ _ (0, 0) gb3).trans rfl
  have fb : ∀ j, W3.frozen? ⟨b, j, none⟩ = false := fun j => frozen_of_row _ _ j _ _ gb3
  have hs3 : W3.heap.size = w2.heap.size + 2 := by rw [← hw3]; simp
  have hbl3 : Below w.heap.size w W3 := by rw [← hw3]; exact below_alloc (below_alloc hbl _) _
  clear hw3 gb hbl
  refine (W0.out _).mono ?_
  rintro e w4 ⟨rfl, rfl⟩
  clear W0
  have g4 := (Below.heap_setCell W3 ⟨w2.heap.size + 1, 2, none⟩ (.int .i64 6) b (by simp only; omega)).trans gb3
  have hc4 : CompsAt (W3.setCell ⟨w2.heap.size + 1, 2, none⟩ (.int .i64 6)) (W3.setCell ⟨w2.heap.size + 1, 2, none⟩ (.int .i64 6)).heap.size (some ⟨b, 0, none⟩) 1 (fun _ => ⟨8, false, 1, 1, none, 0, 0⟩) := comps1 g4 (by simp; omega) rfl
  have FR := frame_any 20 20 3 3 _ 1 1 (fun _ => ⟨8, false, 1, 1, none, 0, 0⟩) 64 64 6 4 4 15 0 0 1 false false false _ hc4 (by omega)
  have fe : frameE 20 20 3 3 1 (fun _ => ⟨8, false, 1, 1, none, 0, 0⟩) 64 64 6 4 4 15 0 0 1 false = 1 := by decide
  rw [fe] at FR
  unfold imgV parV at FR
  have hb4 : Below w.heap.size w (W3.setCell ⟨w2.heap.size + 1, 2, none⟩ (.int .i64 6)) := hbl3.setCell (p := ⟨w2.heap.size + 1, 2, none⟩) (by simp only; omega) _
  have FR := Lib.hid FR
  clear fe hc4 g4 gb3
  go_wp2_with fail
  refine FR.out.mono ?_
  rintro e w5 ⟨rfl, hb5⟩
  go_wp2_with fail
  go_ret
  exact ⟨rfl, below_trans hb4 hb5⟩

theorem rows_9_f (which : Int) (hk : which % 16 = 9) (w : World) : Calls Try.prog 3 #[.int .i64 which, .bool false] w fun e w' => e = .returned (.bool true) ∧ Below w.heap.size w w' := by
  have W0 := Lib.hid (fun (v : World) => by have := within12 which 16 (by omega) (by omega) v; rw [hk] at this; exact this)
  go_enter Try.func3, Try.ntmps3
  go_wp2_with fail
  refine (known12 _).mono ?_
  rintro e w1 ⟨rfl, hb1⟩
  go_wp2_with fail
  refine (one_any 20 20 3 3 _).mono ?_
  rintro e w2 ⟨b, rfl, gb, hbb, hb2⟩
  unfold parV
  have hbl := below_trans hb1 hb2
  have hlt : b < w2.heap.size := (Array.getElem?_eq_some_iff.1 gb).1
  have hws := hbl.size
  have hwb := Nat.le_trans hb1.size hbb
  clear hb1 hb2 hbb
  go_wp2_with fail
  generalize hw3 : World.alloc (World.alloc w2 _) _ = W3
  have gb3 : W3.heap[b]? = some (.cells #[.int .i64 8, .bool false, .int .i64 1, .int .i64 1, .slice none 0 0] 34 (0, 0)) := by rw [← hw3]; exact (Below.heap_alloc _ _ _ (by simp; omega)).trans ((Below.heap_alloc _ _ _ (by omega)).trans gb)
  have m0 : W3.cell? ⟨w2.heap.size, 0, none⟩ = some (.int .i64 20) := by rw [← hw3]; simp [go_sem]
  have m1 : W3.cell? ⟨w2.heap.size, 1, none⟩ = some (.int .i64 20) := by rw [← hw3]; simp [go_sem]
  have m2 : W3.cell? ⟨w2.heap.size, 2, none⟩ = some (.int .i64 3) := by rw [← hw3]; simp [go_sem]
  have m3 : W3.cell? ⟨w2.heap.size, 3, none⟩ = some (.int .i64 3) := by rw [← hw3]; simp [go_sem]
  have m4 : W3.cell? ⟨w2.heap.size, 4, none⟩ = some (.slice (some ⟨b, 0, none⟩) 1 1) := by rw [← hw3]; simp [go_sem]
  have p0 : W3.cell? ⟨w2.heap.size + 1, 0, none⟩ = some (.int .i64 64) := by rw [← hw3]; simp [go_sem]
  have p1 : W3.cell? ⟨w2.heap.size + 1, 1, none⟩ = some (.int .i64 64) := by rw [← hw3]; simp [go_sem]
  have p2 : W3.cell? ⟨w2.heap.size + 1, 2, none⟩ = some (.int .i64 2) := by rw [← hw3]; simp [go_sem]
  have p3 : W3.cell? ⟨w2.heap.size + 1, 3, none⟩ = some (.int .i64 4) := by rw [← hw3]; simp [go_sem]
  have p4 : W3.cell? ⟨w2.heap.size + 1, 4, none⟩ = some (.int .i64 4) := by rw [← hw3]; simp [go_sem]
  have p5 : W3.cell? ⟨w2.heap.size + 1, 5, none⟩ = some (.int .i64 15) := by rw [← hw3]; simp [go_sem]
  have p6 : W3.cell? ⟨w2.heap.size + 1, 6, none⟩ = some (.int .i64 0) := by rw [← hw3]; simp [go_sem]
  have p7 : W3.cell? ⟨w2.heap.size + 1, 7, none⟩ = some (.int .i64 0) := by rw [← hw3]; simp [go_sem]
  have p8 : W3.cell? ⟨w2.heap.size + 1, 8, none⟩ = some (.int .i64 1) := by rw [← hw3]; simp [go_sem]
  have p9 : W3.cell? ⟨w2.heap.size + 1, 9, none⟩ = some (.bool false) := by rw [← hw3]; simp [go_sem]
  have p10 : W3.cell? ⟨w2.heap.size + 1, 10, none⟩ = some (.bool false) := by rw [← hw3]; simp [go_sem]
  have p11 : W3.cell? ⟨w2.heap.size + 1, 11, none⟩ = some (.bool false) := by rw [← hw3]; simp [go_sem]
  have fm : ∀ j, W3.frozen? ⟨w2.heap.size, j, none⟩ = false := fun j => by rw [← hw3]; exact (World.frozen?_of_block (a := ⟨w2.heap.size, j, none⟩) (Below.heap_alloc _ _ _ (by simp))).trans (frozen_of_row _ _ j _ _ (heap_alloc_new w2 _))
  have fp : ∀ j, W3.frozen? ⟨w2.heap.size + 1, j, none⟩ = false := fun j => by rw [← hw3]; exact frozen_of_row _ _ j _ _ (heap_alloc_new2 w2 _ _)
  have c0 : W3.cell? ⟨b, 0, none⟩ = some (.int .i64 8) := (cell_of_row _ _ _ _ _ (0, 0) gb3).trans rfl
  have c1 : W3.cell? ⟨b, 1, none⟩ = some (.bool false) := (cell_of_row _ _ _ _ _ (0, 0) gb3).trans rfl
  have c2 : W3.cell? ⟨b, 2, none⟩ = some (.int .i64 1) := (cell_of_row _ _ _ _ _ (0, 0) gb3).trans rfl
  have c3 : W3.cell? ⟨b, 3, none⟩ = some (.int .i64 1) := (cell_of_row _ _ _ _ _ (0, 0) gb3).trans rfl
  have c4 : W3.cell? ⟨b, 4, none⟩ = some (.slice none 0 0) := (cell_of_row _ _ _ _ _ (0, 0) gb3).trans rfl
  have fb : ∀ j, W3.frozen? ⟨b, j, none⟩ = false := fun j => frozen_of_row _ _ j _ _ gb3
  have hs3 : W3.heap.size = w2.heap.size + 2 := by rw [← hw3]; simp
  have hbl3 : Below w.heap.size w W3 := by rw [← hw3]; exact below_alloc (below_alloc hbl _) _
  clear hw3 gb hbl
  refine (W0.out _).mono ?_
  rintro e w4 ⟨rfl, rfl⟩
  clear W0
  have g4 := (Below.heap_setCell W3 ⟨w2.heap.size + 1, 3, none⟩ (.int .i64 6) b (by simp only; omega)).trans gb3
  have hc4 : CompsAt (W3.setCell ⟨w2.heap.size + 1, 3, none⟩ (.int .i64 6)) (W3.setCell ⟨w2.heap.size + 1, 3, none⟩ (.int .i64 6)).heap.size (some ⟨b, 0, none⟩) 1 (fun _ => ⟨8, false, 1, 1, none, 0, 0⟩) := comps1 g4 (by simp; omega) rfl
  have FR := frame_any 20 20 3 3 _ 1 1 (fun _ => ⟨8, false, 1, 1, none, 0, 0⟩) 64 64 2 6 4 15 0 0 1 false false false _ hc4 (by omega)
  have fe : frameE 20 20 3 3 1 (fun _ => ⟨8, false, 1, 1, none, 0, 0⟩) 64 64 2 6 4 15 0 0 1 false = 0 := by decide
  rw [fe] at FR
  unfold imgV parV at FR
  have hb4 : Below w.heap.size w (W3.setCell ⟨w2.heap.size + 1, 3, none⟩ (.int .i64 6)) := hbl3.setCell (p := ⟨w2.heap.size + 1, 3, none⟩) (by simp only; omega) _
  have FR := Lib.hid FR
  clear fe hc4 g4 gb3
  go_wp2_with fail
  refine FR.out.mono ?_
  rintro e w5 ⟨rfl, hb5⟩
  go_wp2_with fail
  go_ret
  exact ⟨rfl, below_trans hb4 hb5⟩

theorem rows_9_t (which : Int) (hk : which % 16 = 9) (w : World) : Calls Try.prog 3 #[.int .i64 which, .bool true] w fun e w' => e = .returned (.bool true) ∧ Below w.heap.size w w' := by
  have W0 := Lib.hid (fun (v : World) => by have := within12 which 16 (by omega) (by omega) v; rw [hk] at this; exact this)
  go_enter Try.func3, Try.ntmps3
  go_wp2_with fail
  refine (known12 _).mono ?_
  rintro e w1 ⟨rfl, hb1⟩
  go_wp2_with fail
  refine (one_any 20 20 3 3 _).mono ?_
  rintro e w2 ⟨b, rfl, gb, hbb, hb2⟩
  unfold parV
  have hbl := below_trans hb1 hb2
  have hlt : b < w2.heap.size := (Array.getElem?_eq_some_iff.1 gb).1
  have hws := hbl.size
  have hwb := Nat.le_trans hb1.size hbb
  clear hb1 hb2 hbb
  go_wp2_with fail
  generalize hw3 : World.alloc (World.alloc w2 _) _ = W3
  have gb3 : W3.heap[b]? = some (.cells #[.int .i64 8, .bool false, .int .i64 1, .int .i64 1, .slice none 0 0] 34 (0, 0)) := by rw [← hw3]; exact (Below.heap_alloc _ _ _ (by simp; omega)).trans ((Below.heap_alloc _ _ _ (by omega)).trans gb)
  have m0 : W3.cell? ⟨w2.heap.size, 0, none⟩ = some (.int .i64 20) := by rw [← hw3]; simp [go_sem]
  have m1 : W3.cell? ⟨w2.heap.size, 1, none⟩ = some (.int .i64 20) := by rw [← hw3]; simp [go_sem]
  have m2 : W3.cell? ⟨w2.heap.size, 2, none⟩ = some (.int .i64 3) := by rw [← hw3]; simp [go_sem]
  have m3 : W3.cell? ⟨w2.heap.size, 3, none⟩ = some (.int .i64 3) := by rw [← hw3]; simp [go_sem]
  have m4 : W3.cell? ⟨w2.heap.size, 4, none⟩ = some (.slice (some ⟨b, 0, none⟩) 1 1) := by rw [← hw3]; simp [go_sem]
  have p0 : W3.cell? ⟨w2.heap.size + 1, 0, none⟩ = some (.int .i64 64) := by rw [← hw3]; simp [go_sem]
  have p1 : W3.cell? ⟨w2.heap.size + 1, 1, none⟩ = some (.int .i64 64) := by rw [← hw3]; simp [go_sem]
  have p2 : W3.cell? ⟨w2.heap.size + 1, 2, none⟩ = some (.int .i64 2) := by rw [← hw3]; simp [go_sem]
  have p3 : W3.cell? ⟨w2.heap.size + 1, 3, none⟩ = some (.int .i64 4) := by rw [← hw3]; simp [go_sem]
  have p4 : W3.cell? ⟨w2.heap.size + 1, 4, none⟩ = some (.int .i64 4) := by rw [← hw3]; simp [go_sem]
  have p5 : W3.cell? ⟨w2.heap.size + 1, 5, none⟩ = some (.int .i64 15) := by rw [← hw3]; simp [go_sem]
  have p6 : W3.cell? ⟨w2.heap.size + 1, 6, none⟩ = some (.int .i64 0) := by rw [← hw3]; simp [go_sem]
  have p7 : W3.cell? ⟨w2.heap.size + 1, 7, none⟩ = some (.int .i64 0) := by rw [← hw3]; simp [go_sem]
  have p8 : W3.cell? ⟨w2.heap.size + 1, 8, none⟩ = some (.int .i64 1) := by rw [← hw3]; simp [go_sem]
  have p9 : W3.cell? ⟨w2.heap.size + 1, 9, none⟩ = some (.bool false) := by rw [← hw3]; simp [go_sem]
  have p10 : W3.cell? ⟨w2.heap.size + 1, 10, none⟩ = some (.bool false) := by rw [← hw3]; simp [go_sem]
  have p11 : W3.cell? ⟨w2.heap.size + 1, 11, none⟩ = some (.bool false) := by rw [← hw3]; simp [go_sem]
  have fm : ∀ j, W3.frozen? ⟨w2.heap.size, j, none⟩ = false := fun j => by rw [← hw3]; exact (World.frozen?_of_block (a := ⟨w2.heap.size, j, none⟩) (Below.heap_alloc _ _ _ (by simp))).trans (frozen_of_row _ _ j _ _ (heap_alloc_new w2 _))
  have fp : ∀ j, W3.frozen? ⟨w2.heap.size + 1, j, none⟩ = false := fun j => by rw [← hw3]; exact frozen_of_row _ _ j _ _ (heap_alloc_new2 w2 _ _)
  have c0 : W3.cell? ⟨b, 0, none⟩ = some (.int .i64 8) := (cell_of_row _ _ _ _ _ (0, 0) gb3).trans rfl
  have c1 : W3.cell? ⟨b, 1, none⟩ = some (.bool false) := (cell_of_row _ _ _ _ _ (0, 0) gb3).trans rfl
  have c2 : W3.cell? ⟨b, 2, none⟩ = some (.int .i64 1) := (cell_of_row _ _ _ _ _ (0, 0) gb3).trans rfl
  have c3 : W3.cell? ⟨b, 3, none⟩ = some (.int .i64 1) := (cell_of_row _ _ _ _ _ (0, 0) gb3).trans rfl
  have c4 : W3.cell? ⟨b, 4, none⟩ = some (.slice none 0 0) := (cell_of_row _ _ _ _ _ (0, 0) gb3).trans rfl
  have fb : ∀ j, W3.frozen? ⟨b, j, none⟩ = false := fun j => frozen_of_row _ _ j _ _ gb3
  have hs3 : W3.heap.size = w2.heap.size + 2 := by rw [← hw3]; simp
  have hbl3 : Below w.heap.size w W3 := by rw [← hw3]; exact below_alloc (below_alloc hbl _) _
  clear hw3 gb hbl
  refine (W0.out _).mono ?_
  rintro e w4 ⟨rfl, rfl⟩
  clear W0
  have g4 := (Below.heap_setCell W3 ⟨w2.heap.size + 1, 3, none⟩ (.int .i64 7) b (by simp only; omega)).trans gb3
  have hc4 : CompsAt (W3.setCell ⟨w2.heap.size + 1, 3, none⟩ (.int .i64 7)) (W3.setCell ⟨w2.heap.size + 1, 3, none⟩ (.int .i64 7)).heap.size (some ⟨b, 0, none⟩) 1 (fun _ => ⟨8, false, 1, 1, none, 0, 0⟩) := comps1 g4 (by simp; omega) rfl
  have FR := frame_any 20 20 3 3 _ 1 1 (fun _ => ⟨8, false, 1, 1, none, 0, 0⟩) 64 64 2 7 4 15 0 0 1 false false false _ hc4 (by omega)
  have fe : frameE 20 20 3 3 1 (fun _ => ⟨8, false, 1, 1, none, 0, 0⟩) 64 64 2 7 4 15 0 0 1 false = 1 := by decide
  rw [fe] at FR
  unfold imgV parV at FR
  have hb4 : Below w.heap.size w (W3.setCell ⟨w2.heap.size + 1, 3, none⟩ (.int .i64 7)) := hbl3.setCell (p := ⟨w2.heap.size + 1, 3, none⟩) (by simp only; omega) _
  have FR := Lib.hid FR
  clear fe hc4 g4 gb3
  go_wp2_with fail
  refine FR.out.mono ?_
  rintro e w5 ⟨rfl, hb5⟩
  go_wp2_with fail
  go_ret
  exact ⟨rfl, below_trans hb4 hb5⟩

theorem rows_10_f (which : Int) (hk : which % 16 = 10) (w : World) : Calls Try.prog 3 #[.int .i64 which, .bool false] w fun e w' => e = .returned (.bool true) ∧ Below w.heap.size w w' := by
  have W0 := Lib.hid (fun (v : World) => by have := within12 which 16 (by omega) (by omega) v; rw [hk] at this; exact this)
  go_enter Try.func3, Try.ntmps3
  go_wp2_with fail
  refine (known12 _).mono ?_
  rintro e w1 ⟨rfl, hb1⟩
  go_wp2_with fail
  refine (one_any 20 20 3 3 _).mono ?_
  rintro e w2 ⟨b, rfl, gb, hbb, hb2⟩
  unfold parV
  have hbl := below_trans hb1 hb2
  have hlt : b < w2.heap.size := (Array.getElem?_eq_some_iff.1 gb).1
  have hws := hbl.size
  have hwb := Nat.le_trans hb1.size hbb
  clear hb1 hb2 hbb
  go_wp2_with fail
  generalize hw3 : World.alloc (World.alloc w2 _) _ = W3
  have gb3 : W3.heap[b]? = some (.cells #[.int .i64 8, .bool false, .int .i64 1, .int .i64 1, .slice none 0 0] 34 (0, 0)) := by rw [← hw3]; exact (Below.heap_alloc _ _ _ (by simp; omega)).trans ((Below.heap_alloc _ _ _ (by omega)).trans gb)
  have m0 : W3.cell? ⟨w2.heap.size, 0, none⟩ = some (.int .i64 20) := by rw [← hw3]; simp [go_sem]
  have m1 : W3.cell? ⟨w2.heap.size, 1, none⟩ = some (.int .i64 20) := by rw [← hw3]; simp [go_sem]
  have m2 : W3.cell? ⟨w2.heap.size, 2, none⟩ = some (.int .i64 3) := by rw [← hw3]; simp [go_sem]
  have m3 : W3.cell? ⟨w2.heap.size, 3, none⟩ = some (.int .i64 3) := by rw [← hw3]; simp [go_sem]
  have m4 : W3.cell? ⟨w2.heap.size, 4, none⟩ = some (.slice (some ⟨b, 0, none⟩) 1 1) := by rw [← hw3]; simp [go_sem]
  have p0 : W3.cell? ⟨w2.heap.size + 1, 0, none⟩ = some (.int .i64 64) := by rw [← hw3]; simp [go_sem]
  have p1 : W3.cell? ⟨w2.heap.size + 1, 1, none⟩ = some (.int .i64 64) := by rw [← hw3]; simp [go_sem]
  have p2 : W3.cell? ⟨w2.heap.size + 1, 2, none⟩ = some (.int .i64 2) := by rw [← hw3]; simp [go_sem]
  have p3 : W3.cell? ⟨w2.heap.size + 1, 3, none⟩ = some (.int .i64 4) := by rw [← hw3]; simp [go_sem]
  have p4 : W3.cell? ⟨w2.heap.size + 1, 4, none⟩ = some (.int .i64 4) := by rw [← hw3]; simp [go_sem]
  have p5 : W3.cell? ⟨w2.heap.size + 1, 5, none⟩ = some (.int .i64 15) := by rw [← hw3]; simp [go_sem]
  have p6 : W3.cell? ⟨w2.heap.size + 1, 6, none⟩ = some (.int .i64 0) := by rw [← hw3]; simp [go_sem]
  have p7 : W3.cell? ⟨w2.heap.size + 1, 7, none⟩ = some (.int .i64 0) := by rw [← hw3]; simp [go_sem]
  have p8 : W3.cell? ⟨w2.heap.size + 1, 8, none⟩ = some (.int .i64 1) := by rw [← hw3]; simp [go_sem]
  have p9 : W3.cell? ⟨w2.heap.size + 1, 9, none⟩ = some (.bool false) := by rw [← hw3]; simp [go_sem]
  have p10 : W3.cell? ⟨w2.heap.size + 1, 10, none⟩ = some (.bool false) := by rw [← hw3]; simp [go_sem]
  have p11 : W3.cell? ⟨w2.heap.size + 1, 11, none⟩ = some (.bool false) := by rw [← hw3]; simp [go_sem]
  have fm : ∀ j, W3.frozen? ⟨w2.heap.size, j, none⟩ = false := fun j => by rw [← hw3]; exact (World.frozen?_of_block (a := ⟨w2.heap.size, j, none⟩) (Below.heap_alloc _ _ _ (by simp))).trans (frozen_of_row _ _ j _ _ (heap_alloc_new w2 _))
  have fp : ∀ j, W3.frozen? ⟨w2.heap.size + 1, j, none⟩ = false := fun j => by rw [← hw3]; exact frozen_of_row _ _ j _ _ (heap_alloc_new2 w2 _ _)
  have c0 : W3.cell? ⟨b, 0, none⟩ = some (.int .i64 8) := (cell_of_row _ _ _ _ _ (0, 0) gb3).trans rfl
  have c1 : W3.cell? ⟨b, 1, none⟩ = some (.bool false) := (cell_of_row _ _ _ _ _ (0, 0) gb3).trans rfl
  have c2 : W3.cell? ⟨b, 2, none⟩ = some (.int .i64 1) := (cell_of_row _ _ _ _ _ (0, 0) gb3).trans rfl
  have c3 : W3.cell? ⟨b, 3, none⟩ = some (.int .i64 1) := (cell_of_row _ _ _ _ _ (0, 0) gb3).trans rfl
  have c4 : W3.cell? ⟨b, 4, none⟩ = some (.slice none 0 0) := (cell_of_row _ _ _ _ _ (0, 0) gb3).trans rfl
  have fb : ∀ j, W3.frozen? ⟨b, j, none⟩ = false := fun j => frozen_of_row _ _ j _ _ gb3
  have hs3 : W3.heap.size = w2.heap.size + 2 := by rw [← hw3]; simp
  have hbl3 : Below w.heap.size w W3 := by rw [← hw3]; exact below_alloc (below_alloc hbl _) _
  clear hw3 gb hbl
  refine (W0.out _).mono ?_
  rintro e w4 ⟨rfl, rfl⟩
  clear W0
  have g4 := (Below.heap_setCell W3 ⟨w2.heap.size + 1, 4, none⟩ (.int .i64 2) b (by simp only; omega)).trans gb3
  have hc4 : CompsAt (W3.setCell ⟨w2.heap.size + 1, 4, none⟩ (.int .i64 2)) (W3.setCell ⟨w2.heap.size + 1, 4, none⟩ (.int .i64 2)).heap.size (some ⟨b, 0, none⟩) 1 (fun _ => ⟨8, false, 1, 1, none, 0, 0⟩) := comps1 g4 (by simp; omega) rfl
  have FR := frame_any 20 20 3 3 _ 1 1 (fun _ => ⟨8, false, 1, 1, none, 0, 0⟩) 64 64 2 4 2 15 0 0 1 false false false _ hc4 (by omega)
  have fe : frameE 20 20 3 3 1 (fun _ => ⟨8, false, 1, 1, none, 0, 0⟩) 64 64 2 4 2 15 0 0 1 false = 0 := by decide
  rw [fe] at FR
  unfold imgV parV at FR
  have hb4 : Below w.heap.size w (W3.setCell ⟨w2.heap.size + 1, 4, none⟩ (.int .i64 2)) := hbl3.setCell (p := ⟨w2.heap.size + 1, 4, none⟩) (by simp only; omega) _
  have FR := Lib.hid FR
  clear fe hc4 g4 gb3
  go_wp2_with fail
  refine FR.out.mono ?_
  rintro e w5 ⟨rfl, hb5⟩
  go_wp2_with fail
  go_ret
  exact ⟨rfl, below_trans hb4 hb5⟩

theorem rows_10_t (which : Int) (hk : which % 16 = 10) (w : World) : Calls Try.prog 3 #[.int .i64 which, .bool true] w fun e w' => e = .returned (.bool true) ∧ Below w.heap.size w w' := by
  have W0 := Lib.hid (fun (v : World) => by have := within12 which 16 (by omega) (by omega) v; rw [hk] at this; exact this)
  go_enter Try.func3, Try.ntmps3
  go_wp2_with fail
  refine (known12 _).mono ?_
  rintro e w1 ⟨rfl, hb1⟩
  go_wp2_with fail
  refine (one_any 20 20 3 3 _).mono ?_
  rintro e w2 ⟨b, rfl, gb, hbb, hb2⟩
  unfold parV
  have hbl := below_trans hb1 hb2
  have hlt : b < w2.heap.size := (Array.getElem?_eq_some_iff.1 gb).1
  have hws := hbl.size
  have hwb := Nat.le_trans hb1.size hbb
  clear hb1 hb2 hbb
  go_wp2_with fail
  generalize hw3 : World.alloc (World.alloc w2 _) _ = W3
  have gb3 : W3.heap[b]? = some (.cells #[.int .i64 8, .bool false, .int .i64 1, .int .i64 1, .slice none 0 0] 34 (0, 0)) := by rw [← hw3]; exact (Below.heap_alloc _ _ _ (by simp; omega)).trans ((Below.heap_alloc _ _ _ (by omega)).trans gb)
  have m0 : W3.cell? ⟨w2.heap.size, 0, none⟩ = some (.int .i64 20) := by rw [← hw3]; simp [go_sem]
  have m1 : W3.cell? ⟨w2.heap.size, 1, none⟩ = some (.int .i64 20) := by rw [← hw3]; simp [go_sem]
  have m2 : W3.cell? ⟨w2.heap.size, 2, none⟩ = some (.int .i64 3) := by rw [← hw3]; simp [go_sem]
  have m3 : W3.cell? ⟨w2.heap.size, 3, none⟩ = some (.int .i64 3) := by rw [← hw3]; simp [go_sem]
  have m4 : W3.cell? ⟨w2.heap.size, 4, none⟩ = some (.slice (some ⟨b, 0, none⟩) 1 1) := by rw [← hw3]; simp [go_sem]
  have p0 : W3.cell? ⟨w2.heap.size + 1, 0, none⟩ = some (.int .i64 64) := by rw [← hw3]; simp [go_sem]
  have p1 : W3.cell? ⟨w2.heap.size + 1, 1, none⟩ = some (.int .i64 64) := by rw [← hw3]; simp [go_sem]
  have p2 : W3.cell? ⟨w2.heap.size + 1, 2, none⟩ = some (.int .i64 2) := by rw [← hw3]; simp [go_sem]
  have p3 : W3.cell? ⟨w2.heap.size + 1, 3, none⟩ = some (.int .i64 4) := by rw [← hw3]; simp [go_sem]
  have p4 : W3.cell? ⟨w2.heap.size + 1, 4, none⟩ = some (.int .i64 4) := by rw [← hw3]; simp [go_sem]
  have p5 : W3.cell? ⟨w2.heap.size + 1, 5, none⟩ = some (.int .i64 15) := by rw [← hw3]; simp [go_sem]
  have p6 : W3.cell? ⟨w2.heap.size + 1, 6, none⟩ = some (.int .i64 0) := by rw [← hw3]; simp [go_sem]
  have p7 : W3.cell? ⟨w2.heap.size + 1, 7, none⟩ = some (.int .i64 0) := by rw [← hw3]; simp [go_sem]
  have p8 : W3.cell? ⟨w2.heap.size + 1, 8, none⟩ = some (.int .i64 1) := by rw [← hw3]; simp [go_sem]
  have p9 : W3.cell? ⟨w2.heap.size + 1, 9, none⟩ = some (.bool false) := by rw [← hw3]; simp [go_sem]
  have p10 : W3.cell? ⟨w2.heap.size + 1, 10, none⟩ = some (.bool false) := by rw [← hw3]; simp [go_sem]
  have p11 : W3.cell? ⟨w2.heap.size + 1, 11, none⟩ = some (.bool false) := by rw [← hw3]; simp [go_sem]
  have fm : ∀ j, W3.frozen? ⟨w2.heap.size, j, none⟩ = false := fun j => by rw [← hw3]; exact (World.frozen?_of_block (a := ⟨w2.heap.size, j, none⟩) (Below.heap_alloc _ _ _ (by simp))).trans (frozen_of_row _ _ j _ _ (heap_alloc_new w2 _))
  have fp : ∀ j, W3.frozen? ⟨w2.heap.size + 1, j, none⟩ = false := fun j => by rw [← hw3]; exact frozen_of_row _ _ j _ _ (heap_alloc_new2 w2 _ _)
  have c0 : W3.cell? ⟨b, 0, none⟩ = some (.int .i64 8) := (cell_of_row _ _ _ _ _ (0, 0) gb3).trans rfl
  have c1 : W3.cell? ⟨b, 1, none⟩ = some (.bool false) := (cell_of_row _ _ _ _ _ (0, 0) gb3).trans rfl
  have c2 : W3.cell? ⟨b, 2, none⟩ = some (.int .i64 1) := (cell_of_row _ _ _ _ _ (0, 0) gb3).trans rfl
  have c3 : W3.cell? ⟨b, 3, none⟩ = some (.int .i64 1) := (cell_of_row _ _ _ _ _ (0, 0) gb3).trans rfl
  have c4 : W3.cell? ⟨b, 4, none⟩ = some (.slice none 0 0) := (cell_of_row _ _ _ _ _ (0, 0) gb3).trans rfl
  have fb : ∀ j, W3.frozen? ⟨b, j, none⟩ = false := fun j => frozen_of_row _ _ j _ _ gb3
  have hs3 : W3.heap.size = w2.heap.size + 2 := by rw [← hw3]; simp
  have hbl3 : Below w.heap.size w W3 := by rw [← hw3]; exact below_alloc (below_alloc hbl _) _
  clear hw3 gb hbl
  refine (W0.out _).mono ?_
  rintro e w4 ⟨rfl, rfl⟩
  clear W0
  have g4 := (Below.heap_setCell W3 ⟨w2.heap.size + 1, 4, none⟩ (.int .i64 1) b (by simp only; omega)).trans gb3
  have hc4 : CompsAt (W3.setCell ⟨w2.heap.size + 1, 4, none⟩ (.int .i64 1)) (W3.setCell ⟨w2.heap.size + 1, 4, none⟩ (.int .i64 1)).heap.size (some ⟨b, 0, none⟩) 1 (fun _ => ⟨8, false, 1, 1, none, 0, 0⟩) := comps1 g4 (by simp; omega) rfl
  have FR := frame_any 20 20 3 3 _ 1 1 (fun _ => ⟨8, false, 1, 1, none, 0, 0⟩) 64 64 2 4 1 15 0 0 1 false false false _ hc4 (by omega)
  have fe : frameE 20 20 3 3 1 (fun _ => ⟨8, false, 1, 1, none, 0, 0⟩) 64 64 2 4 1 15 0 0 1 false = 1 := by decide
  rw [fe] at FR
  unfold imgV parV at FR
  have hb4 : Below w.heap.size w (W3.setCell ⟨w2.heap.size + 1, 4, none⟩ (.int .i64 1)) := hbl3.setCell (p := ⟨w2.heap.size + 1, 4, none⟩) (by simp only; omega) _
  have FR := Lib.hid FR
  clear fe hc4 g4 gb3
  go_wp2_with fail
  refine FR.out.mono ?_
  rintro e w5 ⟨rfl, hb5⟩
  go_wp2_with fail
  go_ret
  exact ⟨rfl, below_trans hb4 hb5⟩

theorem rows_11_f (which : Int) (hk : which % 16 = 11) (w : World) : Calls Try.prog 3 #[.int .i64 which, .bool false] w fun e w' => e = .returned (.bool true) ∧ Below w.heap.size w w' := by
  have W0 := Lib.hid (fun (v : World) => by have := within12 which 16 (by omega) (by omega) v; rw [hk] at this; exact this)
  go_enter Try.func3, Try.ntmps3
  go_wp2_with fail
  refine (known12 _).mono ?_
  rintro e w1 ⟨rfl, hb1⟩
  go_wp2_with fail
  refine (one_any 20 20 3 3 _).mono ?_
  rintro e w2 ⟨b, rfl, gb, hbb, hb2⟩
  unfold parV
  have hbl := below_trans hb1 hb2
  have hlt : b < w2.heap.size := (Array.getElem?_eq_some_iff.1 gb).1
  have hws := hbl.size
  have hwb := Nat.le_trans hb1.size hbb
  clear hb1 hb2 hbb
  go_wp2_with fail
  generalize hw3 : World.alloc (World.alloc w2 _) _ = W3
  have gb3 : W3.heap[b]? = some (.cells #[.int .i64 8, .bool false, .int .i64 1, .int .i64 1, .slice none 0 0] 34 (0, 0)) := by rw [← hw3]; exact (Below.heap_alloc _ _ _ (by simp; omega)).trans ((Below.heap_alloc _ _ _ (by omega)).trans gb)
  have m0 : W3.cell? ⟨w2.heap.size, 0, none⟩ = some (.int .i64 20) := by rw [← hw3]; simp [go_sem]
  have m1 : W3.cell? ⟨w2.heap.size, 1, none⟩ = some (.int .i64 20) := by rw [← hw3]; simp [go_sem]
  have m2 : W3.cell? ⟨w2.heap.size, 2, none⟩ = some (.int .i64 3) := by rw [← hw3]; simp [go_sem]
  have m3 : W3.cell? ⟨w2.heap.size, 3, none⟩ = some (.int .i64 3) := by rw [← hw3]; simp [go_sem]
  have m4 : W3.cell? ⟨w2.heap.size, 4, none⟩ = some (.slice (some ⟨b, 0, none⟩) 1 1) := by rw [← hw3]; simp [go_sem]
  have p0 : W3.cell? ⟨w2.heap.size + 1, 0, none⟩ = some (.int .i64 64) := by rw [← hw3]; simp [go_sem]
  have p1 : W3.cell? ⟨w2.heap.size + 1, 1, none⟩ = some (.int .i64 64) := by rw [← hw3]; simp [go_sem]
  have p2 : W3.cell? ⟨w2.heap.size + 1, 2, none⟩ = some (.int .i64 2) := by rw [← hw3]; simp [go_sem]
  have p3 : W3.cell? ⟨w2.heap.size + 1, 3, none⟩ = some (.int .i64 4) := by rw [← hw3]; simp [go_sem]
  have p4 : W3.cell? ⟨w2.heap.size + 1, 4, none⟩ = some (.int .i64 4) := by rw [← hw3]; simp [go_sem]
  have p5 : W3.cell? ⟨w2.heap.size + 1, 5, none⟩ = some (.int .i64 15) := by rw [← hw3]; simp [go_sem]
  have p6 : W3.cell? ⟨w2.heap.size + 1, 6, none⟩ = some (.int .i64 0) := by rw [← hw3]; simp [go_sem]
  have p7 : W3.cell? ⟨w2.heap.size + 1, 7, none⟩ = some (.int .i64 0) := by rw [← hw3]; simp [go_sem]
  have p8 : W3.cell? ⟨w2.heap.size + 1, 8, none⟩ = some (.int .i64 1) := by rw [← hw3]; simp [go_sem]
  have p9 : W3.cell? ⟨w2.heap.size + 1, 9, none⟩ = some (.bool false) := by rw [← hw3]; simp [go_sem]
  have p10 : W3.cell? ⟨w2.heap.size + 1, 10, none⟩ = some (.bool false) := by rw [← hw3]; simp [go_sem]
  have p11 : W3.cell? ⟨w2.heap.size + 1, 11, none⟩ = some (.bool false) := by rw [← hw3]; simp [go_sem]
  have fm : ∀ j, W3.frozen? ⟨w2.heap.size, j, none⟩ = false := fun j => by rw [← hw3]; exact (World.frozen?_of_block (a := ⟨w2.heap.size, j, none⟩) (Below.heap_alloc _ _ _ (by simp))).trans (frozen_of_row _ _ j _ _ (heap_alloc_new w2 _))
  have fp : ∀ j, W3.frozen? ⟨w2.heap.size + 1, j, none⟩ = false := fun j => by rw [← hw3]; exact frozen_of_row _ _ j _ _ (heap_alloc_new2 w2 _ _)
  have c0 : W3.cell? ⟨b, 0, none⟩ = some (.int .i64 8) := (cell_of_row _ _ _ _ _ (0, 0) gb3).trans rfl
  have c1 : W3.cell? ⟨b, 1, none⟩ = some (.bool false) := (cell_of_row _ _ _ _ _ (0, 0) gb3).trans rfl
  have c2 : W3.cell? ⟨b, 2, none⟩ = some (.int .i64 1) := (cell_of_row _ _ _ _ _ (0, 0) gb3).trans rfl
  have c3 : W3.cell? ⟨b, 3, none⟩ = some (.int .i64 1) := (cell_of_row _ _ _ _ _ (0, 0) gb3).trans rfl
  have c4 : W3.cell? ⟨b, 4, none⟩ = some (.slice none 0 0) := (cell_of_row _ _ _ _ _ (0, 0) gb3).trans rfl
  have fb : ∀ j, W3.frozen? ⟨b, j, none⟩ = false := fun j => frozen_of_row _ _ j _ _ gb3
  have hs3 : W3.heap.size = w2.heap.size + 2 := by rw [← hw3]; simp
  have hbl3 : Below w.heap.size w W3 := by rw [← hw3]; exact below_alloc (below_alloc hbl _) _
  clear hw3 gb hbl
  refine (W0.out _).mono ?_
  rintro e w4 ⟨rfl, rfl⟩
  clear W0
  have g4 := (Below.heap_setCell W3 ⟨w2.heap.size + 1, 5, none⟩ (.int .i64 15) b (by simp only; omega)).trans gb3
  have hc4 : CompsAt (W3.setCell ⟨w2.heap.size + 1, 5, none⟩ (.int .i64 15)) (W3.setCell ⟨w2.heap.size + 1, 5, none⟩ (.int .i64 15)).heap.size (some ⟨b, 0, none⟩) 1 (fun _ => ⟨8, false, 1, 1, none, 0, 0⟩) := comps1 g4 (by simp; omega) rfl
  have FR := frame_any 20 20 3 3 _ 1 1 (fun _ => ⟨8, false, 1, 1, none, 0, 0⟩) 64 64 2 4 4 15 0 0 1 false false false _ hc4 (by omega)
  have fe : frameE 20 20 3 3 1 (fun _ => ⟨8, false, 1, 1, none, 0, 0⟩) 64 64 2 4 4 15 0 0 1 false = 0 := by decide
  rw [fe] at FR
  unfold imgV parV at FR
  have hb4 : Below w.heap.size w (W3.setCell ⟨w2.heap.size + 1, 5, none⟩ (.int .i64 15)) := hbl3.setCell (p := ⟨w2.heap.size + 1, 5, none⟩) (by simp only; omega) _
  have FR := Lib.hid FR
  clear fe hc4 g4 gb3
  go_wp2_with fail
  refine FR.out.mono ?_
  rintro e w5 ⟨rfl, hb5⟩
  go_wp2_with fail
  go_ret
  exact ⟨rfl, below_trans hb4 hb5⟩

theorem rows_11_t (which : Int) (hk : which % 16 = 11) (w : World) : Calls Try.prog 3 #[.int .i64 which, .bool true] w fun e w' => e = .returned (.bool true) ∧ Below w.heap.size w w' := by
  have W0 := Lib.hid (fun (v : World) => by have := within12 which 16 (by omega) (by omega) v; rw [hk] at this; exact this)
  go_enter Try.func3, Try.ntmps3
  go_wp2_with fail
  refine (known12 _).mono ?_
  rintro e w1 ⟨rfl, hb1⟩
  go_wp2_with fail
  refine (one_any 20 20 3 3 _).mono ?_
  rintro e w2 ⟨b, rfl, gb, hbb, hb2⟩
  unfold parV
  have hbl := below_trans hb1 hb2
  have hlt : b < w2.heap.size := (Array.getElem?_eq_some_iff.1 gb).1
  have hws := hbl.size
  have hwb := Nat.le_trans hb1.size hbb
  clear hb1 hb2 hbb
  go_wp2_with fail
  generalize hw3 : World.alloc (World.alloc w2 _) _ = W3
  have gb3 : W3.heap[b]? = some (.cells #[.int .i64 8, .bool false, .int .i64 1, .int .i64 1, .slice none 0 0] 34 (0, 0)) := by rw [← hw3]; exact (Below.heap_alloc _ _ _ (by simp; omega)).trans ((Below.heap_alloc _ _ _ (by omega)).trans gb)
  have m0 : W3.cell? ⟨w2.heap.size, 0, none⟩ = some (.int .i64 20) := by rw [← hw3]; simp [go_sem]
  have m1 : W3.cell? ⟨w2.heap.size, 1, none⟩ = some (.int .i64 20) := by rw [← hw3]; simp [go_sem]
  have m2 : W3.cell? ⟨w2.heap.size, 2, none⟩ = some (.int .i64 3) := by rw [← hw3]; simp [go_sem]
  have m3 : W3.cell? ⟨w2.heap.size, 3, none⟩ = some (.int .i64 3) := by rw [← hw3]; simp [go_sem]
  have m4 : W3.cell? ⟨w2.heap.size, 4, none⟩ = some (.slice (some ⟨b, 0, none⟩) 1 1) := by rw [← hw3]; simp [go_sem]
  have p0 : W3.cell? ⟨w2.heap.size + 1, 0, none⟩ = some (.int .i64 64) := by rw [← hw3]; simp [go_sem]
  have p1 : W3.cell? ⟨w2.heap.size + 1, 1, none⟩ = some (.int .i64 64) := by rw [← hw3]; simp [go_sem]
  have p2 : W3.cell? ⟨w2.heap.size + 1, 2, none⟩ = some (.int .i64 2) := by rw [← hw3]; simp [go_sem]
  have p3 : W3.cell? ⟨w2.heap.size + 1, 3, none⟩ = some (.int .i64 4) := by rw [← hw3]; simp [go_sem]
  have p4 : W3.cell? ⟨w2.heap.size + 1, 4, none⟩ = some (.int .i64 4) := by rw [← hw3]; simp [go_sem]
  have p5 : W3.cell? ⟨w2.heap.size + 1, 5, none⟩ = some (.int .i64 15) := by rw [← hw3]; simp [go_sem]
  have p6 : W3.cell? ⟨w2.heap.size + 1, 6, none⟩ = some (.int .i64 0) := by rw [← hw3]; simp [go_sem]
  have p7 : W3.cell? ⟨w2.heap.size + 1, 7, none⟩ = some (.int .i64 0) := by rw [← hw3]; simp [go_sem]
  have p8 : W3.cell? ⟨w2.heap.size + 1, 8, none⟩ = some (.int .i64 1) := by rw [← hw3]; simp [go_sem]
  have p9 : W3.cell? ⟨w2.heap.size + 1, 9, none⟩ = some (.bool false) := by rw [← hw3]; simp [go_sem]
  have p10 : W3.cell? ⟨w2.heap.size + 1, 10, none⟩ = some (.bool false) := by rw [← hw3]; simp [go_sem]
  have p11 : W3.cell? ⟨w2.heap.size + 1, 11, none⟩ = some (.bool false) := by rw [← hw3]; simp [go_sem]
  have fm : ∀ j, W3.frozen? ⟨w2.heap.size, j, none⟩ = false := fun j => by rw [← hw3]; exact (World.frozen?_of_block (a := ⟨w2.heap.size, j, none⟩) (Below.heap_alloc _ _ _ (by simp))).trans (frozen_of_row _ _ j _ _ (heap_alloc_new w2 _))
  have fp : ∀ j, W3.frozen? ⟨w2.heap.size + 1, j, none⟩ = false := fun j => by rw [← hw3]; exact frozen_of_row _ _ j _ _ (heap_alloc_new2 w2 _ _)
  have c0 : W3.cell? ⟨b, 0, none⟩ = some (.int .i64 8) := (cell_of_row _ _ _ _ _ (0, 0) gb3).trans rfl
  have c1 : W3.cell? ⟨b, 1, none⟩ = some (.bool false) := (cell_of_row _ _ _ _ _ (0, 0) gb3).trans rfl
  have c2 : W3.cell? ⟨b, 2, none⟩ = some (.int .i64 1) := (cell_of_row _ _ _ _ _ (0, 0) gb3).trans rfl
  have c3 : W3.cell? ⟨b, 3, none⟩ = some (.int .i64 1) := (cell_of_row _ _ _ _ _ (0, 0) gb3).trans rfl
  have c4 : W3.cell? ⟨b, 4, none⟩ = some (.slice none 0 0) := (cell_of_row _ _ _ _ _ (0, 0) gb3).trans rfl
  have fb : ∀ j, W3.frozen? ⟨b, j, none⟩ = false := fun j => frozen_of_row _ _ j _ _ gb3
  have hs3 : W3.heap.size = w2.heap.size + 2 := by rw [← hw3]; simp
  have hbl3 : Below w.heap.size w W3 := by rw [← hw3]; exact below_alloc (below_alloc hbl _) _
  clear hw3 gb hbl
  refine (W0.out _).mono ?_
  rintro e w4 ⟨rfl, rfl⟩
  clear W0
  have g4 := (Below.heap_setCell W3 ⟨w2.heap.size + 1, 5, none⟩ (.int .i64 16) b (by simp only; omega)).trans gb3
  have hc4 : CompsAt (W3.setCell ⟨w2.heap.size + 1, 5, none⟩ (.int .i64 16)) (W3.setCell ⟨w2.heap.size + 1, 5, none⟩ (.int .i64 16)).heap.size (some ⟨b, 0, none⟩) 1 (fun _ => ⟨8, false, 1, 1, none, 0, 0⟩) := comps1 g4 (by simp; omega) rfl
  have FR := frame_any 20 20 3 3 _ 1 1 (fun _ => ⟨8, false, 1, 1, none, 0, 0⟩) 64 64 2 4 4 16 0 0 1 false false false _ hc4 (by omega)
  have fe : frameE 20 20 3 3 1 (fun _ => ⟨8, false, 1, 1, none, 0, 0⟩) 64 64 2 4 4 16 0 0 1 false = 1 := by decide
  rw [fe] at FR
  unfold imgV parV at FR
  have hb4 : Below w.heap.size w (W3.setCell ⟨w2.heap.size + 1, 5, none⟩ (.int .i64 16)) := hbl3.setCell (p := ⟨w2.heap.size + 1, 5, none⟩) (by simp only; omega) _
  have FR := Lib.hid FR
  clear fe hc4 g4 gb3
  go_wp2_with fail
  refine FR.out.mono ?_
  rintro e w5 ⟨rfl, hb5⟩
  go_wp2_with fail
  go_ret
  exact ⟨rfl, below_trans hb4 hb5⟩

theorem rows_12_f (which : Int) (hk : which % 16 = 12) (w : World) : Calls Try.prog 3 #[.int .i64 which, .bool false] w fun e w' => e = .returned (.bool true) ∧ Below w.heap.size w w' := by
  have W0 := Lib.hid (fun (v : World) => by have := within12 which 16 (by omega) (by omega) v; rw [hk] at this; exact this)
  go_enter Try.func3, Try.ntmps3
  go_wp2_with fail
  refine (known12 _).mono ?_
  rintro e w1 ⟨rfl, hb1⟩
  go_wp2_with fail
  refine (one_any 20 20 3 3 _).mono ?_
  rintro e w2 ⟨b, rfl, gb, hbb, hb2⟩
  unfold parV
  have hbl := below_trans hb1 hb2
  have hlt : b < w2.heap.size := (Array.getElem?_eq_some_iff.1 gb).1
  have hws := hbl.size
  have hwb := Nat.le_trans hb1.size hbb
  clear hb1 hb2 hbb
  go_wp2_with fail
  generalize hw3 : World.alloc (World.alloc w2 _) _ = W3
  have gb3 : W3.heap[b]? = some (.cells #[.int .i64 8, .bool false, .int .i64 1, .int .i64 1, .slice none 0 0] 34 (0, 0)) := by rw [← hw3]; exact (Below.heap_alloc _ _ _ (by simp; omega)).trans ((Below.heap_alloc _ _ _ (by omega)).trans gb)
  have m0 : W3.cell? ⟨w2.heap.size, 0, none⟩ = some (.int .i64 20) := by rw [← hw3]; simp [go_sem]
  have m1 : W3.cell? ⟨w2.heap.size, 1, none⟩ = some (.int .i64 20) := by rw [← hw3]; simp [go_sem]
  have m2 : W3.cell? ⟨w2.heap.size, 2, none⟩ = some (.int .i64 3) := by rw [← hw3]; simp [go_sem]
  have m3 : W3.cell? ⟨w2.heap.size, 3, none⟩ = some (.int .i64 3) := by rw [← hw3]; simp [go_sem]
  have m4 : W3.cell? ⟨w2.heap.size, 4, none⟩ = some (.slice (some ⟨b, 0, none⟩) 1 1) := by rw [← hw3]; simp [go_sem]
  have p0 : W3.cell? ⟨w2.heap.size + 1, 0, none⟩ = some (.int .i64 64) := by rw [← hw3]; simp [go_sem]
  have p1 : W3.cell? ⟨w2.heap.size + 1, 1, none⟩ = some (.int .i64 64) := by rw [← hw3]; simp [go_sem]
  have p2 : W3.cell? ⟨w2.heap.size + 1, 2, none⟩ = some (.int .i64 2) := by rw [← hw3]; simp [go_sem]
  have p3 : W3.cell? ⟨w2.heap.size + 1, 3, none⟩ = some (.int .i64 4) := by rw [← hw3]; simp [go_sem]
  have p4 : W3.cell? ⟨w2.heap.size + 1, 4, none⟩ = some (.int .i64 4) := by rw [← hw3]; simp [go_sem]
  have p5 : W3.cell? ⟨w2.heap.size + 1, 5, none⟩ = some (.int .i64 15) := by rw [← hw3]; simp [go_sem]
  have p6 : W3.cell? ⟨w2.heap.size + 1, 6, none⟩ = some (.int .i64 0) := by rw [← hw3]; simp [go_sem]
  have p7 : W3.cell? ⟨w2.heap.size + 1, 7, none⟩ = some (.int .i64 0) := by rw [← hw3]; simp [go_sem]
  have p8 : W3.cell? ⟨w2.heap.size + 1, 8, none⟩ = some (.int .i64 1) := by rw [← hw3]; simp [go_sem]
  have p9 : W3.cell? ⟨w2.heap.size + 1, 9, none⟩ = some (.bool false) := by rw [← hw3]; simp [go_sem]
  have p10 : W3.cell? ⟨w2.heap.size + 1, 10, none⟩ = some (.bool false) := by rw [← hw3]; simp [go_sem]
  have p11 : W3.cell? ⟨w2.heap.size + 1, 11, none⟩ = some (.bool false) := by rw [← hw3]; simp [go_sem]
  have fm : ∀ j, W3.frozen? ⟨w2.heap.size, j, none⟩ = false := fun j => by rw [← hw3]; exact (World.frozen?_of_block (a := ⟨w2.heap.size, j, none⟩) (Below.heap_alloc _ _ _ (by simp))).trans (frozen_of_row _ _ j _ _ (heap_alloc_new w2 _))
  have fp : ∀ j, W3.frozen? ⟨w2.heap.size + 1, j, none⟩ = false := fun j => by rw [← hw3]; exact frozen_of_row _ _ j _ _ (heap_alloc_new2 w2 _ _)
  have c0 : W3.cell? ⟨b, 0, none⟩ = some (.int .i64 8) := (cell_of_row _ _ _ _ _ (0, 0) gb3).trans rfl
  have c1 : W3.cell? ⟨b, 1, none⟩ = some (.bool false) := (cell_of_row _ _ _ _ _ (0, 0) gb3).trans rfl
  have c2 : W3.cell? ⟨b, 2, none⟩ = some (.int .i64 1) := (cell_of_row _ _ _ _ _ (0, 0) gb3).trans rfl
  have c3 : W3.cell? ⟨b, 3, none⟩ = some (.int .i64 1) := (cell_of_row _ _ _ _ _ (0, 0) gb3).trans rfl
  have c4 : W3.cell? ⟨b, 4, none⟩ = some (.slice none 0 0) := (cell_of_row _ _ _ _ _ (0, 0) gb3).trans rfl
  have fb : ∀ j, W3.frozen? ⟨b, j, none⟩ = false := fun j => frozen_of_row _ _ j _ _ gb3
  have hs3 : W3.heap.size = w2.heap.size + 2 := by rw [← hw3]; simp
  have hbl3 : Below w.heap.size w W3 := by rw [← hw3]; exact below_alloc (below_alloc hbl _) _
  clear hw3 gb hbl
  refine (W0.out _).mono ?_
  rintro e w4 ⟨rfl, rfl⟩
  clear W0
  have g4 := (Below.heap_setCell W3 ⟨w2.heap.size + 1, 6, none⟩ (.int .i64 63) b (by simp only; omega)).trans gb3
  have hc4 : CompsAt (W3.setCell ⟨w2.heap.size + 1, 6, none⟩ (.int .i64 63)) (W3.setCell ⟨w2.heap.size + 1, 6, none⟩ (.int .i64 63)).heap.size (some ⟨b, 0, none⟩) 1 (fun _ => ⟨8, false, 1, 1, none, 0, 0⟩) := comps1 g4 (by simp; omega) rfl
  have FR := frame_any 20 20 3 3 _ 1 1 (fun _ => ⟨8, false, 1, 1, none, 0, 0⟩) 64 64 2 4 4 15 63 0 1 false false false _ hc4 (by omega)
  have fe : frameE 20 20 3 3 1 (fun _ => ⟨8, false, 1, 1, none, 0, 0⟩) 64 64 2 4 4 15 63 0 1 false = 0 := by decide
  rw [fe] at FR
  unfold imgV parV at FR
  have hb4 : Below w.heap.size w (W3.setCell ⟨w2.heap.size + 1, 6, none⟩ (.int .i64 63)) := hbl3.setCell (p := ⟨w2.heap.size + 1, 6, none⟩) (by simp only; omega) _
  have FR := Lib.hid FR
  clear fe hc4 g4 gb3
  go_wp2_with fail
  refine FR.out.mono ?_
  rintro e w5 ⟨rfl, hb5⟩
  go_wp2_with fail
  go_ret
  exact ⟨rfl, below_trans hb4 hb5⟩

theorem rows_12_t (which : Int) (hk : which % 16 = 12) (w : World) : Calls Try.prog 3 #[.int .i64 which, .bool true] w fun e w' => e = .returned (.bool true) ∧ Below w.heap.size w w' := by
  have W0 := Lib.hid (fun (v : World) => by have := within12 which 16 (by omega) (by omega) v; rw [hk] at this; exact this)
  go_enter Try.func3, Try.ntmps3
  go_wp2_with fail
  refine (known12 _).mono ?_
  rintro e w1 ⟨rfl, hb1⟩
  go_wp2_with fail
  refine (one_any 20 20 3 3 _).mono ?_
  rintro e w2 ⟨b, rfl, gb, hbb, hb2⟩
  unfold parV
  have hbl := below_trans hb1 hb2
  have hlt : b < w2.heap.size := (Array.getElem?_eq_some_iff.1 gb).1
  have hws := hbl.size
  have hwb := Nat.le_trans hb1.size hbb
  clear hb1 hb2 hbb
  go_wp2_with fail
  generalize hw3 : World.alloc (World.alloc w2 _) _ = W3
  have gb3 : W3.heap[b]? = some (.cells #[.int .i64 8, .bool false, .int .i64 1, .int .i64 1, .slice none 0 0] 34 (0, 0)) := by rw [← hw3]; exact (Below.heap_alloc _ _ _ (by simp; omega)).trans ((Below.heap_alloc _ _ _ (by omega)).trans gb)
  have m0 : W3.cell? ⟨w2.heap.size, 0, none⟩ = some (.int .i64 20) := by rw [← hw3]; simp [go_sem]
  have m1 : W3.cell? ⟨w2.heap.size, 1, none⟩ = some (.int .i64 20) := by rw [← hw3]; simp [go_sem]
  have m2 : W3.cell? ⟨w2.heap.size, 2, none⟩ = some (.int .i64 3) := by rw [← hw3]; simp [go_sem]
  have m3 : W3.cell? ⟨w2.heap.size, 3, none⟩ = some (.int .i64 3) := by rw [← hw3]; simp [go_sem]
  have m4 : W3.cell? ⟨w2.heap.size, 4, none⟩ = some (.slice (some ⟨b, 0, none⟩) 1 1) := by rw [← hw3]; simp [go_sem]
  have p0 : W3.cell? ⟨w2.heap.size + 1, 0, none⟩ = some (.int .i64 64) := by rw [← hw3]; simp [go_sem]
  have p1 : W3.cell? ⟨w2.heap.size + 1, 1, none⟩ = some (.int .i64 64) := by rw [← hw3]; simp [go_sem]
  have p2 : W3.cell? ⟨w2.heap.size + 1, 2, none⟩ = some (.int .i64 2) := by rw [← hw3]; simp [go_sem]
  have p3 : W3.cell? ⟨w2.heap.size + 1, 3, none⟩ = some (.int .i64 4) := by rw [← hw3]; simp [go_sem]
  have p4 : W3.cell? ⟨w2.heap.size + 1, 4, none⟩ = some (.int .i64 4) := by rw [← hw3]; simp [go_sem]
  have p5 : W3.cell? ⟨w2.heap.size + 1, 5, none⟩ = some (.int .i64 15) := by rw [← hw3]; simp [go_sem]
  have p6 : W3.cell? ⟨w2.heap.size + 1, 6, none⟩ = some (.int .i64 0) := by rw [← hw3]; simp [go_sem]
  have p7 : W3.cell? ⟨w2.heap.size + 1, 7, none⟩ = some (.int .i64 0) := by rw [← hw3]; simp [go_sem]
  have p8 : W3.cell? ⟨w2.heap.size + 1, 8, none⟩ = some (.int .i64 1) := by rw [← hw3]; simp [go_sem]
  have p9 : W3.cell? ⟨w2.heap.size + 1, 9, none⟩ = some (.bool false) := by rw [← hw3]; simp [go_sem]
  have p10 : W3.cell? ⟨w2.heap.size + 1, 10, none⟩ = some (.bool false) := by rw [← hw3]; simp [go_sem]
  have p11 : W3.cell? ⟨w2.heap.size + 1, 11, none⟩ = some (.bool false) := by rw [← hw3]; simp [go_sem]
  have fm : ∀ j, W3.frozen? ⟨w2.heap.size, j, none⟩ = false := fun j => by rw [← hw3]; exact (World.frozen?_of_block (a := ⟨w2.heap.size, j, none⟩) (Below.heap_alloc _ _ _ (by simp))).trans (frozen_of_row _ _ j _ _ (heap_alloc_new w2 _))
  have fp : ∀ j, W3.frozen? ⟨w2.heap.size + 1, j, none⟩ = false := fun j => by rw [← hw3]; exact frozen_of_row _ _ j _ _ (heap_alloc_new2 w2 _ _)
  have c0 : W3.cell? ⟨b, 0, none⟩ = some (.int .i64 8) := (cell_of_row _ _ _ _ _ (0, 0) gb3).trans rfl
  have c1 : W3.cell? ⟨b, 1, none⟩ = some (.bool false) := (cell_of_row _ _ _ _ _ (0, 0) gb3).trans rfl
  have c2 : W3.cell? ⟨b, 2, none⟩ = some (.int .i64 1) := (cell_of_row _ _ _ _ _ (0, 0) gb3).trans rfl
  have c3 : W3.cell? ⟨b, 3, none⟩ = some (.int .i64 1) := (cell_of_row _ _ _ _ _ (0, 0) gb3).trans rfl
  have c4 : W3.cell? ⟨b, 4, none⟩ = some (.slice none 0 0) := (cell_of_row _ _ _ _ _ (0, 0) gb3).trans rfl
  have fb : ∀ j, W3.frozen? ⟨b, j, none⟩ = false := fun j => frozen_of_row _ _ j _ _ gb3
  have hs3 : W3.heap.size = w2.heap.size + 2 := by rw [← hw3]; simp
  have hbl3 : Below w.heap.size w W3 := by rw [← hw3]; exact below_alloc (below_alloc hbl _) _
  clear hw3 gb hbl
  refine (W0.out _).mono ?_
  rintro e w4 ⟨rfl, rfl⟩
  clear W0
  have g4 := (Below.heap_setCell W3 ⟨w2.heap.size + 1, 6, none⟩ (.int .i64 64) b (by simp only; omega)).trans gb3
  have hc4 : CompsAt (W3.setCell ⟨w2.heap.size + 1, 6, none⟩ (.int .i64 64)) (W3.setCell ⟨w2.heap.size + 1, 6, none⟩ (.int .i64 64)).heap.size (some ⟨b, 0, none⟩) 1 (fun _ => ⟨8, false, 1, 1, none, 0, 0⟩) := comps1 g4 (by simp; omega) rfl
  have FR := frame_any 20 20 3 3 _ 1 1 (fun _ => ⟨8, false, 1, 1, none, 0, 0⟩) 64 64 2 4 4 15 64 0 1 false false false _ hc4 (by omega)
  have fe : frameE 20 20 3 3 1 (fun _ => ⟨8, false, 1, 1, none, 0, 0⟩) 64 64 2 4 4 15 64 0 1 false = 1 := by decide
  rw [fe] at FR
  unfold imgV parV at FR
  have hb4 : Below w.heap.size w (W3.setCell ⟨w2.heap.size + 1, 6, none⟩ (.int .i64 64)) := hbl3.setCell (p := ⟨w2.heap.size + 1, 6, none⟩) (by simp only; omega) _
  have FR := Lib.hid FR
  clear fe hc4 g4 gb3
  go_wp2_with fail
  refine FR.out.mono ?_
  rintro e w5 ⟨rfl, hb5⟩
  go_wp2_with fail
  go_ret
  exact ⟨rfl, below_trans hb4 hb5⟩

theorem rows_13_f (which : Int) (hk : which % 16 = 13) (w : World) : Calls Try.prog 3 #[.int .i64 which, .bool false] w fun e w' => e = .returned (.bool true) ∧ Below w.heap.size w w' := by
  have W0 := Lib.hid (fun (v : World) => by have := within12 which 16 (by omega) (by omega) v; rw [hk] at this; exact this)
  go_enter Try.func3, Try.ntmps3
  go_wp2_with fail
  refine (known12 _).mono ?_
  rintro e w1 ⟨rfl, hb1⟩
  go_wp2_with fail
  refine (one_any 20 20 3 3 _).mono ?_
  rintro e w2 ⟨b, rfl, gb, hbb, hb2⟩
  unfold parV
  have hbl := below_trans hb1 hb2
  have hlt : b < w2.heap.size := (Array.getElem?_eq_some_iff.1 gb).1
  have hws := hbl.size
  have hwb := Nat.le_trans hb1.size hbb
  clear hb1 hb2 hbb
  go_wp2_with fail
  generalize hw3 : World.alloc (World.alloc w2 _) _ = W3
  have gb3 : W3.heap[b]? = some (.cells #[.int .i64 8, .bool false, .int .i64 1, .int .i64 1, .slice none 0 0] 34 (0, 0)) := by rw [← hw3]; exact (Below.heap_alloc _ _ _ (by simp; omega)).trans ((Below.heap_alloc _ _ _ (by omega)).trans gb)
  have m0 : W3.cell? ⟨w2.heap.size, 0, none⟩ = some (.int .i64 20) := by rw [← hw3]; simp [go_sem]
  have m1 : W3.cell? ⟨w2.heap.size, 1, none⟩ = some (.int .i64 20) := by rw [← hw3]; simp [go_sem]
  have m2 : W3.cell? ⟨w2.heap.size, 2, none⟩ = some (.int .i64 3) := by rw [← hw3]; simp [go_sem]
  have m3 : W3.cell? ⟨w2.heap.size, 3, none⟩ = some (.int .i64 3) := by rw [← hw3]; simp [go_sem]
  have m4 : W3.cell? ⟨w2.heap.size, 4, none⟩ = some (.slice (some ⟨b, 0, none⟩) 1 1) := by rw [← hw3]; simp [go_sem]
  have p0 : W3.cell? ⟨w2.heap.size + 1, 0, none⟩ = some (.int .i64 64) := by rw [← hw3]; simp [go_sem]
  have p1 : W3.cell? ⟨w2.heap.size + 1, 1, none⟩ = some (.int .i64 64) := by rw [← hw3]; simp [go_sem]
  have p2 : W3.cell? ⟨w2.heap.size + 1, 2, none⟩ = some (.int .i64 2) := by rw [← hw3]; simp [go_sem]
  have p3 : W3.cell? ⟨w2.heap.size + 1, 3, none⟩ = some (.int .i64 4) := by rw [← hw3]; simp [go_sem]
  have p4 : W3.cell? ⟨w2.heap.size + 1, 4, none⟩ = some (.int .i64 4) := by rw [← hw3]; simp [go_sem]
  have p5 : W3.cell? ⟨w2.heap.size + 1, 5, none⟩ = some (.int .i64 15) := by rw [← hw3]; simp [go_sem]
  have p6 : W3.cell? ⟨w2.heap.size + 1, 6, none⟩ = some (.int .i64 0) := by rw [← hw3]; simp [go_sem]
  have p7 : W3.cell? ⟨w2.heap.size + 1, 7, none⟩ = some (.int .i64 0) := by rw [← hw3]; simp [go_sem]
  have p8 : W3.cell? ⟨w2.heap.size + 1, 8, none⟩ = some (.int .i64 1) := by rw [← hw3]; simp [go_sem]
  have p9 : W3.cell? ⟨w2.heap.size + 1, 9, none⟩ = some (.bool false) := by rw [← hw3]; simp [go_sem]
  have p10 : W3.cell? ⟨w2.heap.size + 1, 10, none⟩ = some (.bool false) := by rw [← hw3]; simp [go_sem]
  have p11 : W3.cell? ⟨w2.heap.size + 1, 11, none⟩ = some (.bool false) := by rw [← hw3]; simp [go_sem]
  have fm : ∀ j, W3.frozen? ⟨w2.heap.size, j, none⟩ = false := fun j => by rw [← hw3]; exact (World.frozen?_of_block (a := ⟨w2.heap.size, j, none⟩) (Below.heap_alloc _ _ _ (by simp))).trans (frozen_of_row _ _ j _ _ (heap_alloc_new w2 _))
  have fp : ∀ j, W3.frozen? ⟨w2.heap.size + 1, j, none⟩ = false := fun j => by rw [← hw3]; exact frozen_of_row _ _ j _ _ (heap_alloc_new2 w2 _ _)
  have c0 : W3.cell? ⟨b, 0, none⟩ = some (.int .i64 8) := (cell_of_row _ _ _ _ _ (0, 0) gb3).trans rfl
  have c1 : W3.cell? ⟨b, 1, none⟩ = some (.bool false) := (cell_of_row _ _ _ _ _ (0, 0) gb3).trans rfl
  have c2 : W3.cell? ⟨b, 2, none⟩ = some (.int .i64 1) := (cell_of_row _ _ _ _ _ (0, 0) gb3).trans rfl
  have c3 : W3.cell? ⟨b, 3, none⟩ = some (.int .i64 1) := (cell_of_row _ _ _ _ _ (0, 0) gb3).trans rfl
  have c4 : W3.cell? ⟨b, 4, none⟩ = some (.slice none 0 0) := (cell_of_row _ _ _ _ _ (0, 0) gb3).trans rfl
  have fb : ∀ j, W3.frozen? ⟨b, j, none⟩ = false := fun j => frozen_of_row _ _ j _ _ gb3
  have hs3 : W3.heap.size = w2.heap.size + 2 := by rw [← hw3]; simp
  have hbl3 : Below w.heap.size w W3 := by rw [← hw3]; exact below_alloc (below_alloc hbl _) _
  clear hw3 gb hbl
  refine (W0.out _).mono ?_
  rintro e w4 ⟨rfl, rfl⟩
  clear W0
  have g4 := (Below.heap_setCell W3 ⟨w2.heap.size + 1, 7, none⟩ (.int .i64 4) b (by simp only; omega)).trans gb3
  have hc4 : CompsAt (W3.setCell ⟨w2.heap.size + 1, 7, none⟩ (.int .i64 4)) (W3.setCell ⟨w2.heap.size + 1, 7, none⟩ (.int .i64 4)).heap.size (some ⟨b, 0, none⟩) 1 (fun _ => ⟨8, false, 1, 1, none, 0, 0⟩) := comps1 g4 (by simp; omega) rfl
  have FR := frame_any 20 20 3 3 _ 1 1 (fun _ => ⟨8, false, 1, 1, none, 0, 0⟩) 64 64 2 4 4 15 0 4 1 false false false _ hc4 (by omega)
  have fe : frameE 20 20 3 3 1 (fun _ => ⟨8, false, 1, 1, none, 0, 0⟩) 64 64 2 4 4 15 0 4 1 false = 0 := by decide
  rw [fe] at FR
  unfold imgV parV at FR
  have hb4 : Below w.heap.size w (W3.setCell ⟨w2.heap.size + 1, 7, none⟩ (.int .i64 4)) := hbl3.setCell (p := ⟨w2.heap.size + 1, 7, none⟩) (by simp only; omega) _
  have FR := Lib.hid FR
  clear fe hc4 g4 gb3
  go_wp2_with fail
  refine FR.out.mono ?_
  rintro e w5 ⟨rfl, hb5⟩
  go_wp2_with fail
  go_ret
  exact ⟨rfl, below_trans hb4 hb5⟩

theorem rows_13_t (which : Int) (hk : which % 16 = 13) (w : World) : Calls Try.prog 3 #[.int .i64 which, .bool true] w fun e w' => e = .returned (.bool true) ∧ Below w.heap.size w w' := by
  have W0 := Lib.hid (fun (v : World) => by have := within12 which 16 (by omega) (by omega) v; rw [hk] at this; exact this)
  go_enter Try.func3, Try.ntmps3
  go_wp2_with fail
  refine (known12 _).mono ?_
  rintro e w1 ⟨rfl, hb1⟩
  go_wp2_with fail
  refine (one_any 20 20 3 3 _).mono ?_
  rintro e w2 ⟨b, rfl, gb, hbb, hb2⟩
  unfold parV
  have hbl := below_trans hb1 hb2
  have hlt : b < w2.heap.size := (Array.getElem?_eq_some_iff.1 gb).1
  have hws := hbl.size
  have hwb := Nat.le_trans hb1.size hbb
  clear hb1 hb2 hbb
  go_wp2_with fail
  generalize hw3 : World.alloc (World.alloc w2 _) _ = W3
  have gb3 : W3.heap[b]? = some (.cells #[.int .i64 8, .bool false, .int .i64 1, .int .i64 1, .slice none 0 0] 34 (0, 0)) := by rw [← hw3]; exact (Below.heap_alloc _ _ _ (by simp; omega)).trans ((Below.heap_alloc _ _ _ (by omega)).trans gb)
  have m0 : W3.cell? ⟨w2.heap.size, 0, none⟩ = some (.int .i64 20) := by rw [← hw3]; simp [go_sem]
  have m1 : W3.cell? ⟨w2.heap.size, 1, none⟩ = some (.int .i64 20) := by rw [← hw3]; simp [go_sem]
  have m2 : W3.cell? ⟨w2.heap.size, 2, none⟩ = some (.int .i64 3) := by rw [← hw3]; simp [go_sem]
  have m3 : W3.cell? ⟨w2.heap.size, 3, none⟩ = some (.int .i64 3) := by rw [← hw3]; simp [go_sem]
  have m4 : W3.cell? ⟨w2.heap.size, 4, none⟩ = some (.slice (some ⟨b, 0, none⟩) 1 1) := by rw [← hw3]; simp [go_sem]
  have p0 : W3.cell? ⟨w2.heap.size + 1, 0, none⟩ = some (.int .i64 64) := by rw [← hw3]; simp [go_sem]
  have p1 : W3.cell? ⟨w2.heap.size + 1, 1, none⟩ = some (.int .i64 64) := by rw [← hw3]; simp [go_sem]
  have p2 : W3.cell? ⟨w2.heap.size + 1, 2, none⟩ = some (.int .i64 2) := by rw [← hw3]; simp [go_sem]
  have p3 : W3.cell? ⟨w2.heap.size + 1, 3, none⟩ = some (.int .i64 4) := by rw [← hw3]; simp [go_sem]
  have p4 : W3.cell? ⟨w2.heap.size + 1, 4, none⟩ = some (.int .i64 4) := by rw [← hw3]; simp [go_sem]
  have p5 : W3.cell? ⟨w2.heap.size + 1, 5, none⟩ = some (.int .i64 15) := by rw [← hw3]; simp [go_sem]
  have p6 : W3.cell? ⟨w2.heap.size + 1, 6, none⟩ = some (.int .i64 0) := by rw [← hw3]; simp [go_sem]
  have p7 : W3.cell? ⟨w2.heap.size + 1, 7, none⟩ = some (.int .i64 0) := by rw [← hw3]; simp [go_sem]
  have p8 : W3.cell? ⟨w2.heap.size + 1, 8, none⟩ = some (.int .i64 1) := by rw [← hw3]; simp [go_sem]
  have p9 : W3.cell? ⟨w2.heap.size + 1, 9, none⟩ = some (.bool false) := by rw [← hw3]; simp [go_sem]
  have p10 : W3.cell? ⟨w2.heap.size + 1, 10, none⟩ = some (.bool false) := by rw [← hw3]; simp [go_sem]
  have p11 : W3.cell? ⟨w2.heap.size + 1, 11, none⟩ = some (.bool false) := by rw [← hw3]; simp [go_sem]
  have fm : ∀ j, W3.frozen? ⟨w2.heap.size, j, none⟩ = false := fun j => by rw [← hw3]; exact (World.frozen?_of_block (a := ⟨w2.heap.size, j, none⟩) (Below.heap_alloc _ _ _ (by simp))).trans (frozen_of_row _ _ j _ _ (heap_alloc_new w2 _))
  have fp : ∀ j, W3.frozen? ⟨w2.heap.size + 1, j, none⟩ = false := fun j => by rw [← hw3]; exact frozen_of_row _ _ j _ _ (heap_alloc_new2 w2 _ _)
  have c0 : W3.cell? ⟨b, 0, none⟩ = some (.int .i64 8) := (cell_of_row _ _ _ _ _ (0, 0) gb3).trans rfl
  have c1 : W3.cell? ⟨b, 1, none⟩ = some (.bool false) := (cell_of_row _ _ _ _ _ (0, 0) gb3).trans rfl
  have c2 : W3.cell? ⟨b, 2, none⟩ = some (.int .i64 1) := (cell_of_row _ _ _ _ _ (0, 0) gb3).trans rfl
  have c3 : W3.cell? ⟨b, 3, none⟩ = some (.int .i64 1) := (cell_of_row _ _ _ _ _ (0, 0) gb3).trans rfl
  have c4 : W3.cell? ⟨b, 4, none⟩ = some (.slice none 0 0) := (cell_of_row _ _ _ _ _ (0, 0) gb3).trans rfl
  have fb : ∀ j, W3.frozen? ⟨b, j, none⟩ = false := fun j => frozen_of_row _ _ j _ _ gb3
  have hs3 : W3.heap.size = w2.heap.size + 2 := by rw [← hw3]; simp
  have hbl3 : Below w.heap.size w W3 := by rw [← hw3]; exact below_alloc (below_alloc hbl _) _
  clear hw3 gb hbl
  refine (W0.out _).mono ?_
  rintro e w4 ⟨rfl, rfl⟩
  clear W0
  have g4 := (Below.heap_setCell W3 ⟨w2.heap.size + 1, 7, none⟩ (.int .i64 5) b (by simp only; omega)).trans gb3
  have hc4 : CompsAt (W3.setCell ⟨w2.heap.size + 1, 7, none⟩ (.int .i64 5)) (W3.setCell ⟨w2.heap.size + 1, 7, none⟩ (.int .i64 5)).heap.size (some ⟨b, 0, none⟩) 1 (fun _ => ⟨8, false, 1, 1, none, 0, 0⟩) := comps1 g4 (by simp; omega) rfl
  have FR := frame_any 20 20 3 3 _ 1 1 (fun _ => ⟨8, false, 1, 1, none, 0, 0⟩) 64 64 2 4 4 15 0 5 1 false false false _ hc4 (by omega)
  have fe : frameE 20 20 3 3 1 (fun _ => ⟨8, false, 1, 1, none, 0, 0⟩) 64 64 2 4 4 15 0 5 1 false = 1 := by decide
  rw [fe] at FR
  unfold imgV parV at FR
  have hb4 : Below w.heap.size w (W3.setCell ⟨w2.heap.size + 1, 7, none⟩ (.int .i64 5)) := hbl3.setCell (p := ⟨w2.heap.size + 1, 7, none⟩) (by simp only; omega) _
  have FR := Lib.hid FR
  clear fe hc4 g4 gb3
  go_wp2_with fail
  refine FR.out.mono ?_
  rintro e w5 ⟨rfl, hb5⟩
  go_wp2_with fail
  go_ret
  exact ⟨rfl, below_trans hb4 hb5⟩

theorem rows_14_f (which : Int) (hk : which % 16 = 14) (w : World) : Calls Try.prog 3 #[.int .i64 which, .bool false] w fun e w' => e = .returned (.bool true) ∧ Below w.heap.size w w' := by
  have W0 := Lib.hid (fun (v : World) => by have := within12 which 16 (by omega) (by omega) v; rw [hk] at this; exact this)
  go_enter Try.func3, Try.ntmps3
  go_wp2_with fail
  refine (known12 _).mono ?_
  rintro e w1 ⟨rfl, hb1⟩
  go_wp2_with fail
  refine (one_any 20 20 3 3 _).mono ?_
  rintro e w2 ⟨b, rfl, gb, hbb, hb2⟩
  unfold parV
  have hbl := below_trans hb1 hb2
  have hlt : b < w2.heap.size := (Array.getElem?_eq_some_iff.1 gb).1
  have hws := hbl.size
  have hwb := Nat.le_trans hb1.size hbb
  clear hb1 hb2 hbb
  go_wp2_with fail
  generalize hw3 : World.alloc (World.alloc w2 _) _ = W3
  have gb3 : W3.heap[b]? = some (.cells #[.int .i64 8, .bool false, .int .i64 1, .int .i64 1, .slice none 0 0] 34 (0, 0)) := by rw [← hw3]; exact (Below.heap_alloc _ _ _ (by simp; omega)).trans ((Below.heap_alloc _ _ _ (by omega)).trans gb)
  have m0 : W3.cell? ⟨w2.heap.size, 0, none⟩ = some (.int .i64 20) := by rw [← hw3]; simp [go_sem]
  have m1 : W3.cell? ⟨w2.heap.size, 1, none⟩ = some (.int .i64 20) := by rw [← hw3]; simp [go_sem]
  have m2 : W3.cell? ⟨w2.heap.size, 2, none⟩ = some (.int .i64 3) := by rw [← hw3]; simp [go_sem]
  have m3 : W3.cell? ⟨w2.heap.size, 3, none⟩ = some (.int .i64 3) := by rw [← hw3]; simp [go_sem]
  have m4 : W3.cell? ⟨w2.heap.size, 4, none⟩ = some (.slice (some ⟨b, 0, none⟩) 1 1) := by rw [← hw3]; simp [go_sem]
  have p0 : W3.cell? ⟨w2.heap.size + 1, 0, none⟩ = some (.int .i64 64) := by rw [← hw3]; simp [go_sem]
  have p1 : W3.cell? ⟨w2.heap.size + 1, 1, none⟩ = some (.int .i64 64) := by rw [← hw3]; simp [go_sem]
  have p2 : W3.cell? ⟨w2.heap.size + 1, 2, none⟩ = some (.int .i64 2) := by rw [← hw3]; simp [go_sem]
  have p3 : W3.cell? ⟨w2.heap.size + 1, 3, none⟩ = some (.int .i64 4) := by rw [← hw3]; simp [go_sem]
  have p4 : W3.cell? ⟨w2.heap.size + 1, 4, none⟩ = some (.int .i64 4) := by rw [← hw3]; simp [go_sem]
  have p5 : W3.cell? ⟨w2.heap.size + 1, 5, none⟩ = some (.int .i64 15) := by rw [← hw3]; simp [go_sem]
  have p6 : W3.cell? ⟨w2.heap.size + 1, 6, none⟩ = some (.int .i64 0) := by rw [← hw3]; simp [go_sem]
  have p7 : W3.cell? ⟨w2.heap.size + 1, 7, none⟩ = some (.int .i64 0) := by rw [← hw3]; simp [go_sem]
  have p8 : W3.cell? ⟨w2.heap.size + 1, 8, none⟩ = some (.int .i64 1) := by rw [← hw3]; simp [go_sem]
  have p9 : W3.cell? ⟨w2.heap.size + 1, 9, none⟩ = some (.bool false) := by rw [← hw3]; simp [go_sem]
  have p10 : W3.cell? ⟨w2.heap.size + 1, 10, none⟩ = some (.bool false) := by rw [← hw3]; simp [go_sem]
  have p11 : W3.cell? ⟨w2.heap.size + 1, 11, none⟩ = some (.bool false) := by rw [← hw3]; simp [go_sem]
  have fm : ∀ j, W3.frozen? ⟨w2.heap.size, j, none⟩ = false := fun j => by rw [← hw3]; exact (World.frozen?_of_block (a := ⟨w2.heap.size, j, none⟩) (Below.heap_alloc _ _ _ (by simp))).trans (frozen_of_row _ _ j _ _ (heap_alloc_new w2 _))
  have fp : ∀ j, W3.frozen? ⟨w2.heap.size + 1, j, none⟩ = false := fun j => by rw [← hw3]; exact frozen_of_row _ _ j _ _ (heap_alloc_new2 w2 _ _)
  have c0 : W3.cell? ⟨b, 0, none⟩ = some (.int .i64 8) := (cell_of_row _ _ _ _ _ (0, 0) gb3).trans rfl
  have c1 : W3.cell? ⟨b, 1, none⟩ = some (.bool false) := (cell_of_row _ _ _ _ _ (0, 0) gb3).trans rfl
  have c2 : W3.cell? ⟨b, 2, none⟩ = some (.int .i64 1) := (cell_of_row _ _ _ _ _ (0, 0) gb3).trans rfl
  have c3 : W3.cell? ⟨b, 3, none⟩ = some (.int .i64 1) := (cell_of_row _ _ _ _ _ (0, 0) gb3).trans rfl
  have c4 : W3.cell? ⟨b, 4, none⟩ = some (.slice none 0 0) := (cell_of_row _ _ _ _ _ (0, 0) gb3).trans rfl
  have fb : ∀ j, W3.frozen? ⟨b, j, none⟩ = false := fun j => frozen_of_row _ _ j _ _ gb3
  have hs3 : W3.heap.size = w2.heap.size + 2 := by rw [← hw3]; simp
  have hbl3 : Below w.heap.size w W3 := by rw [← hw3]; exact below_alloc (below_alloc hbl _) _
  clear hw3 gb hbl
  refine (W0.out _).mono ?_
  rintro e w4 ⟨rfl, rfl⟩
  clear W0
  have g4 := (Below.heap_setCell W3 ⟨w2.heap.size + 1, 8, none⟩ (.int .i64 8) b (by simp only; omega)).trans gb3
  have hc4 : CompsAt (W3.setCell ⟨w2.heap.size + 1, 8, none⟩ (.int .i64 8)) (W3.setCell ⟨w2.heap.size + 1, 8, none⟩ (.int .i64 8)).heap.size (some ⟨b, 0, none⟩) 1 (fun _ => ⟨8, false, 1, 1, none, 0, 0⟩) := comps1 g4 (by simp; omega) rfl
  have FR := frame_any 20 20 3 3 _ 1 1 (fun _ => ⟨8, false, 1, 1, none, 0, 0⟩) 64 64 2 4 4 15 0 0 8 false false false _ hc4 (by omega)
  have fe : frameE 20 20 3 3 1 (fun _ => ⟨8, false, 1, 1, none, 0, 0⟩) 64 64 2 4 4 15 0 0 8 false = 0 := by decide
  rw [fe] at FR
  unfold imgV parV at FR
  have hb4 : Below w.heap.size w (W3.setCell ⟨w2.heap.size + 1, 8, none⟩ (.int .i64 8)) := hbl3.setCell (p := ⟨w2.heap.size + 1, 8, none⟩) (by simp only; omega) _
  have FR := Lib.hid FR
  clear fe hc4 g4 gb3
  go_wp2_with fail
  refine FR.out.mono ?_
  rintro e w5 ⟨rfl, hb5⟩
  go_wp2_with fail
  go_ret
  exact ⟨rfl, below_trans hb4 hb5⟩

theorem rows_14_t (which : Int) (hk : which % 16 = 14) (w : World) : Calls Try.prog 3 #[.int .i64 which, .bool true] w fun e w' => e = .returned (.bool true) ∧ Below w.heap.size w w' := by
  have W0 := Lib.hid (fun (v : World) => by have := within12 which 16 (by omega) (by omega) v; rw [hk] at this; exact this)
  go_enter Try.func3, Try.ntmps3
  go_wp2_with fail
  refine (known12 _).mono ?_
  rintro e w1 ⟨rfl, hb1⟩
  go_wp2_with fail
  refine (one_any 20 20 3 3 _).mono ?_
  rintro e w2 ⟨b, rfl, gb, hbb, hb2⟩
  unfold parV
  have hbl := below_trans hb1 hb2
  have hlt : b < w2.heap.size := (Array.getElem?_eq_some_iff.1 gb).1
  have hws := hbl.size
  have hwb := Nat.le_trans hb1.size hbb
  clear hb1 hb2 hbb
  go_wp2_with fail
  generalize hw3 : World.alloc (World.alloc w2 _) _ = W3
  have gb3 : W3.heap[b]? = some (.cells #[.int .i64 8, .bool false, .int .i64 1, .int .i64 1, .slice none 0 0] 34 (0, 0)) := by rw [← hw3]; exact (Below.heap_alloc _ _ _ (by simp; omega)).trans ((Below.heap_alloc _ _ _ (by omega)).trans gb)
  have m0 : W3.cell? ⟨w2.heap.size, 0, none⟩ = some (.int .i64 20) := by rw [← hw3]; simp [go_sem]
  have m1 : W3.cell? ⟨w2.heap.size, 1, none⟩ = some (.int .i64 20) := by rw [← hw3]; simp [go_sem]
  have m2 : W3.cell? ⟨w2.heap.size, 2, none⟩ = some (.int .i64 3) := by rw [← hw3]; simp [go_sem]
  have m3 : W3.cell? ⟨w2.heap.size, 3, none⟩ = some (.int .i64 3) := by rw [← hw3]; simp [go_sem]
  have m4 : W3.cell? ⟨w2.heap.size, 4, none⟩ = some (.slice (some ⟨b, 0, none⟩) 1 1) := by rw [← hw3]; simp [go_sem]
  have p0 : W3.cell? ⟨w2.heap.size + 1, 0, none⟩ = some (.int .i64 64) := by rw [← hw3]; simp [go_sem]
  have p1 : W3.cell? ⟨w2.heap.size + 1, 1, none⟩ = some (.int .i64 64) := by rw [← hw3]; simp [go_sem]
  have p2 : W3.cell? ⟨w2.heap.size + 1, 2, none⟩ = some (.int .i64 2) := by rw [← hw3]; simp [go_sem]
  have p3 : W3.cell? ⟨w2.heap.size + 1, 3, none⟩ = some (.int .i64 4) := by rw [← hw3]; simp [go_sem]
  have p4 : W3.cell? ⟨w2.heap.size + 1, 4, none⟩ = some (.int .i64 4) := by rw [← hw3]; simp [go_sem]
  have p5 : W3.cell? ⟨w2.heap.size + 1, 5, none⟩ = some (.int .i64 15) := by rw [← hw3]; simp [go_sem]
  have p6 : W3.cell? ⟨w2.heap.size + 1, 6, none⟩ = some (.int .i64 0) := by rw [← hw3]; simp [go_sem]
  have p7 : W3.cell? ⟨w2.heap.size + 1, 7, none⟩ = some (.int .i64 0) := by rw [← hw3]; simp [go_sem]
  have p8 : W3.cell? ⟨w2.heap.size + 1, 8, none⟩ = some (.int .i64 1) := by rw [← hw3]; simp [go_sem]
  have p9 : W3.cell? ⟨w2.heap.size + 1, 9, none⟩ = some (.bool false) := by rw [← hw3]; simp [go_sem]
  have p10 : W3.cell? ⟨w2.heap.size + 1, 10, none⟩ = some (.bool false) := by rw [← hw3]; simp [go_sem]
  have p11 : W3.cell? ⟨w2.heap.size + 1, 11, none⟩ = some (.bool false) := by rw [← hw3]; simp [go_sem]
  have fm : ∀ j, W3.frozen? ⟨w2.heap.size, j, none⟩ = false := fun j => by rw [← hw3]; exact (World.frozen?_of_block (a := ⟨w2.heap.size, j, none⟩) (Below.heap_alloc _ _ _ (by simp))).trans (frozen_of_row _ _ j _ _ (heap_alloc_new w2 _))
  have fp : ∀ j, W3.frozen? ⟨w2.heap.size + 1, j, none⟩ = false := fun j => by rw [← hw3]; exact frozen_of_row _ _ j _ _ (heap_alloc_new2 w2 _ _)
  have c0 : W3.cell? ⟨b, 0, none⟩ = some (.int .i64 8) := (cell_of_row _ _ _ _ _ (0, 0) gb3).trans rfl
  have c1 : W3.cell? ⟨b, 1, none⟩ = some (.bool false) := (cell_of_row _ _ _ _ _ (0, 0) gb3).trans rfl
  have c2 : W3.cell? ⟨b, 2, none⟩ = some (.int .i64 1) := (cell_of_row _ _ _ _ _ (0, 0) gb3).trans rfl
  have c3 : W3.cell? ⟨b, 3, none⟩ = some (.int .i64 1) := (cell_of_row _ _ _ _ _ (0, 0) gb3).trans rfl
  have c4 : W3.cell? ⟨b, 4, none⟩ = some (.slice none 0 0) := (cell_of_row _ _ _ _ _ (0, 0) gb3).trans rfl
  have fb : ∀ j, W3.frozen? ⟨b, j, none⟩ = false := fun j => frozen_of_row _ _ j _ _ gb3
  have hs3 : W3.heap.size = w2.heap.size + 2 := by rw [← hw3]; simp
  have hbl3 : Below w.heap.size w W3 := by rw [← hw3]; exact below_alloc (below_alloc hbl _) _
  clear hw3 gb hbl
  refine (W0.out _).mono ?_
  rintro e w4 ⟨rfl, rfl⟩
  clear W0
  have g4 := (Below.heap_setCell W3 ⟨w2.heap.size + 1, 8, none⟩ (.int .i64 9) b (by simp only; omega)).trans gb3
  have hc4 : CompsAt (W3.setCell ⟨w2.heap.size + 1, 8, none⟩ (.int .i64 9)) (W3.setCell ⟨w2.heap.size + 1, 8, none⟩ (.int .i64 9)).heap.size (some ⟨b, 0, none⟩) 1 (fun _ => ⟨8, false, 1, 1, none, 0, 0⟩) := comps1 g4 (by simp; omega) rfl
  have FR := frame_any 20 20 3 3 _ 1 1 (fun _ => ⟨8, false, 1, 1, none, 0, 0⟩) 64 64 2 4 4 15 0 0 9 false false false _ hc4 (by omega)
  have fe : frameE 20 20 3 3 1 (fun _ => ⟨8, false, 1, 1, none, 0, 0⟩) 64 64 2 4 4 15 0 0 9 false = 1 := by decide
  rw [fe] at FR
  unfold imgV parV at FR
  have hb4 : Below w.heap.size w (W3.setCell ⟨w2.heap.size + 1, 8, none⟩ (.int .i64 9)) := hbl3.setCell (p := ⟨w2.heap.size + 1, 8, none⟩) (by simp only; omega) _
  have FR := Lib.hid FR
  clear fe hc4 g4 gb3
  go_wp2_with fail
  refine FR.out.mono ?_
  rintro e w5 ⟨rfl, hb5⟩
  go_wp2_with fail
  go_ret
  exact ⟨rfl, below_trans hb4 hb5⟩
end Go.Proofs.Ytmieoifagnpbiaa
