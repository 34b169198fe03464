/- CONTRACTS of waveletlaw12.known and one. -/
import Derived.Test.YtmieoifagnpbiaaTiles
namespace Go.Proofs.Ytmieoifagnpbiaa
open Go.RowKit
set_option maxHeartbeats 4000000
set_option linter.unusedVariables false
set_option linter.unusedSimpArgs false

def compL (d : CompD) : List Value := [.int .i64 d.dp, .bool d.sg, .int .i64 d.dx, .int .i64 d.dy, .slice d.A d.n d.c]
def comp8 : CompD := ⟨8, false, 1, 1, none, 0, 0⟩
theorem comps_of_cells {w : World} {B : Nat} {A : Option Addr} {n : Nat} {F : Nat → CompD} (h : CellsAt w B A 5 n (fun k => compL (F k))) : CompsAt w B A n F := fun h0 => by
  obtain ⟨b, off, rfl, hlt, hk⟩ := h h0
  refine ⟨b, off, rfl, hlt, fun k hkn => ?_⟩
  have h := hk k hkn
  exact ⟨h 0 _ rfl, h 1 _ rfl, h 2 _ rfl, h 3 _ rfl, h 4 _ rfl⟩
theorem comps_block {w : World} {b B : Nat} {cs : Array Value} {T : TypeId} {n : Nat} {F : Nat → CompD} (h : w.heap[b]? = some (.cells cs T (0, 0))) (hB : b < B) (hc : ∀ k, k < n → ∀ j, j < 5 → cs[k * 5 + j]? = (compL (F k))[j]?) : CompsAt w B (some ⟨b, 0, none⟩) n F :=
  comps_of_cells fun _ => ⟨b, 0, rfl, hB, fun k hk j u hu => by
    have hj : j < 5 := by
      rcases Nat.lt_or_ge j 5 with h | h
      · exact h
      · rw [List.getElem?_eq_none (by simpa [compL] using h)] at hu; cases hu
    rw [Nat.zero_add, cell_of_row _ _ _ cs T (0, 0) h, hc k hk j hj, hu]⟩

theorem comp8_cells : ∀ k, k < 1 → ∀ j, j < 5 → (#[.int .i64 8, .bool false, .int .i64 1, .int .i64 1, .slice none 0 0] : Array Value)[k * 5 + j]? = (compL comp8)[j]? := fun k hk j hj => by
  obtain rfl : k = 0 := by omega
  match j, hj with
  | 0, _ => rfl
  | 1, _ => rfl
  | 2, _ => rfl
  | 3, _ => rfl
  | 4, _ => rfl
set_option maxRecDepth 100000 in
theorem known12 (w : World) : Calls Try.prog 10 #[] w fun e w' => e = .returned (.bool true) ∧ Below w.heap.size w w' := by
  have T1 := Lib.hid (fun (v : World) (A : Option Addr) (h : CompsAt v v.heap.size A 1 (fun _ => comp8)) => tiles_any 5 3 0 0 A 1 1 (fun _ => comp8) 4 4 0 2 2 1 0 0 1 false false false v h (by omega) (by decide) 2 1 (by decide) (by decide))
  have T2 := Lib.hid (fun (v : World) (A : Option Addr) (h : CompsAt v v.heap.size A 1 (fun _ => comp8)) => frame_any 5 3 0 0 A 1 1 (fun _ => comp8) 4 4 0 2 2 1 0 0 1 false false false v h (by omega))
  have hfe : frameE 5 3 0 0 1 (fun _ => comp8) 4 4 0 2 2 1 0 0 1 false = 0 := by decide
  rw [hfe] at T2
  clear hfe
  unfold imgV parV at *
  go_enter Try.func10, Try.ntmps10
  go_wp2_with fail
  generalize hw0 : World.alloc (World.alloc (World.alloc w _) _) _ = W0
  have g0 : W0.heap[w.heap.size]? = some (.cells #[.int .i64 8, .bool false, .int .i64 1, .int .i64 1, .slice none 0 0] 34 (0, 0)) := by rw [← hw0]; exact (Below.heap_alloc _ _ _ (by simp; omega)).trans ((Below.heap_alloc _ _ _ (by simp)).trans (heap_alloc_new w _))
  have m0 : W0.cell? ⟨w.heap.size + 1, 0, none⟩ = some (.int .i64 5) := by rw [← hw0]; simp [go_sem]
  have m1 : W0.cell? ⟨w.heap.size + 1, 1, none⟩ = some (.int .i64 3) := by rw [← hw0]; simp [go_sem]
  have m2 : W0.cell? ⟨w.heap.size + 1, 2, none⟩ = some (.int .i64 0) := by rw [← hw0]; simp [go_sem]
  have m3 : W0.cell? ⟨w.heap.size + 1, 3, none⟩ = some (.int .i64 0) := by rw [← hw0]; simp [go_sem]
  have m4 : W0.cell? ⟨w.heap.size + 1, 4, none⟩ = some (.slice (some ⟨w.heap.size, 0, none⟩) 1 1) := by rw [← hw0]; simp [go_sem]
  have p0 : W0.cell? ⟨w.heap.size + 1 + 1, 0, none⟩ = some (.int .i64 4) := by rw [← hw0]; simp [go_sem]
  have p1 : W0.cell? ⟨w.heap.size + 1 + 1, 1, none⟩ = some (.int .i64 4) := by rw [← hw0]; simp [go_sem]
  have p2 : W0.cell? ⟨w.heap.size + 1 + 1, 2, none⟩ = some (.int .i64 0) := by rw [← hw0]; simp [go_sem]
  have p3 : W0.cell? ⟨w.heap.size + 1 + 1, 3, none⟩ = some (.int .i64 2) := by rw [← hw0]; simp [go_sem]
  have p4 : W0.cell? ⟨w.heap.size + 1 + 1, 4, none⟩ = some (.int .i64 2) := by rw [← hw0]; simp [go_sem]
  have p5 : W0.cell? ⟨w.heap.size + 1 + 1, 5, none⟩ = some (.int .i64 1) := by rw [← hw0]; simp [go_sem]
  have p6 : W0.cell? ⟨w.heap.size + 1 + 1, 6, none⟩ = some (.int .i64 0) := by rw [← hw0]; simp [go_sem]
  have p7 : W0.cell? ⟨w.heap.size + 1 + 1, 7, none⟩ = some (.int .i64 0) := by rw [← hw0]; simp [go_sem]
  have p8 : W0.cell? ⟨w.heap.size + 1 + 1, 8, none⟩ = some (.int .i64 1) := by rw [← hw0]; simp [go_sem]
  have p9 : W0.cell? ⟨w.heap.size + 1 + 1, 9, none⟩ = some (.bool false) := by rw [← hw0]; simp [go_sem]
  have p10 : W0.cell? ⟨w.heap.size + 1 + 1, 10, none⟩ = some (.bool false) := by rw [← hw0]; simp [go_sem]
  have p11 : W0.cell? ⟨w.heap.size + 1 + 1, 11, none⟩ = some (.bool false) := by rw [← hw0]; simp [go_sem]
  have hlt : w.heap.size + 1 + 1 < W0.heap.size := by rw [← hw0]; simp
  have hbl : Below w.heap.size w W0 := by rw [← hw0]; exact below_alloc (below_alloc (below_alloc (Below.refl _ _) _) _) _
  clear hw0
  have hc0 : CompsAt W0 W0.heap.size (some ⟨w.heap.size, 0, none⟩) 1 (fun _ => comp8) := comps_block (F := fun _ => comp8) g0 (by omega) comp8_cells
  refine (T1.out _ _ hc0).mono ?_
  rintro e W1 ⟨A', c', rfl, _, hb1⟩
  have hc1 := (hc0.below hb1).more hb1.size
  have hbl1 := below_trans hbl hb1
  have m0 := (hb1.cell (p := ⟨w.heap.size + 1, 0, none⟩) (by simp only; omega)).trans m0
  have m1 := (hb1.cell (p := ⟨w.heap.size + 1, 1, none⟩) (by simp only; omega)).trans m1
  have m2 := (hb1.cell (p := ⟨w.heap.size + 1, 2, none⟩) (by simp only; omega)).trans m2
  have m3 := (hb1.cell (p := ⟨w.heap.size + 1, 3, none⟩) (by simp only; omega)).trans m3
  have m4 := (hb1.cell (p := ⟨w.heap.size + 1, 4, none⟩) (by simp only; omega)).trans m4
  have p0 := (hb1.cell (p := ⟨w.heap.size + 1 + 1, 0, none⟩) hlt).trans p0
  have p1 := (hb1.cell (p := ⟨w.heap.size + 1 + 1, 1, none⟩) hlt).trans p1
  have p2 := (hb1.cell (p := ⟨w.heap.size + 1 + 1, 2, none⟩) hlt).trans p2
  have p3 := (hb1.cell (p := ⟨w.heap.size + 1 + 1, 3, none⟩) hlt).trans p3
  have p4 := (hb1.cell (p := ⟨w.heap.size + 1 + 1, 4, none⟩) hlt).trans p4
  have p5 := (hb1.cell (p := ⟨w.heap.size + 1 + 1, 5, none⟩) hlt).trans p5
  have p6 := (hb1.cell (p := ⟨w.heap.size + 1 + 1, 6, none⟩) hlt).trans p6
  have p7 := (hb1.cell (p := ⟨w.heap.size + 1 + 1, 7, none⟩) hlt).trans p7
  have p8 := (hb1.cell (p := ⟨w.heap.size + 1 + 1, 8, none⟩) hlt).trans p8
  have p9 := (hb1.cell (p := ⟨w.heap.size + 1 + 1, 9, none⟩) hlt).trans p9
  have p10 := (hb1.cell (p := ⟨w.heap.size + 1 + 1, 10, none⟩) hlt).trans p10
  have p11 := (hb1.cell (p := ⟨w.heap.size + 1 + 1, 11, none⟩) hlt).trans p11
  clear hb1 hc0 hbl g0
  go_wp2_with fail
  refine (T2.out _ _ hc1).mono ?_
  rintro e W2 ⟨rfl, hb2⟩
  go_wp2_with fail
  go_ret
  exact ⟨rfl, below_trans hbl1 hb2⟩
theorem one_any (x y ox oy : Int) (w : World) :
    Calls Try.prog 11 #[.int .i64 x, .int .i64 y, .int .i64 ox, .int .i64 oy] w fun e w' => ∃ b, e = .returned (.tuple #[.agg #[.int .i64 x, .int .i64 y, .int .i64 ox, .int .i64 oy, .slice (some ⟨b, 0, none⟩) 1 1], parV 64 64 2 4 4 15 0 0 1 false false false]) ∧
      w'.heap[b]? = some (.cells #[.int .i64 8, .bool false, .int .i64 1, .int .i64 1, .slice none 0 0] 34 (0, 0)) ∧ w.heap.size ≤ b ∧ Below w.heap.size w w' := by
  go_enter Try.func11, Try.ntmps11
  go_wp2_with fail
  generalize hw0 : World.alloc (World.alloc (World.alloc (World.alloc w _) _) _) _ = W0
  have g0 : W0.heap[w.heap.size + 1 + 1]? = some (.cells #[.int .i64 8, .bool false, .int .i64 1, .int .i64 1, .slice none 0 0] 34 (0, 0)) := by
    rw [← hw0]
    refine (Below.heap_alloc _ _ _ (by simp)).trans ?_
    have := heap_alloc_new2 (w.alloc (.cells #[.int .i64 x, .int .i64 y, .int .i64 ox, .int .i64 oy, .slice (some ⟨w.heap.size + 1 + 1, 0, none⟩) 1 1] 25)) (.cells #[.int .i64 64, .int .i64 64, .int .i64 2, .int .i64 4, .int .i64 4, .int .i64 15, .int .i64 0, .int .i64 0, .int .i64 1, .bool false, .bool false, .bool false] 27) (.cells #[.int .i64 8, .bool false, .int .i64 1, .int .i64 1, .slice none 0 0] 34)
    rw [World.size_alloc] at this
    exact this
  have m0 : W0.cell? ⟨w.heap.size, 0, none⟩ = some (.int .i64 x) := by rw [← hw0]; simp [go_sem]
  have m1 : W0.cell? ⟨w.heap.size, 1, none⟩ = some (.int .i64 y) := by rw [← hw0]; simp [go_sem]
  have m2 : W0.cell? ⟨w.heap.size, 2, none⟩ = some (.int .i64 ox) := by rw [← hw0]; simp [go_sem]
  have m3 : W0.cell? ⟨w.heap.size, 3, none⟩ = some (.int .i64 oy) := by rw [← hw0]; simp [go_sem]
  have m4 : W0.cell? ⟨w.heap.size, 4, none⟩ = some (.slice (some ⟨w.heap.size + 1 + 1, 0, none⟩) 1 1) := by rw [← hw0]; simp [go_sem]
  have p0 : W0.cell? ⟨w.heap.size + 1, 0, none⟩ = some (.int .i64 64) := by rw [← hw0]; simp [go_sem]
  have p1 : W0.cell? ⟨w.heap.size + 1, 1, none⟩ = some (.int .i64 64) := by rw [← hw0]; simp [go_sem]
  have p2 : W0.cell? ⟨w.heap.size + 1, 2, none⟩ = some (.int .i64 2) := by rw [← hw0]; simp [go_sem]
  have p3 : W0.cell? ⟨w.heap.size + 1, 3, none⟩ = some (.int .i64 4) := by rw [← hw0]; simp [go_sem]
  have p4 : W0.cell? ⟨w.heap.size + 1, 4, none⟩ = some (.int .i64 4) := by rw [← hw0]; simp [go_sem]
  have p5 : W0.cell? ⟨w.heap.size + 1, 5, none⟩ = some (.int .i64 15) := by rw [← hw0]; simp [go_sem]
  have p6 : W0.cell? ⟨w.heap.size + 1, 6, none⟩ = some (.int .i64 0) := by rw [← hw0]; simp [go_sem]
  have p7 : W0.cell? ⟨w.heap.size + 1, 7, none⟩ = some (.int .i64 0) := by rw [← hw0]; simp [go_sem]
  have p8 : W0.cell? ⟨w.heap.size + 1, 8, none⟩ = some (.int .i64 1) := by rw [← hw0]; simp [go_sem]
  have p9 : W0.cell? ⟨w.heap.size + 1, 9, none⟩ = some (.bool false) := by rw [← hw0]; simp [go_sem]
  have p10 : W0.cell? ⟨w.heap.size + 1, 10, none⟩ = some (.bool false) := by rw [← hw0]; simp [go_sem]
  have p11 : W0.cell? ⟨w.heap.size + 1, 11, none⟩ = some (.bool false) := by rw [← hw0]; simp [go_sem]
  have hbl : Below w.heap.size w W0 := by rw [← hw0]; exact below_alloc (below_alloc (below_alloc (below_alloc (Below.refl _ _) _) _) _) _
  clear hw0
  refine bodyPost_ret (v := .tuple #[.agg #[.int .i64 x, .int .i64 y, .int .i64 ox, .int .i64 oy, .slice (some ⟨w.heap.size + 1 + 1, 0, none⟩) 1 1], parV 64 64 2 4 4 15 0 0 1 false false false]) (by simp [results, Try.results11, go_sem, parV, m0, m1, m2, m3, m4, p0, p1, p2, p3, p4, p5, p6, p7, p8, p9, p10, p11]) rfl ⟨_, rfl, g0, by omega, hbl⟩
end Go.Proofs.Ytmieoifagnpbiaa
