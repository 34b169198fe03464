/- CONTRACT of dwt.parts: the four parts of a rectangle. -/
import Derived.Test.YtmcdhdofgaoadaaRect
namespace Go.Proofs.Ytmcdhdofgaoadaa
open Go.RowKit
set_option maxHeartbeats 4000000
set_option linter.unusedVariables false
set_option linter.unusedSimpArgs false

def partsV (a b c d : Int) : Value := .agg #[.int .i64 0, .int .i64 0, .int .i64 a, .int .i64 b, .int .i64 a, .int .i64 0, .int .i64 c, .int .i64 b, .int .i64 0, .int .i64 b, .int .i64 a, .int .i64 d, .int .i64 a, .int .i64 b, .int .i64 c, .int .i64 d]
theorem parts_any (x y W H : Nat) (hx : x ≤ 1099511627776) (hy : y ≤ 1099511627776) (hW : W ≤ 1099511627776) (hH : H ≤ 1099511627776) (w : World) :
    Calls Try.prog 28 #[rectV x y W H] w fun e w' => e = .returned (partsV (low W (x % 2) : Nat) (low H (y % 2) : Nat) W H) ∧ Below w.heap.size w w' := by
  have hS := sides_any x y W H hx hy hW hH
  have hD := halved_any x y W H hx hy hW hH
  have hL1 := @low_le W (x % 2) (by omega)
  have hL2 := @low_le H (y % 2) (by omega)
  have hT := sides_any (hf x) (hf y) (low W (x % 2)) (low H (y % 2)) (by unfold hf; omega) (by unfold hf; omega) (by omega) (by omega)
  obtain ⟨V2, hV2⟩ : ∃ V2, rectV (hf x) (hf y) (low W (x % 2)) (low H (y % 2)) = .agg V2 := ⟨_, rfl⟩
  rw [hV2] at hD hT
  unfold partsV
  generalize hla : ((low W (x % 2) : Nat) : Int) = a at *
  generalize hlb : ((low H (y % 2) : Nat) : Int) = b at *
  generalize hlc : (W : Int) = c at *
  generalize hld : (H : Int) = d at *
  unfold rectV at hS hD ⊢
  rw [hlc, hld] at hS hD ⊢
  have HS := Lib.hid hS
  have HD := Lib.hid hD
  have HT := Lib.hid hT
  clear hS hD hT hV2 hla hlb hlc hld
  go_enter Try.func28, Try.ntmps28
  go_wp2_with fail
  generalize hw2 : World.alloc (World.alloc w _) _ = w2
  have c0 : w2.cell? ⟨w.heap.size, 0, none⟩ = some (.int .i64 x) := by rw [← hw2]; simp
  have c1 : w2.cell? ⟨w.heap.size, 1, none⟩ = some (.int .i64 y) := by rw [← hw2]; simp
  have c2 : w2.cell? ⟨w.heap.size, 2, none⟩ = some (.int .i64 ((x : Int) + c)) := by rw [← hw2]; simp
  have c3 : w2.cell? ⟨w.heap.size, 3, none⟩ = some (.int .i64 ((y : Int) + d)) := by rw [← hw2]; simp
  have hlt : w.heap.size + 1 < w2.heap.size := by rw [← hw2]; simp
  have hB : Below w.heap.size w w2 := by rw [← hw2]; exact below_alloc (below_alloc (Below.refl _ _) _) _
  have rr : ∃ cs : Array Value, cs.size = 16 ∧ w2.heap[w.heap.size + 1]? = some (.cells cs 48 (0, 0)) := by rw [← hw2]; refine ⟨_, ?_, heap_alloc_new2 w _ _⟩; rfl
  clear hw2
  refine (HS.out _).mono ?_
  rintro e w3 ⟨rfl, hb3⟩
  have c0 := (hb3.cell (p := ⟨w.heap.size, 0, none⟩) (Nat.lt_of_succ_lt hlt)).trans c0
  have c1 := (hb3.cell (p := ⟨w.heap.size, 1, none⟩) (Nat.lt_of_succ_lt hlt)).trans c1
  have c2 := (hb3.cell (p := ⟨w.heap.size, 2, none⟩) (Nat.lt_of_succ_lt hlt)).trans c2
  have c3 := (hb3.cell (p := ⟨w.heap.size, 3, none⟩) (Nat.lt_of_succ_lt hlt)).trans c3
  go_wp2_with fail
  refine (HD.out _).mono ?_
  rintro e w4 ⟨rfl, hb4⟩
  go_wp2_with fail
  refine (HT.out _).mono ?_
  rintro e w5 ⟨rfl, hb5⟩
  have hbb := below_trans (below_trans hb3 hb4) hb5
  have hB := below_trans hB hbb
  obtain ⟨cs, hcs, rr⟩ := rr
  have rr5 := (hbb.block _ hlt).trans rr
  have du : ∀ k, k < 16 → ∃ u, w5.cell? ⟨w.heap.size + 1, k, none⟩ = some u := fun k hk => ⟨cs[k]'(by omega), by simp [World.cell?, rr5, show k < cs.size by omega]⟩
  obtain ⟨u0, d0⟩ := du 0 (by omega)
  obtain ⟨u1, d1⟩ := du 1 (by omega)
  obtain ⟨u2, d2⟩ := du 2 (by omega)
  obtain ⟨u3, d3⟩ := du 3 (by omega)
  obtain ⟨u4, d4⟩ := du 4 (by omega)
  obtain ⟨u5, d5⟩ := du 5 (by omega)
  obtain ⟨u6, d6⟩ := du 6 (by omega)
  obtain ⟨u7, d7⟩ := du 7 (by omega)
  obtain ⟨u8, d8⟩ := du 8 (by omega)
  obtain ⟨u9, d9⟩ := du 9 (by omega)
  obtain ⟨u10, d10⟩ := du 10 (by omega)
  obtain ⟨u11, d11⟩ := du 11 (by omega)
  obtain ⟨u12, d12⟩ := du 12 (by omega)
  obtain ⟨u13, d13⟩ := du 13 (by omega)
  obtain ⟨u14, d14⟩ := du 14 (by omega)
  obtain ⟨u15, d15⟩ := du 15 (by omega)
  have dz : ∀ k, w5.frozen? ⟨w.heap.size + 1, k, none⟩ = false := fun k => by simp [World.frozen?, rr5]
  have bz := ((((((((((((((((hB.setCell (p := ⟨w.heap.size + 1, 0, none⟩) (Nat.le_succ _) (.int .i64 (0 : Int))).setCell (p := ⟨w.heap.size + 1, 1, none⟩) (Nat.le_succ _) (.int .i64 (0 : Int))).setCell (p := ⟨w.heap.size + 1, 2, none⟩) (Nat.le_succ _) (.int .i64 (a : Int))).setCell (p := ⟨w.heap.size + 1, 3, none⟩) (Nat.le_succ _) (.int .i64 (b : Int))).setCell (p := ⟨w.heap.size + 1, 4, none⟩) (Nat.le_succ _) (.int .i64 (a : Int))).setCell (p := ⟨w.heap.size + 1, 5, none⟩) (Nat.le_succ _) (.int .i64 (0 : Int))).setCell (p := ⟨w.heap.size + 1, 6, none⟩) (Nat.le_succ _) (.int .i64 (c : Int))).setCell (p := ⟨w.heap.size + 1, 7, none⟩) (Nat.le_succ _) (.int .i64 (b : Int))).setCell (p := ⟨w.heap.size + 1, 8, none⟩) (Nat.le_succ _) (.int .i64 (0 : Int))).setCell (p := ⟨w.heap.size + 1, 9, none⟩) (Nat.le_succ _) (.int .i64 (b : Int))).setCell (p := ⟨w.heap.size + 1, 10, none⟩) (Nat.le_succ _) (.int .i64 (a : Int))).setCell (p := ⟨w.heap.size + 1, 11, none⟩) (Nat.le_succ _) (.int .i64 (d : Int))).setCell (p := ⟨w.heap.size + 1, 12, none⟩) (Nat.le_succ _) (.int .i64 (a : Int))).setCell (p := ⟨w.heap.size + 1, 13, none⟩) (Nat.le_succ _) (.int .i64 (b : Int))).setCell (p := ⟨w.heap.size + 1, 14, none⟩) (Nat.le_succ _) (.int .i64 (c : Int))).setCell (p := ⟨w.heap.size + 1, 15, none⟩) (Nat.le_succ _) (.int .i64 (d : Int)))
  clear hb3 hb4 hb5 hbb rr rr5 du hB c0 c1 c2 c3 HS HD HT
  go_wp2_with fail
  refine bodyPost_ret (v := .agg #[.int .i64 0, .int .i64 0, .int .i64 a, .int .i64 b, .int .i64 a, .int .i64 0, .int .i64 c, .int .i64 b, .int .i64 0, .int .i64 b, .int .i64 a, .int .i64 d, .int .i64 a, .int .i64 b, .int .i64 c, .int .i64 d]) (by simp [results, Try.results28, go_sem, d0, d1, d2, d3, d4, d5, d6, d7, d8, d9, d10, d11, d12, d13, d14, d15]) rfl ⟨rfl, bz⟩
end Go.Proofs.Ytmcdhdofgaoadaa
