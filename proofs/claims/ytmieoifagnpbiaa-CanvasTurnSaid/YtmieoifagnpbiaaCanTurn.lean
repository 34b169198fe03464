/- THE WALK OF CanvasTurn. -/
import Derived.Test.YtmieoifagnpbiaaCanRows
import Derived.Test.YtmieoifagnpbiaaHeld
import Derived.Deep.LoopGhost
namespace Go.Proofs.Ytmieoifagnpbiaa
open Go.RowKit
set_option maxHeartbeats 4000000
set_option linter.unusedVariables false
set_option linter.unusedSimpArgs false
set_option maxRecDepth 100000

theorem turn_1 (comps at_ which : Int) (hc : comps % 4 = 0) (hk : which % 5 = 0 ∨ which % 5 = 1 ∨ which % 5 = 2 ∨ which % 5 = 3 ∨ which % 5 = 4) (w : World) : Calls Try.prog 4 #[.int .i64 comps, .int .i64 at_, .int .i64 which] w fun e w' => e = .returned (.bool true) ∧ Below w.heap.size w w' := by
  have W0 := Lib.hid (fun (v : World) => by have := within12 comps 4 (by omega) (by omega) v; rw [hc] at this; exact this)
  have W1 := Lib.hid (fun (v : World) => by have := within12 at_ 1 (by omega) (by omega) v; exact this)
  have W2 := Lib.hid (fun (v : World) => by have := within12 which 5 (by omega) (by omega) v; exact this)
  have K := Lib.hid hk
  clear hk
  go_enter Try.func4, Try.ntmps4
  go_wp2_with fail
  refine (known12 _).mono ?_
  rintro e w1 ⟨rfl, hb1⟩
  go_wp2_with fail
  refine (W0.out _).mono ?_
  rintro e w1' ⟨rfl, rfl⟩
  go_wp2_with fail
  refine (one_any 8 8 0 0 _).mono ?_
  rintro e w2 ⟨b, rfl, gb, hbb, hb2⟩
  unfold parV
  have hbl := below_trans hb1 hb2
  have hlt : b < w2.heap.size := (Array.getElem?_eq_some_iff.1 gb).1
  have hws := hbl.size
  have hwb := Nat.le_trans hb1.size hbb
  clear hb1 hb2 hbb W0
  go_wp2_with fail
  generalize hw3 : World.alloc (World.alloc w2 _) _ = W3
  have gb3 : W3.heap[b]? = some (.cells #[.int .i64 8, .bool false, .int .i64 1, .int .i64 1, .slice none 0 0] 34 (0, 0)) := by rw [← hw3]; exact (Below.heap_alloc _ _ _ (by simp; omega)).trans ((Below.heap_alloc _ _ _ (by omega)).trans gb)
  have gm3 : W3.heap[w2.heap.size]? = some (.cells #[.int .i64 8, .int .i64 8, .int .i64 0, .int .i64 0, .slice (some ⟨b, 0, none⟩) 1 1] 25 (0, 0)) := by rw [← hw3]; exact (Below.heap_alloc _ _ _ (by simp)).trans (heap_alloc_new w2 _)
  have gp3 : W3.heap[w2.heap.size + 1]? = some (.cells #[.int .i64 64, .int .i64 64, .int .i64 2, .int .i64 4, .int .i64 4, .int .i64 15, .int .i64 0, .int .i64 0, .int .i64 1, .bool false, .bool false, .bool false] 27 (0, 0)) := by rw [← hw3]; exact heap_alloc_new2 w2 _ _
  have hbl3 : Below w.heap.size w W3 := by rw [← hw3]; exact below_alloc (below_alloc hbl _) _
  have o0 : OwnC W3 w.heap.size 34 5 (.slice (some ⟨b, 0, none⟩) 1 1) 1 (fun _ => compL comp8) := OwnC.of_block gb3 hwb (fun _ => rfl) (by unfold maxLen; omega) rfl
  clear hw3 gb gb3 hbl
  obtain ⟨q, hq⟩ : ∃ q, w2.heap.size = q := ⟨_, rfl⟩
  rw [hq] at gm3 gp3 hws
  rw [hq]
  clear hq hlt hwb
  go_loopg [] 0 (fun k wr => ∃ (j : Nat) (X : Option Addr) (cx : Nat), 1 ≤ j ∧ j ≤ 1 ∧ k + j = 1 ∧ wr.heap[q]? = some (.cells #[.int .i64 8, .int .i64 8, .int .i64 0, .int .i64 0, .slice X j cx] 25 (0, 0)) ∧ wr.heap[q + 1]? = some (.cells #[.int .i64 64, .int .i64 64, .int .i64 2, .int .i64 4, .int .i64 4, .int .i64 15, .int .i64 0, .int .i64 0, .int .i64 1, .bool false, .bool false, .bool false] 27 (0, 0)) ∧ OwnC wr w.heap.size 34 5 (.slice X j cx) j (fun _ => compL comp8) ∧ Below w.heap.size w wr)
  case atStart => exact ⟨1, _, 1, by omega, by omega, rfl, gm3, gp3, o0, hbl3⟩
  case round =>
    obtain ⟨j, X, cx, h1, h2, hkj, gm, gp, own, hbel⟩ := hrel
    have m := fun i => cell_of_row _ _ i _ _ (0, 0) gm
    have m4 : wr.cell? ⟨q, 4, none⟩ = some (.slice X j cx) := m 4
    have hqp := (Array.getElem?_eq_some_iff.1 gp).1
    have hqs := (Array.getElem?_eq_some_iff.1 gm).1
    by_cases hlt : j < 1
    · exact absurd hlt (by omega)
    · obtain rfl : j = 1 := by omega
      obtain ⟨g, rfl, hgb, hgl⟩ := own.row (by omega)
      have fp9 : wr.frozen? ⟨q + 1, 9, none⟩ = false := frozen_of_row _ _ 9 _ _ gp
      have p9 : wr.cell? ⟨q + 1, 9, none⟩ = some (.bool false) := (cell_of_row _ _ 9 _ _ (0, 0) gp)
      clear m
      go_wp2_with fail
      have gp1 := heap_set_same (j := 9) gp (.bool true)
      have gm1 := (Below.heap_setCell wr ⟨q + 1, 9, none⟩ (.bool true) q (by simp only; omega)).trans gm
      have own1 := own.other (a := ⟨q + 1, 9, none⟩) (own.ne_block gp (by decide)) (.bool true)
      have hb1 := hbel.setCell (p := ⟨q + 1, 9, none⟩) (by simp only; omega) (.bool true)
      clear own gp gm fp9 p9 m4 hbel hgl hqs hqp
      generalize wr.setCell ⟨q + 1, 9, none⟩ (.bool true) = V1 at *
      have hgq : g ≠ q := fun h => own1.ne_block gm1 (by decide) (by rw [h]; rfl)
      have hgp : g ≠ q + 1 := fun h => own1.ne_block gp1 (by decide) (by rw [h]; rfl)
      have m := fun i => cell_of_row _ _ i _ _ (0, 0) gm1
      have p := fun i => cell_of_row _ _ i _ _ (0, 0) gp1
      have m0 : V1.cell? ⟨q, 0, none⟩ = some (.int .i64 8) := m 0
      have m1 : V1.cell? ⟨q, 1, none⟩ = some (.int .i64 8) := m 1
      have m2 : V1.cell? ⟨q, 2, none⟩ = some (.int .i64 0) := m 2
      have m3 : V1.cell? ⟨q, 3, none⟩ = some (.int .i64 0) := m 3
      have m4 : V1.cell? ⟨q, 4, none⟩ = some (.slice (some ⟨g, 0, none⟩) 1 cx) := m 4
      have p0 : V1.cell? ⟨q + 1, 0, none⟩ = some (.int .i64 64) := p 0
      have p1 : V1.cell? ⟨q + 1, 1, none⟩ = some (.int .i64 64) := p 1
      have p2 : V1.cell? ⟨q + 1, 2, none⟩ = some (.int .i64 2) := p 2
      have p3 : V1.cell? ⟨q + 1, 3, none⟩ = some (.int .i64 4) := p 3
      have p4 : V1.cell? ⟨q + 1, 4, none⟩ = some (.int .i64 4) := p 4
      have p5 : V1.cell? ⟨q + 1, 5, none⟩ = some (.int .i64 15) := p 5
      have p6 : V1.cell? ⟨q + 1, 6, none⟩ = some (.int .i64 0) := p 6
      have p7 : V1.cell? ⟨q + 1, 7, none⟩ = some (.int .i64 0) := p 7
      have p8 : V1.cell? ⟨q + 1, 8, none⟩ = some (.int .i64 1) := p 8
      have p9 : V1.cell? ⟨q + 1, 9, none⟩ = some (.bool true) := p 9
      have p10 : V1.cell? ⟨q + 1, 10, none⟩ = some (.bool false) := p 10
      have p11 : V1.cell? ⟨q + 1, 11, none⟩ = some (.bool false) := p 11
      refine (W1.out _).mono ?_
      rintro e w6 ⟨rfl, rfl⟩
      clear W1 m p
      have hk2 : at_ % 1 = 0 := by omega
      rcases hk2 with hk2
      · rw [hk2]
        clear hk2
        go_wp2_with fail
        refine (W2.out _).mono ?_
        rintro e w7 ⟨rfl, rfl⟩
        clear W2
        rcases K.out with hk3 | hk3 | hk3 | hk3 | hk3
        · rw [hk3]
          clear hk3
          have cf : V1.cell? ⟨g, 0, none⟩ = some (.int .i64 8) := own1.at_.cells (k := 0) (j := 0) (by omega) rfl
          have ff : V1.frozen? ⟨g, 0, none⟩ = false := own1.frozen _
          have own2 := own1.stored (k := 0) (j := 0) (by omega) (by omega) (.int .i64 9)
          have hc2 : CompsAt (V1.setCell ⟨g, 0, none⟩ (.int .i64 9)) (V1.setCell ⟨g, 0, none⟩ (.int .i64 9)).heap.size (some ⟨g, 0, none⟩) 1 (fun i => if i = 0 then (⟨9, false, 1, 1, none, 0, 0⟩ : CompD) else comp8) := comps_of_cells (own2.at_.congr (fun i _ => by (try dsimp only); split <;> rfl))
          have hb2 : Below w.heap.size w (V1.setCell ⟨g, 0, none⟩ (.int .i64 9)) := hb1.setCell (p := ⟨g, 0, none⟩) hgb _
          have mm : ∀ i, (V1.setCell ⟨g, 0, none⟩ (.int .i64 9)).cell? ⟨q, i, none⟩ = V1.cell? ⟨q, i, none⟩ := fun i => World.cell?_of_block (Below.heap_setCell _ _ _ _ (fun h => hgq h.symm))
          have pp : ∀ i, (V1.setCell ⟨g, 0, none⟩ (.int .i64 9)).cell? ⟨q + 1, i, none⟩ = V1.cell? ⟨q + 1, i, none⟩ := fun i => World.cell?_of_block (Below.heap_setCell _ _ _ _ (fun h => hgp h.symm))
          have mm0 := (mm 0).trans m0
          have mm1 := (mm 1).trans m1
          have mm2 := (mm 2).trans m2
          have mm3 := (mm 3).trans m3
          have mm4 := (mm 4).trans m4
          have pp0 := (pp 0).trans p0
          have pp1 := (pp 1).trans p1
          have pp2 := (pp 2).trans p2
          have pp3 := (pp 3).trans p3
          have pp4 := (pp 4).trans p4
          have pp5 := (pp 5).trans p5
          have pp6 := (pp 6).trans p6
          have pp7 := (pp 7).trans p7
          have pp8 := (pp 8).trans p8
          have pp9 := (pp 9).trans p9
          have pp10 := (pp 10).trans p10
          have pp11 := (pp 11).trans p11
          clear mm pp own2
          have FR := frame_any 8 8 0 0 _ 1 cx (fun i => if i = 0 then (⟨9, false, 1, 1, none, 0, 0⟩ : CompD) else comp8) 64 64 2 4 4 15 0 0 1 true false false _ hc2 own1.cap.1
          have fe : frameE 8 8 0 0 1 (fun i => if i = 0 then (⟨9, false, 1, 1, none, 0, 0⟩ : CompD) else comp8) 64 64 2 4 4 15 0 0 1 true = 3 := by decide
          rw [fe] at FR
          unfold imgV parV at FR
          have FR := Lib.hid FR
          clear fe hc2 own1 gm1 gp1
          go_wp2_with fail
          refine FR.out.mono ?_
          rintro e w5 ⟨rfl, hb5⟩
          go_wp2_with fail
          go_ret
          exact ⟨rfl, below_trans hb2 hb5⟩
        · rw [hk3]
          clear hk3
          have cf : V1.cell? ⟨g, 1, none⟩ = some (.bool false) := own1.at_.cells (k := 0) (j := 1) (by omega) rfl
          have ff : V1.frozen? ⟨g, 1, none⟩ = false := own1.frozen _
          have own2 := own1.stored (k := 0) (j := 1) (by omega) (by omega) (.bool true)
          have hc2 : CompsAt (V1.setCell ⟨g, 1, none⟩ (.bool true)) (V1.setCell ⟨g, 1, none⟩ (.bool true)).heap.size (some ⟨g, 0, none⟩) 1 (fun i => if i = 0 then (⟨8, true, 1, 1, none, 0, 0⟩ : CompD) else comp8) := comps_of_cells (own2.at_.congr (fun i _ => by (try dsimp only); split <;> rfl))
          have hb2 : Below w.heap.size w (V1.setCell ⟨g, 1, none⟩ (.bool true)) := hb1.setCell (p := ⟨g, 1, none⟩) hgb _
          have mm : ∀ i, (V1.setCell ⟨g, 1, none⟩ (.bool true)).cell? ⟨q, i, none⟩ = V1.cell? ⟨q, i, none⟩ := fun i => World.cell?_of_block (Below.heap_setCell _ _ _ _ (fun h => hgq h.symm))
          have pp : ∀ i, (V1.setCell ⟨g, 1, none⟩ (.bool true)).cell? ⟨q + 1, i, none⟩ = V1.cell? ⟨q + 1, i, none⟩ := fun i => World.cell?_of_block (Below.heap_setCell _ _ _ _ (fun h => hgp h.symm))
          have mm0 := (mm 0).trans m0
          have mm1 := (mm 1).trans m1
          have mm2 := (mm 2).trans m2
          have mm3 := (mm 3).trans m3
          have mm4 := (mm 4).trans m4
          have pp0 := (pp 0).trans p0
          have pp1 := (pp 1).trans p1
          have pp2 := (pp 2).trans p2
          have pp3 := (pp 3).trans p3
          have pp4 := (pp 4).trans p4
          have pp5 := (pp 5).trans p5
          have pp6 := (pp 6).trans p6
          have pp7 := (pp 7).trans p7
          have pp8 := (pp 8).trans p8
          have pp9 := (pp 9).trans p9
          have pp10 := (pp 10).trans p10
          have pp11 := (pp 11).trans p11
          clear mm pp own2
          have FR := frame_any 8 8 0 0 _ 1 cx (fun i => if i = 0 then (⟨8, true, 1, 1, none, 0, 0⟩ : CompD) else comp8) 64 64 2 4 4 15 0 0 1 true false false _ hc2 own1.cap.1
          have fe : frameE 8 8 0 0 1 (fun i => if i = 0 then (⟨8, true, 1, 1, none, 0, 0⟩ : CompD) else comp8) 64 64 2 4 4 15 0 0 1 true = 3 := by decide
          rw [fe] at FR
          unfold imgV parV at FR
          have FR := Lib.hid FR
          clear fe hc2 own1 gm1 gp1
          go_wp2_with fail
          refine FR.out.mono ?_
          rintro e w5 ⟨rfl, hb5⟩
          go_wp2_with fail
          go_ret
          exact ⟨rfl, below_trans hb2 hb5⟩
        · rw [hk3]
          clear hk3
          have cf : V1.cell? ⟨g, 2, none⟩ = some (.int .i64 1) := own1.at_.cells (k := 0) (j := 2) (by omega) rfl
          have ff : V1.frozen? ⟨g, 2, none⟩ = false := own1.frozen _
          have own2 := own1.stored (k := 0) (j := 2) (by omega) (by omega) (.int .i64 2)
          have hc2 : CompsAt (V1.setCell ⟨g, 2, none⟩ (.int .i64 2)) (V1.setCell ⟨g, 2, none⟩ (.int .i64 2)).heap.size (some ⟨g, 0, none⟩) 1 (fun i => if i = 0 then (⟨8, false, 2, 1, none, 0, 0⟩ : CompD) else comp8) := comps_of_cells (own2.at_.congr (fun i _ => by (try dsimp only); split <;> rfl))
          have hb2 : Below w.heap.size w (V1.setCell ⟨g, 2, none⟩ (.int .i64 2)) := hb1.setCell (p := ⟨g, 2, none⟩) hgb _
          have mm : ∀ i, (V1.setCell ⟨g, 2, none⟩ (.int .i64 2)).cell? ⟨q, i, none⟩ = V1.cell? ⟨q, i, none⟩ := fun i => World.cell?_of_block (Below.heap_setCell _ _ _ _ (fun h => hgq h.symm))
          have pp : ∀ i, (V1.setCell ⟨g, 2, none⟩ (.int .i64 2)).cell? ⟨q + 1, i, none⟩ = V1.cell? ⟨q + 1, i, none⟩ := fun i => World.cell?_of_block (Below.heap_setCell _ _ _ _ (fun h => hgp h.symm))
          have mm0 := (mm 0).trans m0
          have mm1 := (mm 1).trans m1
          have mm2 := (mm 2).trans m2
          have mm3 := (mm 3).trans m3
          have mm4 := (mm 4).trans m4
          have pp0 := (pp 0).trans p0
          have pp1 := (pp 1).trans p1
          have pp2 := (pp 2).trans p2
          have pp3 := (pp 3).trans p3
          have pp4 := (pp 4).trans p4
          have pp5 := (pp 5).trans p5
          have pp6 := (pp 6).trans p6
          have pp7 := (pp 7).trans p7
          have pp8 := (pp 8).trans p8
          have pp9 := (pp 9).trans p9
          have pp10 := (pp 10).trans p10
          have pp11 := (pp 11).trans p11
          clear mm pp own2
          have FR := frame_any 8 8 0 0 _ 1 cx (fun i => if i = 0 then (⟨8, false, 2, 1, none, 0, 0⟩ : CompD) else comp8) 64 64 2 4 4 15 0 0 1 true false false _ hc2 own1.cap.1
          have fe : frameE 8 8 0 0 1 (fun i => if i = 0 then (⟨8, false, 2, 1, none, 0, 0⟩ : CompD) else comp8) 64 64 2 4 4 15 0 0 1 true = 3 := by decide
          rw [fe] at FR
          unfold imgV parV at FR
          have FR := Lib.hid FR
          clear fe hc2 own1 gm1 gp1
          go_wp2_with fail
          refine FR.out.mono ?_
          rintro e w5 ⟨rfl, hb5⟩
          go_wp2_with fail
          go_ret
          exact ⟨rfl, below_trans hb2 hb5⟩
        · rw [hk3]
          clear hk3
          have cf : V1.cell? ⟨g, 3, none⟩ = some (.int .i64 1) := own1.at_.cells (k := 0) (j := 3) (by omega) rfl
          have ff : V1.frozen? ⟨g, 3, none⟩ = false := own1.frozen _
          have own2 := own1.stored (k := 0) (j := 3) (by omega) (by omega) (.int .i64 2)
          have hc2 : CompsAt (V1.setCell ⟨g, 3, none⟩ (.int .i64 2)) (V1.setCell ⟨g, 3, none⟩ (.int .i64 2)).heap.size (some ⟨g, 0, none⟩) 1 (fun i => if i = 0 then (⟨8, false, 1, 2, none, 0, 0⟩ : CompD) else comp8) := comps_of_cells (own2.at_.congr (fun i _ => by (try dsimp only); split <;> rfl))
          have hb2 : Below w.heap.size w (V1.setCell ⟨g, 3, none⟩ (.int .i64 2)) := hb1.setCell (p := ⟨g, 3, none⟩) hgb _
          have mm : ∀ i, (V1.setCell ⟨g, 3, none⟩ (.int .i64 2)).cell? ⟨q, i, none⟩ = V1.cell? ⟨q, i, none⟩ := fun i => World.cell?_of_block (Below.heap_setCell _ _ _ _ (fun h => hgq h.symm))
          have pp : ∀ i, (V1.setCell ⟨g, 3, none⟩ (.int .i64 2)).cell? ⟨q + 1, i, none⟩ = V1.cell? ⟨q + 1, i, none⟩ := fun i => World.cell?_of_block (Below.heap_setCell _ _ _ _ (fun h => hgp h.symm))
          have mm0 := (mm 0).trans m0
          have mm1 := (mm 1).trans m1
          have mm2 := (mm 2).trans m2
          have mm3 := (mm 3).trans m3
          have mm4 := (mm 4).trans m4
          have pp0 := (pp 0).trans p0
          have pp1 := (pp 1).trans p1
          have pp2 := (pp 2).trans p2
          have pp3 := (pp 3).trans p3
          have pp4 := (pp 4).trans p4
          have pp5 := (pp 5).trans p5
          have pp6 := (pp 6).trans p6
          have pp7 := (pp 7).trans p7
          have pp8 := (pp 8).trans p8
          have pp9 := (pp 9).trans p9
          have pp10 := (pp 10).trans p10
          have pp11 := (pp 11).trans p11
          clear mm pp own2
          have FR := frame_any 8 8 0 0 _ 1 cx (fun i => if i = 0 then (⟨8, false, 1, 2, none, 0, 0⟩ : CompD) else comp8) 64 64 2 4 4 15 0 0 1 true false false _ hc2 own1.cap.1
          have fe : frameE 8 8 0 0 1 (fun i => if i = 0 then (⟨8, false, 1, 2, none, 0, 0⟩ : CompD) else comp8) 64 64 2 4 4 15 0 0 1 true = 3 := by decide
          rw [fe] at FR
          unfold imgV parV at FR
          have FR := Lib.hid FR
          clear fe hc2 own1 gm1 gp1
          go_wp2_with fail
          refine FR.out.mono ?_
          rintro e w5 ⟨rfl, hb5⟩
          go_wp2_with fail
          go_ret
          exact ⟨rfl, below_trans hb2 hb5⟩
        · rw [hk3]
          clear hk3
          have hc2 : CompsAt V1 V1.heap.size (some ⟨g, 0, none⟩) 1 (fun _ => comp8) := comps_of_cells own1.at_
          have hb2 := hb1
          have FR := frame_any 8 8 0 0 _ 1 cx (fun _ => comp8) 64 64 2 4 4 15 0 0 1 true false false _ hc2 own1.cap.1
          have fe : frameE 8 8 0 0 1 (fun _ => comp8) 64 64 2 4 4 15 0 0 1 true = 3 := by decide
          rw [fe] at FR
          unfold imgV parV at FR
          have FR := Lib.hid FR
          clear fe hc2 own1 gm1 gp1
          go_wp2_with fail
          refine FR.out.mono ?_
          rintro e w5 ⟨rfl, hb5⟩
          go_wp2_with fail
          go_ret
          exact ⟨rfl, below_trans hb2 hb5⟩
theorem turn_2 (comps at_ which : Int) (hc : comps % 4 = 1) (hk : which % 5 = 0 ∨ which % 5 = 1 ∨ which % 5 = 2 ∨ which % 5 = 3 ∨ which % 5 = 4) (w : World) : Calls Try.prog 4 #[.int .i64 comps, .int .i64 at_, .int .i64 which] w fun e w' => e = .returned (.bool true) ∧ Below w.heap.size w w' := by
  have W0 := Lib.hid (fun (v : World) => by have := within12 comps 4 (by omega) (by omega) v; rw [hc] at this; exact this)
  have W1 := Lib.hid (fun (v : World) => by have := within12 at_ 2 (by omega) (by omega) v; exact this)
  have W2 := Lib.hid (fun (v : World) => by have := within12 which 5 (by omega) (by omega) v; exact this)
  have K := Lib.hid hk
  clear hk
  go_enter Try.func4, Try.ntmps4
  go_wp2_with fail
  refine (known12 _).mono ?_
  rintro e w1 ⟨rfl, hb1⟩
  go_wp2_with fail
  refine (W0.out _).mono ?_
  rintro e w1' ⟨rfl, rfl⟩
  go_wp2_with fail
  refine (one_any 8 8 0 0 _).mono ?_
  rintro e w2 ⟨b, rfl, gb, hbb, hb2⟩
  unfold parV
  have hbl := below_trans hb1 hb2
  have hlt : b < w2.heap.size := (Array.getElem?_eq_some_iff.1 gb).1
  have hws := hbl.size
  have hwb := Nat.le_trans hb1.size hbb
  clear hb1 hb2 hbb W0
  go_wp2_with fail
  generalize hw3 : World.alloc (World.alloc w2 _) _ = W3
  have gb3 : W3.heap[b]? = some (.cells #[.int .i64 8, .bool false, .int .i64 1, .int .i64 1, .slice none 0 0] 34 (0, 0)) := by rw [← hw3]; exact (Below.heap_alloc _ _ _ (by simp; omega)).trans ((Below.heap_alloc _ _ _ (by omega)).trans gb)
  have gm3 : W3.heap[w2.heap.size]? = some (.cells #[.int .i64 8, .int .i64 8, .int .i64 0, .int .i64 0, .slice (some ⟨b, 0, none⟩) 1 1] 25 (0, 0)) := by rw [← hw3]; exact (Below.heap_alloc _ _ _ (by simp)).trans (heap_alloc_new w2 _)
  have gp3 : W3.heap[w2.heap.size + 1]? = some (.cells #[.int .i64 64, .int .i64 64, .int .i64 2, .int .i64 4, .int .i64 4, .int .i64 15, .int .i64 0, .int .i64 0, .int .i64 1, .bool false, .bool false, .bool false] 27 (0, 0)) := by rw [← hw3]; exact heap_alloc_new2 w2 _ _
  have hbl3 : Below w.heap.size w W3 := by rw [← hw3]; exact below_alloc (below_alloc hbl _) _
  have o0 : OwnC W3 w.heap.size 34 5 (.slice (some ⟨b, 0, none⟩) 1 1) 1 (fun _ => compL comp8) := OwnC.of_block gb3 hwb (fun _ => rfl) (by unfold maxLen; omega) rfl
  clear hw3 gb gb3 hbl
  obtain ⟨q, hq⟩ : ∃ q, w2.heap.size = q := ⟨_, rfl⟩
  rw [hq] at gm3 gp3 hws
  rw [hq]
  clear hq hlt hwb
  go_loopg [] 1 (fun k wr => ∃ (j : Nat) (X : Option Addr) (cx : Nat), 1 ≤ j ∧ j ≤ 2 ∧ k + j = 2 ∧ wr.heap[q]? = some (.cells #[.int .i64 8, .int .i64 8, .int .i64 0, .int .i64 0, .slice X j cx] 25 (0, 0)) ∧ wr.heap[q + 1]? = some (.cells #[.int .i64 64, .int .i64 64, .int .i64 2, .int .i64 4, .int .i64 4, .int .i64 15, .int .i64 0, .int .i64 0, .int .i64 1, .bool false, .bool false, .bool false] 27 (0, 0)) ∧ OwnC wr w.heap.size 34 5 (.slice X j cx) j (fun _ => compL comp8) ∧ Below w.heap.size w wr)
  case atStart => exact ⟨1, _, 1, by omega, by omega, rfl, gm3, gp3, o0, hbl3⟩
  case round =>
    obtain ⟨j, X, cx, h1, h2, hkj, gm, gp, own, hbel⟩ := hrel
    have m := fun i => cell_of_row _ _ i _ _ (0, 0) gm
    have m4 : wr.cell? ⟨q, 4, none⟩ = some (.slice X j cx) := m 4
    have hqp := (Array.getElem?_eq_some_iff.1 gp).1
    have hqs := (Array.getElem?_eq_some_iff.1 gm).1
    by_cases hlt : j < 2
    · obtain ⟨A0, cc0, e, hjc, _, hat, _⟩ := own.form
      injection e with e1 _ e2
      subst e1 e2
      obtain ⟨g, off, rfl, hgl, hc⟩ := hat.at_ (k := 0) (by omega)
      rw [Nat.zero_mul, Nat.add_zero] at hc
      have k0 : wr.cell? ⟨g, off + 0, none⟩ = some (.int .i64 8) := hc 0 _ rfl
      have k1 : wr.cell? ⟨g, off + 1, none⟩ = some (.bool false) := hc 1 _ rfl
      have k2 : wr.cell? ⟨g, off + 2, none⟩ = some (.int .i64 1) := hc 2 _ rfl
      have k3 : wr.cell? ⟨g, off + 3, none⟩ = some (.int .i64 1) := hc 3 _ rfl
      have k4 : wr.cell? ⟨g, off + 4, none⟩ = some (.slice none 0 0) := hc 4 _ rfl
      rw [Nat.add_zero] at k0
      have l0 : (0 : Int) < j := by omega
      clear hc m hat
      go_wp2_with fail
      refine held_region (by kernel_rfl) (fun _ => True) (fun _ _ h => h) (fun hS => ?_) trivial
      have bV : Below wr.heap.size wr wr.drew := (Below.refl _ _).drew
      generalize wr.drew = V0 at *
      refine wpAnyH_take (i := 0) (v := .pointer (some ⟨q, 4, none⟩)) rfl (by kernel_rfl) (by kernel_rfl) (by kernel_rfl) (fun _ _ _ h => h) (Or.inl ⟨by rfl, ?_⟩) hS ?_
      · intro U hU
        go_simp
      simp only [Act.put, List.setIfInBounds_toArray, List.set_cons_zero, List.set_cons_succ]
      refine wpAnyH_take (i := 2) (v := .pointer (some ⟨q, 4, none⟩)) rfl (by kernel_rfl) (by kernel_rfl) (by kernel_rfl) (fun _ _ _ h => h) (Or.inl ⟨by rfl, ?_⟩) hS ?_
      · intro U hU
        go_simp
      simp only [Act.put, List.setIfInBounds_toArray, List.set_cons_zero, List.set_cons_succ]
      refine wpAnyH_ready (rs := [1, 3]) (by kernel_rfl) (by simp) ?_
      refine AllReadyH.cons (by simp only [List.getElem?_toArray, List.getElem?_cons_succ, List.getElem?_cons_zero]; rfl) (fun K' hK' => ?_) (AllReadyH.cons (by simp only [List.getElem?_toArray, List.getElem?_cons_succ, List.getElem?_cons_zero]; rfl) (fun K' hK' => ?_) AllReadyH.nil)
      · have xm := (bV.cell (p := ⟨q, 4, none⟩) hqs).trans m4
        go_simp
        refine hK'.out _ _ trivial (fun _ => ?_)
        clear xm
        clear hK' K'
        try simp only [Act.put, List.setIfInBounds_toArray, List.set_cons_zero, List.set_cons_succ]
        refine wpAnyH_ready (rs := [3]) (by kernel_rfl) (by simp) ?_
        refine AllReadyH.cons (by simp only [List.getElem?_toArray, List.getElem?_cons_succ, List.getElem?_cons_zero]; rfl) (fun K' hK' => ?_) AllReadyH.nil
        have xm := (bV.cell (p := ⟨q, 4, none⟩) hqs).trans m4
        go_simp
        refine hK'.out _ _ trivial (fun _ => ?_)
        clear xm
        clear hK' K'
        try simp only [Act.put, List.setIfInBounds_toArray, List.set_cons_zero, List.set_cons_succ]
        refine wpAnyH_take (i := 4) (v := .pointer (some ⟨g, off, none⟩)) rfl (by kernel_rfl) (by kernel_rfl) (by kernel_rfl) (fun _ _ _ h => h) (Or.inl ⟨by rfl, ?_⟩) hS ?_
        · intro U hU
          go_simp
          intro h
          exact absurd h (by omega)
        simp only [Act.put, List.setIfInBounds_toArray, List.set_cons_zero, List.set_cons_succ]
        refine wpAnyH_ready (rs := [5]) (by kernel_rfl) (by simp) ?_
        refine AllReadyH.cons (by simp only [List.getElem?_toArray, List.getElem?_cons_succ, List.getElem?_cons_zero]; rfl) (fun K' hK' => ?_) AllReadyH.nil
        have x0 := (bV.cell (p := ⟨g, off, none⟩) hgl).trans k0
        have x1 := (bV.cell (p := ⟨g, off + 1, none⟩) hgl).trans k1
        have x2 := (bV.cell (p := ⟨g, off + 2, none⟩) hgl).trans k2
        have x3 := (bV.cell (p := ⟨g, off + 3, none⟩) hgl).trans k3
        have x4 := (bV.cell (p := ⟨g, off + 4, none⟩) hgl).trans k4
        go_simp
        refine hK'.out _ _ trivial (fun _ => ?_)
        clear x0 x1 x2 x3 x4
        clear hK' K'
        try simp only [Act.put, List.setIfInBounds_toArray, List.set_cons_zero, List.set_cons_succ]
        refine wpAnyH_ready (rs := [6]) (by kernel_rfl) (by simp) ?_
        refine AllReadyH.cons (by simp only [List.getElem?_toArray, List.getElem?_cons_succ, List.getElem?_cons_zero]; rfl) (fun K' hK' => ?_) AllReadyH.nil
        go_simp
        have bu3 := below_alloc bV (.cells #[.int .i64 8, .bool false, .int .i64 1, .int .i64 1, .slice none 0 0] 34)
        refine hK'.out _ _ trivial (fun _ => ?_)
        obtain ⟨h0, hh0⟩ : ∃ h0, V0.heap.size = h0 := ⟨_, rfl⟩
        try rw [hh0]
        have hcel : ∀ (i : Nat) (u : Value), (compL comp8)[i]? = some u → (V0.alloc (.cells #[.int .i64 8, .bool false, .int .i64 1, .int .i64 1, .slice none 0 0] 34)).cell? ⟨h0, i, none⟩ = some u := fun i u hi => by
          rw [← hh0, cell_of_row _ _ _ _ _ (0, 0) (heap_alloc_new V0 _)]
          rw [← hi, List.getElem?_toArray]; rfl
        generalize V0.alloc (.cells #[.int .i64 8, .bool false, .int .i64 1, .int .i64 1, .slice none 0 0] 34) = U3 at *
        clear hh0
        clear hK' K'
        try simp only [Act.put, List.setIfInBounds_toArray, List.set_cons_zero, List.set_cons_succ]
        refine wpAnyH_ready (rs := [7]) (by kernel_rfl) (by simp) ?_
        refine AllReadyH.cons (by simp only [List.getElem?_toArray, List.getElem?_cons_succ, List.getElem?_cons_zero]; rfl) (fun K' hK' => ?_) AllReadyH.nil
        refine step_appC wr bu3 (others_of_below bu3) (by rfl) _ _ 23 (by rfl) 34 5 comp_elem w.heap.size _ j _ _ (by rfl) own h0 (by rfl) hcel (fun u hu => by simp [compL, comp8] at hu; rcases hu with rfl | rfl | rfl | rfl | rfl <;> rfl) (by omega) hbel.size ?_
        intro g1 cap U4 og sg hg
        refine hK'.out _ _ trivial (fun _ => ?_)
        clear hcel
        clear hK' K'
        try simp only [Act.put, List.setIfInBounds_toArray, List.set_cons_zero, List.set_cons_succ]
        refine wpAnyH_take (i := 8) (v := .pointer (some ⟨q, 4, none⟩)) rfl (by kernel_rfl) (by kernel_rfl) (by kernel_rfl) (fun _ _ _ h => h) (Or.inl ⟨by rfl, ?_⟩) hS ?_
        · intro U hU
          go_simp
        simp only [Act.put, List.setIfInBounds_toArray, List.set_cons_zero, List.set_cons_succ]
        refine wpAnyH_ready (rs := [9]) (by kernel_rfl) (by simp) ?_
        refine AllReadyH.cons (by simp only [List.getElem?_toArray, List.getElem?_cons_succ, List.getElem?_cons_zero]; rfl) (fun K' hK' => ?_) AllReadyH.nil
        have xm := (sg.cells ⟨q, 4, none⟩ hqs (own.ne_block gm (by decide))).trans m4
        have hq5 : U4.heap[q]? = some (.cells #[.int .i64 8, .int .i64 8, .int .i64 0, .int .i64 0, .slice (some ⟨g, off, none⟩) j cx] 25 (0, 0)) := (sg.blocks q hqs (own.ne_block gm (by decide))).trans gm
        have fm := frozen_of_row _ _ 4 _ _ hq5
        go_simp
        refine hK'.out _ _ trivial (fun _ => ?_)
        clear hK' K'
        try simp only [Act.put, List.setIfInBounds_toArray, List.set_cons_zero, List.set_cons_succ]
        refine wpAnyH_done (by kernel_rfl) ?_ _
        simp only [OnlyN]
        have gm6 := heap_set_same (j := 4) hq5 (.slice (some ⟨g1, 0, none⟩) (j + 1) cap)
        have gp6 := (Below.heap_setCell U4 ⟨q, 4, none⟩ (.slice (some ⟨g1, 0, none⟩) (j + 1) cap) (q + 1) (by simp only; omega)).trans ((sg.blocks (q + 1) hqp (own.ne_block gp (by decide))).trans gp)
        have og6 := og.other (a := ⟨q, 4, none⟩) (og.ne_block hq5 (by decide)) (.slice (some ⟨g1, 0, none⟩) (j + 1) cap)
        have hb6 := (hbel.trans sg.below).setCell (p := ⟨q, 4, none⟩) hws (.slice (some ⟨g1, 0, none⟩) (j + 1) cap)
        go_wp2_with fail
        go_roundg (gk - 1)
        case measure => omega
        case rel => exact ⟨j + 1, _, cap, by omega, by omega, by omega, gm6, gp6, og6, hb6⟩
      · have xm := (bV.cell (p := ⟨q, 4, none⟩) hqs).trans m4
        go_simp
        refine hK'.out _ _ trivial (fun _ => ?_)
        clear xm
        clear hK' K'
        try simp only [Act.put, List.setIfInBounds_toArray, List.set_cons_zero, List.set_cons_succ]
        refine wpAnyH_take (i := 4) (v := .pointer (some ⟨g, off, none⟩)) rfl (by kernel_rfl) (by kernel_rfl) (by kernel_rfl) (fun _ _ _ h => h) (Or.inl ⟨by rfl, ?_⟩) hS ?_
        · intro U hU
          go_simp
          intro h
          exact absurd h (by omega)
        simp only [Act.put, List.setIfInBounds_toArray, List.set_cons_zero, List.set_cons_succ]
        refine wpAnyH_ready (rs := [1, 5]) (by kernel_rfl) (by simp) ?_
        refine AllReadyH.cons (by simp only [List.getElem?_toArray, List.getElem?_cons_succ, List.getElem?_cons_zero]; rfl) (fun K' hK' => ?_) (AllReadyH.cons (by simp only [List.getElem?_toArray, List.getElem?_cons_succ, List.getElem?_cons_zero]; rfl) (fun K' hK' => ?_) AllReadyH.nil)
        · have xm := (bV.cell (p := ⟨q, 4, none⟩) hqs).trans m4
          go_simp
          refine hK'.out _ _ trivial (fun _ => ?_)
          clear xm
          clear hK' K'
          try simp only [Act.put, List.setIfInBounds_toArray, List.set_cons_zero, List.set_cons_succ]
          refine wpAnyH_ready (rs := [5]) (by kernel_rfl) (by simp) ?_
          refine AllReadyH.cons (by simp only [List.getElem?_toArray, List.getElem?_cons_succ, List.getElem?_cons_zero]; rfl) (fun K' hK' => ?_) AllReadyH.nil
          have x0 := (bV.cell (p := ⟨g, off, none⟩) hgl).trans k0
          have x1 := (bV.cell (p := ⟨g, off + 1, none⟩) hgl).trans k1
          have x2 := (bV.cell (p := ⟨g, off + 2, none⟩) hgl).trans k2
          have x3 := (bV.cell (p := ⟨g, off + 3, none⟩) hgl).trans k3
          have x4 := (bV.cell (p := ⟨g, off + 4, none⟩) hgl).trans k4
          go_simp
          refine hK'.out _ _ trivial (fun _ => ?_)
          clear x0 x1 x2 x3 x4
          clear hK' K'
          try simp only [Act.put, List.setIfInBounds_toArray, List.set_cons_zero, List.set_cons_succ]
          refine wpAnyH_ready (rs := [6]) (by kernel_rfl) (by simp) ?_
          refine AllReadyH.cons (by simp only [List.getElem?_toArray, List.getElem?_cons_succ, List.getElem?_cons_zero]; rfl) (fun K' hK' => ?_) AllReadyH.nil
          go_simp
          have bu9 := below_alloc bV (.cells #[.int .i64 8, .bool false, .int .i64 1, .int .i64 1, .slice none 0 0] 34)
          refine hK'.out _ _ trivial (fun _ => ?_)
          obtain ⟨h0, hh0⟩ : ∃ h0, V0.heap.size = h0 := ⟨_, rfl⟩
          try rw [hh0]
          have hcel : ∀ (i : Nat) (u : Value), (compL comp8)[i]? = some u → (V0.alloc (.cells #[.int .i64 8, .bool false, .int .i64 1, .int .i64 1, .slice none 0 0] 34)).cell? ⟨h0, i, none⟩ = some u := fun i u hi => by
            rw [← hh0, cell_of_row _ _ _ _ _ (0, 0) (heap_alloc_new V0 _)]
            rw [← hi, List.getElem?_toArray]; rfl
          generalize V0.alloc (.cells #[.int .i64 8, .bool false, .int .i64 1, .int .i64 1, .slice none 0 0] 34) = U9 at *
          clear hh0
          clear hK' K'
          try simp only [Act.put, List.setIfInBounds_toArray, List.set_cons_zero, List.set_cons_succ]
          refine wpAnyH_ready (rs := [7]) (by kernel_rfl) (by simp) ?_
          refine AllReadyH.cons (by simp only [List.getElem?_toArray, List.getElem?_cons_succ, List.getElem?_cons_zero]; rfl) (fun K' hK' => ?_) AllReadyH.nil
          refine step_appC wr bu9 (others_of_below bu9) (by rfl) _ _ 23 (by rfl) 34 5 comp_elem w.heap.size _ j _ _ (by rfl) own h0 (by rfl) hcel (fun u hu => by simp [compL, comp8] at hu; rcases hu with rfl | rfl | rfl | rfl | rfl <;> rfl) (by omega) hbel.size ?_
          intro g1 cap U10 og sg hg
          refine hK'.out _ _ trivial (fun _ => ?_)
          clear hcel
          clear hK' K'
          try simp only [Act.put, List.setIfInBounds_toArray, List.set_cons_zero, List.set_cons_succ]
          refine wpAnyH_take (i := 8) (v := .pointer (some ⟨q, 4, none⟩)) rfl (by kernel_rfl) (by kernel_rfl) (by kernel_rfl) (fun _ _ _ h => h) (Or.inl ⟨by rfl, ?_⟩) hS ?_
          · intro U hU
            go_simp
          simp only [Act.put, List.setIfInBounds_toArray, List.set_cons_zero, List.set_cons_succ]
          refine wpAnyH_ready (rs := [9]) (by kernel_rfl) (by simp) ?_
          refine AllReadyH.cons (by simp only [List.getElem?_toArray, List.getElem?_cons_succ, List.getElem?_cons_zero]; rfl) (fun K' hK' => ?_) AllReadyH.nil
          have xm := (sg.cells ⟨q, 4, none⟩ hqs (own.ne_block gm (by decide))).trans m4
          have hq5 : U10.heap[q]? = some (.cells #[.int .i64 8, .int .i64 8, .int .i64 0, .int .i64 0, .slice (some ⟨g, off, none⟩) j cx] 25 (0, 0)) := (sg.blocks q hqs (own.ne_block gm (by decide))).trans gm
          have fm := frozen_of_row _ _ 4 _ _ hq5
          go_simp
          refine hK'.out _ _ trivial (fun _ => ?_)
          clear hK' K'
          try simp only [Act.put, List.setIfInBounds_toArray, List.set_cons_zero, List.set_cons_succ]
          refine wpAnyH_done (by kernel_rfl) ?_ _
          simp only [OnlyN]
          have gm6 := heap_set_same (j := 4) hq5 (.slice (some ⟨g1, 0, none⟩) (j + 1) cap)
          have gp6 := (Below.heap_setCell U10 ⟨q, 4, none⟩ (.slice (some ⟨g1, 0, none⟩) (j + 1) cap) (q + 1) (by simp only; omega)).trans ((sg.blocks (q + 1) hqp (own.ne_block gp (by decide))).trans gp)
          have og6 := og.other (a := ⟨q, 4, none⟩) (og.ne_block hq5 (by decide)) (.slice (some ⟨g1, 0, none⟩) (j + 1) cap)
          have hb6 := (hbel.trans sg.below).setCell (p := ⟨q, 4, none⟩) hws (.slice (some ⟨g1, 0, none⟩) (j + 1) cap)
          go_wp2_with fail
          go_roundg (gk - 1)
          case measure => omega
          case rel => exact ⟨j + 1, _, cap, by omega, by omega, by omega, gm6, gp6, og6, hb6⟩
        · have x0 := (bV.cell (p := ⟨g, off, none⟩) hgl).trans k0
          have x1 := (bV.cell (p := ⟨g, off + 1, none⟩) hgl).trans k1
          have x2 := (bV.cell (p := ⟨g, off + 2, none⟩) hgl).trans k2
          have x3 := (bV.cell (p := ⟨g, off + 3, none⟩) hgl).trans k3
          have x4 := (bV.cell (p := ⟨g, off + 4, none⟩) hgl).trans k4
          go_simp
          refine hK'.out _ _ trivial (fun _ => ?_)
          clear x0 x1 x2 x3 x4
          clear hK' K'
          try simp only [Act.put, List.setIfInBounds_toArray, List.set_cons_zero, List.set_cons_succ]
          refine wpAnyH_ready (rs := [1, 6]) (by kernel_rfl) (by simp) ?_
          refine AllReadyH.cons (by simp only [List.getElem?_toArray, List.getElem?_cons_succ, List.getElem?_cons_zero]; rfl) (fun K' hK' => ?_) (AllReadyH.cons (by simp only [List.getElem?_toArray, List.getElem?_cons_succ, List.getElem?_cons_zero]; rfl) (fun K' hK' => ?_) AllReadyH.nil)
          · have xm := (bV.cell (p := ⟨q, 4, none⟩) hqs).trans m4
            go_simp
            refine hK'.out _ _ trivial (fun _ => ?_)
            clear xm
            clear hK' K'
            try simp only [Act.put, List.setIfInBounds_toArray, List.set_cons_zero, List.set_cons_succ]
            refine wpAnyH_ready (rs := [6]) (by kernel_rfl) (by simp) ?_
            refine AllReadyH.cons (by simp only [List.getElem?_toArray, List.getElem?_cons_succ, List.getElem?_cons_zero]; rfl) (fun K' hK' => ?_) AllReadyH.nil
            go_simp
            have bu14 := below_alloc bV (.cells #[.int .i64 8, .bool false, .int .i64 1, .int .i64 1, .slice none 0 0] 34)
            refine hK'.out _ _ trivial (fun _ => ?_)
            obtain ⟨h0, hh0⟩ : ∃ h0, V0.heap.size = h0 := ⟨_, rfl⟩
            try rw [hh0]
            have hcel : ∀ (i : Nat) (u : Value), (compL comp8)[i]? = some u → (V0.alloc (.cells #[.int .i64 8, .bool false, .int .i64 1, .int .i64 1, .slice none 0 0] 34)).cell? ⟨h0, i, none⟩ = some u := fun i u hi => by
              rw [← hh0, cell_of_row _ _ _ _ _ (0, 0) (heap_alloc_new V0 _)]
              rw [← hi, List.getElem?_toArray]; rfl
            generalize V0.alloc (.cells #[.int .i64 8, .bool false, .int .i64 1, .int .i64 1, .slice none 0 0] 34) = U14 at *
            clear hh0
            clear hK' K'
            try simp only [Act.put, List.setIfInBounds_toArray, List.set_cons_zero, List.set_cons_succ]
            refine wpAnyH_ready (rs := [7]) (by kernel_rfl) (by simp) ?_
            refine AllReadyH.cons (by simp only [List.getElem?_toArray, List.getElem?_cons_succ, List.getElem?_cons_zero]; rfl) (fun K' hK' => ?_) AllReadyH.nil
            refine step_appC wr bu14 (others_of_below bu14) (by rfl) _ _ 23 (by rfl) 34 5 comp_elem w.heap.size _ j _ _ (by rfl) own h0 (by rfl) hcel (fun u hu => by simp [compL, comp8] at hu; rcases hu with rfl | rfl | rfl | rfl | rfl <;> rfl) (by omega) hbel.size ?_
            intro g1 cap U15 og sg hg
            refine hK'.out _ _ trivial (fun _ => ?_)
            clear hcel
            clear hK' K'
            try simp only [Act.put, List.setIfInBounds_toArray, List.set_cons_zero, List.set_cons_succ]
            refine wpAnyH_take (i := 8) (v := .pointer (some ⟨q, 4, none⟩)) rfl (by kernel_rfl) (by kernel_rfl) (by kernel_rfl) (fun _ _ _ h => h) (Or.inl ⟨by rfl, ?_⟩) hS ?_
            · intro U hU
              go_simp
            simp only [Act.put, List.setIfInBounds_toArray, List.set_cons_zero, List.set_cons_succ]
            refine wpAnyH_ready (rs := [9]) (by kernel_rfl) (by simp) ?_
            refine AllReadyH.cons (by simp only [List.getElem?_toArray, List.getElem?_cons_succ, List.getElem?_cons_zero]; rfl) (fun K' hK' => ?_) AllReadyH.nil
            have xm := (sg.cells ⟨q, 4, none⟩ hqs (own.ne_block gm (by decide))).trans m4
            have hq5 : U15.heap[q]? = some (.cells #[.int .i64 8, .int .i64 8, .int .i64 0, .int .i64 0, .slice (some ⟨g, off, none⟩) j cx] 25 (0, 0)) := (sg.blocks q hqs (own.ne_block gm (by decide))).trans gm
            have fm := frozen_of_row _ _ 4 _ _ hq5
            go_simp
            refine hK'.out _ _ trivial (fun _ => ?_)
            clear hK' K'
            try simp only [Act.put, List.setIfInBounds_toArray, List.set_cons_zero, List.set_cons_succ]
            refine wpAnyH_done (by kernel_rfl) ?_ _
            simp only [OnlyN]
            have gm6 := heap_set_same (j := 4) hq5 (.slice (some ⟨g1, 0, none⟩) (j + 1) cap)
            have gp6 := (Below.heap_setCell U15 ⟨q, 4, none⟩ (.slice (some ⟨g1, 0, none⟩) (j + 1) cap) (q + 1) (by simp only; omega)).trans ((sg.blocks (q + 1) hqp (own.ne_block gp (by decide))).trans gp)
            have og6 := og.other (a := ⟨q, 4, none⟩) (og.ne_block hq5 (by decide)) (.slice (some ⟨g1, 0, none⟩) (j + 1) cap)
            have hb6 := (hbel.trans sg.below).setCell (p := ⟨q, 4, none⟩) hws (.slice (some ⟨g1, 0, none⟩) (j + 1) cap)
            go_wp2_with fail
            go_roundg (gk - 1)
            case measure => omega
            case rel => exact ⟨j + 1, _, cap, by omega, by omega, by omega, gm6, gp6, og6, hb6⟩
          · go_simp
            have bu17 := below_alloc bV (.cells #[.int .i64 8, .bool false, .int .i64 1, .int .i64 1, .slice none 0 0] 34)
            refine hK'.out _ _ trivial (fun _ => ?_)
            obtain ⟨h0, hh0⟩ : ∃ h0, V0.heap.size = h0 := ⟨_, rfl⟩
            try rw [hh0]
            have hcel : ∀ (i : Nat) (u : Value), (compL comp8)[i]? = some u → (V0.alloc (.cells #[.int .i64 8, .bool false, .int .i64 1, .int .i64 1, .slice none 0 0] 34)).cell? ⟨h0, i, none⟩ = some u := fun i u hi => by
              rw [← hh0, cell_of_row _ _ _ _ _ (0, 0) (heap_alloc_new V0 _)]
              rw [← hi, List.getElem?_toArray]; rfl
            generalize V0.alloc (.cells #[.int .i64 8, .bool false, .int .i64 1, .int .i64 1, .slice none 0 0] 34) = U17 at *
            clear hh0
            clear hK' K'
            try simp only [Act.put, List.setIfInBounds_toArray, List.set_cons_zero, List.set_cons_succ]
            refine wpAnyH_ready (rs := [1]) (by kernel_rfl) (by simp) ?_
            refine AllReadyH.cons (by simp only [List.getElem?_toArray, List.getElem?_cons_succ, List.getElem?_cons_zero]; rfl) (fun K' hK' => ?_) AllReadyH.nil
            have xm := (bu17.cell (p := ⟨q, 4, none⟩) hqs).trans m4
            go_simp
            refine hK'.out _ _ trivial (fun _ => ?_)
            clear xm
            clear hK' K'
            try simp only [Act.put, List.setIfInBounds_toArray, List.set_cons_zero, List.set_cons_succ]
            refine wpAnyH_ready (rs := [7]) (by kernel_rfl) (by simp) ?_
            refine AllReadyH.cons (by simp only [List.getElem?_toArray, List.getElem?_cons_succ, List.getElem?_cons_zero]; rfl) (fun K' hK' => ?_) AllReadyH.nil
            refine step_appC wr bu17 (others_of_below bu17) (by rfl) _ _ 23 (by rfl) 34 5 comp_elem w.heap.size _ j _ _ (by rfl) own h0 (by rfl) hcel (fun u hu => by simp [compL, comp8] at hu; rcases hu with rfl | rfl | rfl | rfl | rfl <;> rfl) (by omega) hbel.size ?_
            intro g1 cap U19 og sg hg
            refine hK'.out _ _ trivial (fun _ => ?_)
            clear hcel
            clear hK' K'
            try simp only [Act.put, List.setIfInBounds_toArray, List.set_cons_zero, List.set_cons_succ]
            refine wpAnyH_take (i := 8) (v := .pointer (some ⟨q, 4, none⟩)) rfl (by kernel_rfl) (by kernel_rfl) (by kernel_rfl) (fun _ _ _ h => h) (Or.inl ⟨by rfl, ?_⟩) hS ?_
            · intro U hU
              go_simp
            simp only [Act.put, List.setIfInBounds_toArray, List.set_cons_zero, List.set_cons_succ]
            refine wpAnyH_ready (rs := [9]) (by kernel_rfl) (by simp) ?_
            refine AllReadyH.cons (by simp only [List.getElem?_toArray, List.getElem?_cons_succ, List.getElem?_cons_zero]; rfl) (fun K' hK' => ?_) AllReadyH.nil
            have xm := (sg.cells ⟨q, 4, none⟩ hqs (own.ne_block gm (by decide))).trans m4
            have hq5 : U19.heap[q]? = some (.cells #[.int .i64 8, .int .i64 8, .int .i64 0, .int .i64 0, .slice (some ⟨g, off, none⟩) j cx] 25 (0, 0)) := (sg.blocks q hqs (own.ne_block gm (by decide))).trans gm
            have fm := frozen_of_row _ _ 4 _ _ hq5
            go_simp
            refine hK'.out _ _ trivial (fun _ => ?_)
            clear hK' K'
            try simp only [Act.put, List.setIfInBounds_toArray, List.set_cons_zero, List.set_cons_succ]
            refine wpAnyH_done (by kernel_rfl) ?_ _
            simp only [OnlyN]
            have gm6 := heap_set_same (j := 4) hq5 (.slice (some ⟨g1, 0, none⟩) (j + 1) cap)
            have gp6 := (Below.heap_setCell U19 ⟨q, 4, none⟩ (.slice (some ⟨g1, 0, none⟩) (j + 1) cap) (q + 1) (by simp only; omega)).trans ((sg.blocks (q + 1) hqp (own.ne_block gp (by decide))).trans gp)
            have og6 := og.other (a := ⟨q, 4, none⟩) (og.ne_block hq5 (by decide)) (.slice (some ⟨g1, 0, none⟩) (j + 1) cap)
            have hb6 := (hbel.trans sg.below).setCell (p := ⟨q, 4, none⟩) hws (.slice (some ⟨g1, 0, none⟩) (j + 1) cap)
            go_wp2_with fail
            go_roundg (gk - 1)
            case measure => omega
            case rel => exact ⟨j + 1, _, cap, by omega, by omega, by omega, gm6, gp6, og6, hb6⟩
    · obtain rfl : j = 2 := by omega
      obtain ⟨g, rfl, hgb, hgl⟩ := own.row (by omega)
      have fp9 : wr.frozen? ⟨q + 1, 9, none⟩ = false := frozen_of_row _ _ 9 _ _ gp
      have p9 : wr.cell? ⟨q + 1, 9, none⟩ = some (.bool false) := (cell_of_row _ _ 9 _ _ (0, 0) gp)
      clear m
      go_wp2_with fail
      have gp1 := heap_set_same (j := 9) gp (.bool true)
      have gm1 := (Below.heap_setCell wr ⟨q + 1, 9, none⟩ (.bool true) q (by simp only; omega)).trans gm
      have own1 := own.other (a := ⟨q + 1, 9, none⟩) (own.ne_block gp (by decide)) (.bool true)
      have hb1 := hbel.setCell (p := ⟨q + 1, 9, none⟩) (by simp only; omega) (.bool true)
      clear own gp gm fp9 p9 m4 hbel hgl hqs hqp
      generalize wr.setCell ⟨q + 1, 9, none⟩ (.bool true) = V1 at *
      have hgq : g ≠ q := fun h => own1.ne_block gm1 (by decide) (by rw [h]; rfl)
      have hgp : g ≠ q + 1 := fun h => own1.ne_block gp1 (by decide) (by rw [h]; rfl)
      have m := fun i => cell_of_row _ _ i _ _ (0, 0) gm1
      have p := fun i => cell_of_row _ _ i _ _ (0, 0) gp1
      have m0 : V1.cell? ⟨q, 0, none⟩ = some (.int .i64 8) := m 0
      have m1 : V1.cell? ⟨q, 1, none⟩ = some (.int .i64 8) := m 1
      have m2 : V1.cell? ⟨q, 2, none⟩ = some (.int .i64 0) := m 2
      have m3 : V1.cell? ⟨q, 3, none⟩ = some (.int .i64 0) := m 3
      have m4 : V1.cell? ⟨q, 4, none⟩ = some (.slice (some ⟨g, 0, none⟩) 2 cx) := m 4
      have p0 : V1.cell? ⟨q + 1, 0, none⟩ = some (.int .i64 64) := p 0
      have p1 : V1.cell? ⟨q + 1, 1, none⟩ = some (.int .i64 64) := p 1
      have p2 : V1.cell? ⟨q + 1, 2, none⟩ = some (.int .i64 2) := p 2
      have p3 : V1.cell? ⟨q + 1, 3, none⟩ = some (.int .i64 4) := p 3
      have p4 : V1.cell? ⟨q + 1, 4, none⟩ = some (.int .i64 4) := p 4
      have p5 : V1.cell? ⟨q + 1, 5, none⟩ = some (.int .i64 15) := p 5
      have p6 : V1.cell? ⟨q + 1, 6, none⟩ = some (.int .i64 0) := p 6
      have p7 : V1.cell? ⟨q + 1, 7, none⟩ = some (.int .i64 0) := p 7
      have p8 : V1.cell? ⟨q + 1, 8, none⟩ = some (.int .i64 1) := p 8
      have p9 : V1.cell? ⟨q + 1, 9, none⟩ = some (.bool true) := p 9
      have p10 : V1.cell? ⟨q + 1, 10, none⟩ = some (.bool false) := p 10
      have p11 : V1.cell? ⟨q + 1, 11, none⟩ = some (.bool false) := p 11
      refine (W1.out _).mono ?_
      rintro e w6 ⟨rfl, rfl⟩
      clear W1 m p
      have hk2 : at_ % 2 = 0 ∨ at_ % 2 = 1 := by omega
      rcases hk2 with hk2 | hk2
      · rw [hk2]
        clear hk2
        go_wp2_with fail
        refine (W2.out _).mono ?_
        rintro e w7 ⟨rfl, rfl⟩
        clear W2
        rcases K.out with hk3 | hk3 | hk3 | hk3 | hk3
        · rw [hk3]
          clear hk3
          have cf : V1.cell? ⟨g, 0, none⟩ = some (.int .i64 8) := own1.at_.cells (k := 0) (j := 0) (by omega) rfl
          have ff : V1.frozen? ⟨g, 0, none⟩ = false := own1.frozen _
          have own2 := own1.stored (k := 0) (j := 0) (by omega) (by omega) (.int .i64 9)
          have hc2 : CompsAt (V1.setCell ⟨g, 0, none⟩ (.int .i64 9)) (V1.setCell ⟨g, 0, none⟩ (.int .i64 9)).heap.size (some ⟨g, 0, none⟩) 2 (fun i => if i = 0 then (⟨9, false, 1, 1, none, 0, 0⟩ : CompD) else comp8) := comps_of_cells (own2.at_.congr (fun i _ => by (try dsimp only); split <;> rfl))
          have hb2 : Below w.heap.size w (V1.setCell ⟨g, 0, none⟩ (.int .i64 9)) := hb1.setCell (p := ⟨g, 0, none⟩) hgb _
          have mm : ∀ i, (V1.setCell ⟨g, 0, none⟩ (.int .i64 9)).cell? ⟨q, i, none⟩ = V1.cell? ⟨q, i, none⟩ := fun i => World.cell?_of_block (Below.heap_setCell _ _ _ _ (fun h => hgq h.symm))
          have pp : ∀ i, (V1.setCell ⟨g, 0, none⟩ (.int .i64 9)).cell? ⟨q + 1, i, none⟩ = V1.cell? ⟨q + 1, i, none⟩ := fun i => World.cell?_of_block (Below.heap_setCell _ _ _ _ (fun h => hgp h.symm))
          have mm0 := (mm 0).trans m0
          have mm1 := (mm 1).trans m1
          have mm2 := (mm 2).trans m2
          have mm3 := (mm 3).trans m3
          have mm4 := (mm 4).trans m4
          have pp0 := (pp 0).trans p0
          have pp1 := (pp 1).trans p1
          have pp2 := (pp 2).trans p2
          have pp3 := (pp 3).trans p3
          have pp4 := (pp 4).trans p4
          have pp5 := (pp 5).trans p5
          have pp6 := (pp 6).trans p6
          have pp7 := (pp 7).trans p7
          have pp8 := (pp 8).trans p8
          have pp9 := (pp 9).trans p9
          have pp10 := (pp 10).trans p10
          have pp11 := (pp 11).trans p11
          clear mm pp own2
          have FR := frame_any 8 8 0 0 _ 2 cx (fun i => if i = 0 then (⟨9, false, 1, 1, none, 0, 0⟩ : CompD) else comp8) 64 64 2 4 4 15 0 0 1 true false false _ hc2 own1.cap.1
          have fe : frameE 8 8 0 0 2 (fun i => if i = 0 then (⟨9, false, 1, 1, none, 0, 0⟩ : CompD) else comp8) 64 64 2 4 4 15 0 0 1 true = 3 := by decide
          rw [fe] at FR
          unfold imgV parV at FR
          have FR := Lib.hid FR
          clear fe hc2 own1 gm1 gp1
          go_wp2_with fail
          refine FR.out.mono ?_
          rintro e w5 ⟨rfl, hb5⟩
          go_wp2_with fail
          go_ret
          exact ⟨rfl, below_trans hb2 hb5⟩
        · rw [hk3]
          clear hk3
          have cf : V1.cell? ⟨g, 1, none⟩ = some (.bool false) := own1.at_.cells (k := 0) (j := 1) (by omega) rfl
          have ff : V1.frozen? ⟨g, 1, none⟩ = false := own1.frozen _
          have own2 := own1.stored (k := 0) (j := 1) (by omega) (by omega) (.bool true)
          have hc2 : CompsAt (V1.setCell ⟨g, 1, none⟩ (.bool true)) (V1.setCell ⟨g, 1, none⟩ (.bool true)).heap.size (some ⟨g, 0, none⟩) 2 (fun i => if i = 0 then (⟨8, true, 1, 1, none, 0, 0⟩ : CompD) else comp8) := comps_of_cells (own2.at_.congr (fun i _ => by (try dsimp only); split <;> rfl))
          have hb2 : Below w.heap.size w (V1.setCell ⟨g, 1, none⟩ (.bool true)) := hb1.setCell (p := ⟨g, 1, none⟩) hgb _
          have mm : ∀ i, (V1.setCell ⟨g, 1, none⟩ (.bool true)).cell? ⟨q, i, none⟩ = V1.cell? ⟨q, i, none⟩ := fun i => World.cell?_of_block (Below.heap_setCell _ _ _ _ (fun h => hgq h.symm))
          have pp : ∀ i, (V1.setCell ⟨g, 1, none⟩ (.bool true)).cell? ⟨q + 1, i, none⟩ = V1.cell? ⟨q + 1, i, none⟩ := fun i => World.cell?_of_block (Below.heap_setCell _ _ _ _ (fun h => hgp h.symm))
          have mm0 := (mm 0).trans m0
          have mm1 := (mm 1).trans m1
          have mm2 := (mm 2).trans m2
          have mm3 := (mm 3).trans m3
          have mm4 := (mm 4).trans m4
          have pp0 := (pp 0).trans p0
          have pp1 := (pp 1).trans p1
          have pp2 := (pp 2).trans p2
          have pp3 := (pp 3).trans p3
          have pp4 := (pp 4).trans p4
          have pp5 := (pp 5).trans p5
          have pp6 := (pp 6).trans p6
          have pp7 := (pp 7).trans p7
          have pp8 := (pp 8).trans p8
          have pp9 := (pp 9).trans p9
          have pp10 := (pp 10).trans p10
          have pp11 := (pp 11).trans p11
          clear mm pp own2
          have FR := frame_any 8 8 0 0 _ 2 cx (fun i => if i = 0 then (⟨8, true, 1, 1, none, 0, 0⟩ : CompD) else comp8) 64 64 2 4 4 15 0 0 1 true false false _ hc2 own1.cap.1
          have fe : frameE 8 8 0 0 2 (fun i => if i = 0 then (⟨8, true, 1, 1, none, 0, 0⟩ : CompD) else comp8) 64 64 2 4 4 15 0 0 1 true = 3 := by decide
          rw [fe] at FR
          unfold imgV parV at FR
          have FR := Lib.hid FR
          clear fe hc2 own1 gm1 gp1
          go_wp2_with fail
          refine FR.out.mono ?_
          rintro e w5 ⟨rfl, hb5⟩
          go_wp2_with fail
          go_ret
          exact ⟨rfl, below_trans hb2 hb5⟩
        · rw [hk3]
          clear hk3
          have cf : V1.cell? ⟨g, 2, none⟩ = some (.int .i64 1) := own1.at_.cells (k := 0) (j := 2) (by omega) rfl
          have ff : V1.frozen? ⟨g, 2, none⟩ = false := own1.frozen _
          have own2 := own1.stored (k := 0) (j := 2) (by omega) (by omega) (.int .i64 2)
          have hc2 : CompsAt (V1.setCell ⟨g, 2, none⟩ (.int .i64 2)) (V1.setCell ⟨g, 2, none⟩ (.int .i64 2)).heap.size (some ⟨g, 0, none⟩) 2 (fun i => if i = 0 then (⟨8, false, 2, 1, none, 0, 0⟩ : CompD) else comp8) := comps_of_cells (own2.at_.congr (fun i _ => by (try dsimp only); split <;> rfl))
          have hb2 : Below w.heap.size w (V1.setCell ⟨g, 2, none⟩ (.int .i64 2)) := hb1.setCell (p := ⟨g, 2, none⟩) hgb _
          have mm : ∀ i, (V1.setCell ⟨g, 2, none⟩ (.int .i64 2)).cell? ⟨q, i, none⟩ = V1.cell? ⟨q, i, none⟩ := fun i => World.cell?_of_block (Below.heap_setCell _ _ _ _ (fun h => hgq h.symm))
          have pp : ∀ i, (V1.setCell ⟨g, 2, none⟩ (.int .i64 2)).cell? ⟨q + 1, i, none⟩ = V1.cell? ⟨q + 1, i, none⟩ := fun i => World.cell?_of_block (Below.heap_setCell _ _ _ _ (fun h => hgp h.symm))
          have mm0 := (mm 0).trans m0
          have mm1 := (mm 1).trans m1
          have mm2 := (mm 2).trans m2
          have mm3 := (mm 3).trans m3
          have mm4 := (mm 4).trans m4
          have pp0 := (pp 0).trans p0
          have pp1 := (pp 1).trans p1
          have pp2 := (pp 2).trans p2
          have pp3 := (pp 3).trans p3
          have pp4 := (pp 4).trans p4
          have pp5 := (pp 5).trans p5
          have pp6 := (pp 6).trans p6
          have pp7 := (pp 7).trans p7
          have pp8 := (pp 8).trans p8
          have pp9 := (pp 9).trans p9
          have pp10 := (pp 10).trans p10
          have pp11 := (pp 11).trans p11
          clear mm pp own2
          have FR := frame_any 8 8 0 0 _ 2 cx (fun i => if i = 0 then (⟨8, false, 2, 1, none, 0, 0⟩ : CompD) else comp8) 64 64 2 4 4 15 0 0 1 true false false _ hc2 own1.cap.1
          have fe : frameE 8 8 0 0 2 (fun i => if i = 0 then (⟨8, false, 2, 1, none, 0, 0⟩ : CompD) else comp8) 64 64 2 4 4 15 0 0 1 true = 3 := by decide
          rw [fe] at FR
          unfold imgV parV at FR
          have FR := Lib.hid FR
          clear fe hc2 own1 gm1 gp1
          go_wp2_with fail
          refine FR.out.mono ?_
          rintro e w5 ⟨rfl, hb5⟩
          go_wp2_with fail
          go_ret
          exact ⟨rfl, below_trans hb2 hb5⟩
        · rw [hk3]
          clear hk3
          have cf : V1.cell? ⟨g, 3, none⟩ = some (.int .i64 1) := own1.at_.cells (k := 0) (j := 3) (by omega) rfl
          have ff : V1.frozen? ⟨g, 3, none⟩ = false := own1.frozen _
          have own2 := own1.stored (k := 0) (j := 3) (by omega) (by omega) (.int .i64 2)
          have hc2 : CompsAt (V1.setCell ⟨g, 3, none⟩ (.int .i64 2)) (V1.setCell ⟨g, 3, none⟩ (.int .i64 2)).heap.size (some ⟨g, 0, none⟩) 2 (fun i => if i = 0 then (⟨8, false, 1, 2, none, 0, 0⟩ : CompD) else comp8) := comps_of_cells (own2.at_.congr (fun i _ => by (try dsimp only); split <;> rfl))
          have hb2 : Below w.heap.size w (V1.setCell ⟨g, 3, none⟩ (.int .i64 2)) := hb1.setCell (p := ⟨g, 3, none⟩) hgb _
          have mm : ∀ i, (V1.setCell ⟨g, 3, none⟩ (.int .i64 2)).cell? ⟨q, i, none⟩ = V1.cell? ⟨q, i, none⟩ := fun i => World.cell?_of_block (Below.heap_setCell _ _ _ _ (fun h => hgq h.symm))
          have pp : ∀ i, (V1.setCell ⟨g, 3, none⟩ (.int .i64 2)).cell? ⟨q + 1, i, none⟩ = V1.cell? ⟨q + 1, i, none⟩ := fun i => World.cell?_of_block (Below.heap_setCell _ _ _ _ (fun h => hgp h.symm))
          have mm0 := (mm 0).trans m0
          have mm1 := (mm 1).trans m1
          have mm2 := (mm 2).trans m2
          have mm3 := (mm 3).trans m3
          have mm4 := (mm 4).trans m4
          have pp0 := (pp 0).trans p0
          have pp1 := (pp 1).trans p1
          have pp2 := (pp 2).trans p2
          have pp3 := (pp 3).trans p3
          have pp4 := (pp 4).trans p4
          have pp5 := (pp 5).trans p5
          have pp6 := (pp 6).trans p6
          have pp7 := (pp 7).trans p7
          have pp8 := (pp 8).trans p8
          have pp9 := (pp 9).trans p9
          have pp10 := (pp 10).trans p10
          have pp11 := (pp 11).trans p11
          clear mm pp own2
          have FR := frame_any 8 8 0 0 _ 2 cx (fun i => if i = 0 then (⟨8, false, 1, 2, none, 0, 0⟩ : CompD) else comp8) 64 64 2 4 4 15 0 0 1 true false false _ hc2 own1.cap.1
          have fe : frameE 8 8 0 0 2 (fun i => if i = 0 then (⟨8, false, 1, 2, none, 0, 0⟩ : CompD) else comp8) 64 64 2 4 4 15 0 0 1 true = 3 := by decide
          rw [fe] at FR
          unfold imgV parV at FR
          have FR := Lib.hid FR
          clear fe hc2 own1 gm1 gp1
          go_wp2_with fail
          refine FR.out.mono ?_
          rintro e w5 ⟨rfl, hb5⟩
          go_wp2_with fail
          go_ret
          exact ⟨rfl, below_trans hb2 hb5⟩
        · rw [hk3]
          clear hk3
          have hc2 : CompsAt V1 V1.heap.size (some ⟨g, 0, none⟩) 2 (fun _ => comp8) := comps_of_cells own1.at_
          have hb2 := hb1
          have FR := frame_any 8 8 0 0 _ 2 cx (fun _ => comp8) 64 64 2 4 4 15 0 0 1 true false false _ hc2 own1.cap.1
          have fe : frameE 8 8 0 0 2 (fun _ => comp8) 64 64 2 4 4 15 0 0 1 true = 3 := by decide
          rw [fe] at FR
          unfold imgV parV at FR
          have FR := Lib.hid FR
          clear fe hc2 own1 gm1 gp1
          go_wp2_with fail
          refine FR.out.mono ?_
          rintro e w5 ⟨rfl, hb5⟩
          go_wp2_with fail
          go_ret
          exact ⟨rfl, below_trans hb2 hb5⟩
      · rw [hk2]
        clear hk2
        go_wp2_with fail
        refine (W2.out _).mono ?_
        rintro e w7 ⟨rfl, rfl⟩
        clear W2
        rcases K.out with hk3 | hk3 | hk3 | hk3 | hk3
        · rw [hk3]
          clear hk3
          have cf : V1.cell? ⟨g, 5, none⟩ = some (.int .i64 8) := own1.at_.cells (k := 1) (j := 0) (by omega) rfl
          have ff : V1.frozen? ⟨g, 5, none⟩ = false := own1.frozen _
          have own2 := own1.stored (k := 1) (j := 0) (by omega) (by omega) (.int .i64 9)
          have hc2 : CompsAt (V1.setCell ⟨g, 5, none⟩ (.int .i64 9)) (V1.setCell ⟨g, 5, none⟩ (.int .i64 9)).heap.size (some ⟨g, 0, none⟩) 2 (fun i => if i = 1 then (⟨9, false, 1, 1, none, 0, 0⟩ : CompD) else comp8) := comps_of_cells (own2.at_.congr (fun i _ => by (try dsimp only); split <;> rfl))
          have hb2 : Below w.heap.size w (V1.setCell ⟨g, 5, none⟩ (.int .i64 9)) := hb1.setCell (p := ⟨g, 5, none⟩) hgb _
          have mm : ∀ i, (V1.setCell ⟨g, 5, none⟩ (.int .i64 9)).cell? ⟨q, i, none⟩ = V1.cell? ⟨q, i, none⟩ := fun i => World.cell?_of_block (Below.heap_setCell _ _ _ _ (fun h => hgq h.symm))
          have pp : ∀ i, (V1.setCell ⟨g, 5, none⟩ (.int .i64 9)).cell? ⟨q + 1, i, none⟩ = V1.cell? ⟨q + 1, i, none⟩ := fun i => World.cell?_of_block (Below.heap_setCell _ _ _ _ (fun h => hgp h.symm))
          have mm0 := (mm 0).trans m0
          have mm1 := (mm 1).trans m1
          have mm2 := (mm 2).trans m2
          have mm3 := (mm 3).trans m3
          have mm4 := (mm 4).trans m4
          have pp0 := (pp 0).trans p0
          have pp1 := (pp 1).trans p1
          have pp2 := (pp 2).trans p2
          have pp3 := (pp 3).trans p3
          have pp4 := (pp 4).trans p4
          have pp5 := (pp 5).trans p5
          have pp6 := (pp 6).trans p6
          have pp7 := (pp 7).trans p7
          have pp8 := (pp 8).trans p8
          have pp9 := (pp 9).trans p9
          have pp10 := (pp 10).trans p10
          have pp11 := (pp 11).trans p11
          clear mm pp own2
          have FR := frame_any 8 8 0 0 _ 2 cx (fun i => if i = 1 then (⟨9, false, 1, 1, none, 0, 0⟩ : CompD) else comp8) 64 64 2 4 4 15 0 0 1 true false false _ hc2 own1.cap.1
          have fe : frameE 8 8 0 0 2 (fun i => if i = 1 then (⟨9, false, 1, 1, none, 0, 0⟩ : CompD) else comp8) 64 64 2 4 4 15 0 0 1 true = 3 := by decide
          rw [fe] at FR
          unfold imgV parV at FR
          have FR := Lib.hid FR
          clear fe hc2 own1 gm1 gp1
          go_wp2_with fail
          refine FR.out.mono ?_
          rintro e w5 ⟨rfl, hb5⟩
          go_wp2_with fail
          go_ret
          exact ⟨rfl, below_trans hb2 hb5⟩
        · rw [hk3]
          clear hk3
          have cf : V1.cell? ⟨g, 6, none⟩ = some (.bool false) := own1.at_.cells (k := 1) (j := 1) (by omega) rfl
          have ff : V1.frozen? ⟨g, 6, none⟩ = false := own1.frozen _
          have own2 := own1.stored (k := 1) (j := 1) (by omega) (by omega) (.bool true)
          have hc2 : CompsAt (V1.setCell ⟨g, 6, none⟩ (.bool true)) (V1.setCell ⟨g, 6, none⟩ (.bool true)).heap.size (some ⟨g, 0, none⟩) 2 (fun i => if i = 1 then (⟨8, true, 1, 1, none, 0, 0⟩ : CompD) else comp8) := comps_of_cells (own2.at_.congr (fun i _ => by (try dsimp only); split <;> rfl))
          have hb2 : Below w.heap.size w (V1.setCell ⟨g, 6, none⟩ (.bool true)) := hb1.setCell (p := ⟨g, 6, none⟩) hgb _
          have mm : ∀ i, (V1.setCell ⟨g, 6, none⟩ (.bool true)).cell? ⟨q, i, none⟩ = V1.cell? ⟨q, i, none⟩ := fun i => World.cell?_of_block (Below.heap_setCell _ _ _ _ (fun h => hgq h.symm))
          have pp : ∀ i, (V1.setCell ⟨g, 6, none⟩ (.bool true)).cell? ⟨q + 1, i, none⟩ = V1.cell? ⟨q + 1, i, none⟩ := fun i => World.cell?_of_block (Below.heap_setCell _ _ _ _ (fun h => hgp h.symm))
          have mm0 := (mm 0).trans m0
          have mm1 := (mm 1).trans m1
          have mm2 := (mm 2).trans m2
          have mm3 := (mm 3).trans m3
          have mm4 := (mm 4).trans m4
          have pp0 := (pp 0).trans p0
          have pp1 := (pp 1).trans p1
          have pp2 := (pp 2).trans p2
          have pp3 := (pp 3).trans p3
          have pp4 := (pp 4).trans p4
          have pp5 := (pp 5).trans p5
          have pp6 := (pp 6).trans p6
          have pp7 := (pp 7).trans p7
          have pp8 := (pp 8).trans p8
          have pp9 := (pp 9).trans p9
          have pp10 := (pp 10).trans p10
          have pp11 := (pp 11).trans p11
          clear mm pp own2
          have FR := frame_any 8 8 0 0 _ 2 cx (fun i => if i = 1 then (⟨8, true, 1, 1, none, 0, 0⟩ : CompD) else comp8) 64 64 2 4 4 15 0 0 1 true false false _ hc2 own1.cap.1
          have fe : frameE 8 8 0 0 2 (fun i => if i = 1 then (⟨8, true, 1, 1, none, 0, 0⟩ : CompD) else comp8) 64 64 2 4 4 15 0 0 1 true = 3 := by decide
          rw [fe] at FR
          unfold imgV parV at FR
          have FR := Lib.hid FR
          clear fe hc2 own1 gm1 gp1
          go_wp2_with fail
          refine FR.out.mono ?_
          rintro e w5 ⟨rfl, hb5⟩
          go_wp2_with fail
          go_ret
          exact ⟨rfl, below_trans hb2 hb5⟩
        · rw [hk3]
          clear hk3
          have cf : V1.cell? ⟨g, 7, none⟩ = some (.int .i64 1) := own1.at_.cells (k := 1) (j := 2) (by omega) rfl
          have ff : V1.frozen? ⟨g, 7, none⟩ = false := own1.frozen _
          have own2 := own1.stored (k := 1) (j := 2) (by omega) (by omega) (.int .i64 2)
          have hc2 : CompsAt (V1.setCell ⟨g, 7, none⟩ (.int .i64 2)) (V1.setCell ⟨g, 7, none⟩ (.int .i64 2)).heap.size (some ⟨g, 0, none⟩) 2 (fun i => if i = 1 then (⟨8, false, 2, 1, none, 0, 0⟩ : CompD) else comp8) := comps_of_cells (own2.at_.congr (fun i _ => by (try dsimp only); split <;> rfl))
          have hb2 : Below w.heap.size w (V1.setCell ⟨g, 7, none⟩ (.int .i64 2)) := hb1.setCell (p := ⟨g, 7, none⟩) hgb _
          have mm : ∀ i, (V1.setCell ⟨g, 7, none⟩ (.int .i64 2)).cell? ⟨q, i, none⟩ = V1.cell? ⟨q, i, none⟩ := fun i => World.cell?_of_block (Below.heap_setCell _ _ _ _ (fun h => hgq h.symm))
          have pp : ∀ i, (V1.setCell ⟨g, 7, none⟩ (.int .i64 2)).cell? ⟨q + 1, i, none⟩ = V1.cell? ⟨q + 1, i, none⟩ := fun i => World.cell?_of_block (Below.heap_setCell _ _ _ _ (fun h => hgp h.symm))
          have mm0 := (mm 0).trans m0
          have mm1 := (mm 1).trans m1
          have mm2 := (mm 2).trans m2
          have mm3 := (mm 3).trans m3
          have mm4 := (mm 4).trans m4
          have pp0 := (pp 0).trans p0
          have pp1 := (pp 1).trans p1
          have pp2 := (pp 2).trans p2
          have pp3 := (pp 3).trans p3
          have pp4 := (pp 4).trans p4
          have pp5 := (pp 5).trans p5
          have pp6 := (pp 6).trans p6
          have pp7 := (pp 7).trans p7
          have pp8 := (pp 8).trans p8
          have pp9 := (pp 9).trans p9
          have pp10 := (pp 10).trans p10
          have pp11 := (pp 11).trans p11
          clear mm pp own2
          have FR := frame_any 8 8 0 0 _ 2 cx (fun i => if i = 1 then (⟨8, false, 2, 1, none, 0, 0⟩ : CompD) else comp8) 64 64 2 4 4 15 0 0 1 true false false _ hc2 own1.cap.1
          have fe : frameE 8 8 0 0 2 (fun i => if i = 1 then (⟨8, false, 2, 1, none, 0, 0⟩ : CompD) else comp8) 64 64 2 4 4 15 0 0 1 true = 3 := by decide
          rw [fe] at FR
          unfold imgV parV at FR
          have FR := Lib.hid FR
          clear fe hc2 own1 gm1 gp1
          go_wp2_with fail
          refine FR.out.mono ?_
          rintro e w5 ⟨rfl, hb5⟩
          go_wp2_with fail
          go_ret
          exact ⟨rfl, below_trans hb2 hb5⟩
        · rw [hk3]
          clear hk3
          have cf : V1.cell? ⟨g, 8, none⟩ = some (.int .i64 1) := own1.at_.cells (k := 1) (j := 3) (by omega) rfl
          have ff : V1.frozen? ⟨g, 8, none⟩ = false := own1.frozen _
          have own2 := own1.stored (k := 1) (j := 3) (by omega) (by omega) (.int .i64 2)
          have hc2 : CompsAt (V1.setCell ⟨g, 8, none⟩ (.int .i64 2)) (V1.setCell ⟨g, 8, none⟩ (.int .i64 2)).heap.size (some ⟨g, 0, none⟩) 2 (fun i => if i = 1 then (⟨8, false, 1, 2, none, 0, 0⟩ : CompD) else comp8) := comps_of_cells (own2.at_.congr (fun i _ => by (try dsimp only); split <;> rfl))
          have hb2 : Below w.heap.size w (V1.setCell ⟨g, 8, none⟩ (.int .i64 2)) := hb1.setCell (p := ⟨g, 8, none⟩) hgb _
          have mm : ∀ i, (V1.setCell ⟨g, 8, none⟩ (.int .i64 2)).cell? ⟨q, i, none⟩ = V1.cell? ⟨q, i, none⟩ := fun i => World.cell?_of_block (Below.heap_setCell _ _ _ _ (fun h => hgq h.symm))
          have pp : ∀ i, (V1.setCell ⟨g, 8, none⟩ (.int .i64 2)).cell? ⟨q + 1, i, none⟩ = V1.cell? ⟨q + 1, i, none⟩ := fun i => World.cell?_of_block (Below.heap_setCell _ _ _ _ (fun h => hgp h.symm))
          have mm0 := (mm 0).trans m0
          have mm1 := (mm 1).trans m1
          have mm2 := (mm 2).trans m2
          have mm3 := (mm 3).trans m3
          have mm4 := (mm 4).trans m4
          have pp0 := (pp 0).trans p0
          have pp1 := (pp 1).trans p1
          have pp2 := (pp 2).trans p2
          have pp3 := (pp 3).trans p3
          have pp4 := (pp 4).trans p4
          have pp5 := (pp 5).trans p5
          have pp6 := (pp 6).trans p6
          have pp7 := (pp 7).trans p7
          have pp8 := (pp 8).trans p8
          have pp9 := (pp 9).trans p9
          have pp10 := (pp 10).trans p10
          have pp11 := (pp 11).trans p11
          clear mm pp own2
          have FR := frame_any 8 8 0 0 _ 2 cx (fun i => if i = 1 then (⟨8, false, 1, 2, none, 0, 0⟩ : CompD) else comp8) 64 64 2 4 4 15 0 0 1 true false false _ hc2 own1.cap.1
          have fe : frameE 8 8 0 0 2 (fun i => if i = 1 then (⟨8, false, 1, 2, none, 0, 0⟩ : CompD) else comp8) 64 64 2 4 4 15 0 0 1 true = 3 := by decide
          rw [fe] at FR
          unfold imgV parV at FR
          have FR := Lib.hid FR
          clear fe hc2 own1 gm1 gp1
          go_wp2_with fail
          refine FR.out.mono ?_
          rintro e w5 ⟨rfl, hb5⟩
          go_wp2_with fail
          go_ret
          exact ⟨rfl, below_trans hb2 hb5⟩
        · rw [hk3]
          clear hk3
          have hc2 : CompsAt V1 V1.heap.size (some ⟨g, 0, none⟩) 2 (fun _ => comp8) := comps_of_cells own1.at_
          have hb2 := hb1
          have FR := frame_any 8 8 0 0 _ 2 cx (fun _ => comp8) 64 64 2 4 4 15 0 0 1 true false false _ hc2 own1.cap.1
          have fe : frameE 8 8 0 0 2 (fun _ => comp8) 64 64 2 4 4 15 0 0 1 true = 3 := by decide
          rw [fe] at FR
          unfold imgV parV at FR
          have FR := Lib.hid FR
          clear fe hc2 own1 gm1 gp1
          go_wp2_with fail
          refine FR.out.mono ?_
          rintro e w5 ⟨rfl, hb5⟩
          go_wp2_with fail
          go_ret
          exact ⟨rfl, below_trans hb2 hb5⟩
theorem turn_3 (comps at_ which : Int) (hc : comps % 4 = 2) (hk : which % 5 = 0 ∨ which % 5 = 1 ∨ which % 5 = 2 ∨ which % 5 = 3 ∨ which % 5 = 4) (w : World) : Calls Try.prog 4 #[.int .i64 comps, .int .i64 at_, .int .i64 which] w fun e w' => e = .returned (.bool true) ∧ Below w.heap.size w w' := by
  have W0 := Lib.hid (fun (v : World) => by have := within12 comps 4 (by omega) (by omega) v; rw [hc] at this; exact this)
  have W1 := Lib.hid (fun (v : World) => by have := within12 at_ 3 (by omega) (by omega) v; exact this)
  have W2 := Lib.hid (fun (v : World) => by have := within12 which 5 (by omega) (by omega) v; exact this)
  have K := Lib.hid hk
  clear hk
  go_enter Try.func4, Try.ntmps4
  go_wp2_with fail
  refine (known12 _).mono ?_
  rintro e w1 ⟨rfl, hb1⟩
  go_wp2_with fail
  refine (W0.out _).mono ?_
  rintro e w1' ⟨rfl, rfl⟩
  go_wp2_with fail
  refine (one_any 8 8 0 0 _).mono ?_
  rintro e w2 ⟨b, rfl, gb, hbb, hb2⟩
  unfold parV
  have hbl := below_trans hb1 hb2
  have hlt : b < w2.heap.size := (Array.getElem?_eq_some_iff.1 gb).1
  have hws := hbl.size
  have hwb := Nat.le_trans hb1.size hbb
  clear hb1 hb2 hbb W0
  go_wp2_with fail
  generalize hw3 : World.alloc (World.alloc w2 _) _ = W3
  have gb3 : W3.heap[b]? = some (.cells #[.int .i64 8, .bool false, .int .i64 1, .int .i64 1, .slice none 0 0] 34 (0, 0)) := by rw [← hw3]; exact (Below.heap_alloc _ _ _ (by simp; omega)).trans ((Below.heap_alloc _ _ _ (by omega)).trans gb)
  have gm3 : W3.heap[w2.heap.size]? = some (.cells #[.int .i64 8, .int .i64 8, .int .i64 0, .int .i64 0, .slice (some ⟨b, 0, none⟩) 1 1] 25 (0, 0)) := by rw [← hw3]; exact (Below.heap_alloc _ _ _ (by simp)).trans (heap_alloc_new w2 _)
  have gp3 : W3.heap[w2.heap.size + 1]? = some (.cells #[.int .i64 64, .int .i64 64, .int .i64 2, .int .i64 4, .int .i64 4, .int .i64 15, .int .i64 0, .int .i64 0, .int .i64 1, .bool false, .bool false, .bool false] 27 (0, 0)) := by rw [← hw3]; exact heap_alloc_new2 w2 _ _
  have hbl3 : Below w.heap.size w W3 := by rw [← hw3]; exact below_alloc (below_alloc hbl _) _
  have o0 : OwnC W3 w.heap.size 34 5 (.slice (some ⟨b, 0, none⟩) 1 1) 1 (fun _ => compL comp8) := OwnC.of_block gb3 hwb (fun _ => rfl) (by unfold maxLen; omega) rfl
  clear hw3 gb gb3 hbl
  obtain ⟨q, hq⟩ : ∃ q, w2.heap.size = q := ⟨_, rfl⟩
  rw [hq] at gm3 gp3 hws
  rw [hq]
  clear hq hlt hwb
  go_loopg [] 2 (fun k wr => ∃ (j : Nat) (X : Option Addr) (cx : Nat), 1 ≤ j ∧ j ≤ 3 ∧ k + j = 3 ∧ wr.heap[q]? = some (.cells #[.int .i64 8, .int .i64 8, .int .i64 0, .int .i64 0, .slice X j cx] 25 (0, 0)) ∧ wr.heap[q + 1]? = some (.cells #[.int .i64 64, .int .i64 64, .int .i64 2, .int .i64 4, .int .i64 4, .int .i64 15, .int .i64 0, .int .i64 0, .int .i64 1, .bool false, .bool false, .bool false] 27 (0, 0)) ∧ OwnC wr w.heap.size 34 5 (.slice X j cx) j (fun _ => compL comp8) ∧ Below w.heap.size w wr)
  case atStart => exact ⟨1, _, 1, by omega, by omega, rfl, gm3, gp3, o0, hbl3⟩
  case round =>
    obtain ⟨j, X, cx, h1, h2, hkj, gm, gp, own, hbel⟩ := hrel
    have m := fun i => cell_of_row _ _ i _ _ (0, 0) gm
    have m4 : wr.cell? ⟨q, 4, none⟩ = some (.slice X j cx) := m 4
    have hqp := (Array.getElem?_eq_some_iff.1 gp).1
    have hqs := (Array.getElem?_eq_some_iff.1 gm).1
    by_cases hlt : j < 3
    · obtain ⟨A0, cc0, e, hjc, _, hat, _⟩ := own.form
      injection e with e1 _ e2
      subst e1 e2
      obtain ⟨g, off, rfl, hgl, hc⟩ := hat.at_ (k := 0) (by omega)
      rw [Nat.zero_mul, Nat.add_zero] at hc
      have k0 : wr.cell? ⟨g, off + 0, none⟩ = some (.int .i64 8) := hc 0 _ rfl
      have k1 : wr.cell? ⟨g, off + 1, none⟩ = some (.bool false) := hc 1 _ rfl
      have k2 : wr.cell? ⟨g, off + 2, none⟩ = some (.int .i64 1) := hc 2 _ rfl
      have k3 : wr.cell? ⟨g, off + 3, none⟩ = some (.int .i64 1) := hc 3 _ rfl
      have k4 : wr.cell? ⟨g, off + 4, none⟩ = some (.slice none 0 0) := hc 4 _ rfl
      rw [Nat.add_zero] at k0
      have l0 : (0 : Int) < j := by omega
      clear hc m hat
      go_wp2_with fail
      refine held_region (by kernel_rfl) (fun _ => True) (fun _ _ h => h) (fun hS => ?_) trivial
      have bV : Below wr.heap.size wr wr.drew := (Below.refl _ _).drew
      generalize wr.drew = V0 at *
      refine wpAnyH_take (i := 0) (v := .pointer (some ⟨q, 4, none⟩)) rfl (by kernel_rfl) (by kernel_rfl) (by kernel_rfl) (fun _ _ _ h => h) (Or.inl ⟨by rfl, ?_⟩) hS ?_
      · intro U hU
        go_simp
      simp only [Act.put, List.setIfInBounds_toArray, List.set_cons_zero, List.set_cons_succ]
      refine wpAnyH_take (i := 2) (v := .pointer (some ⟨q, 4, none⟩)) rfl (by kernel_rfl) (by kernel_rfl) (by kernel_rfl) (fun _ _ _ h => h) (Or.inl ⟨by rfl, ?_⟩) hS ?_
      · intro U hU
        go_simp
      simp only [Act.put, List.setIfInBounds_toArray, List.set_cons_zero, List.set_cons_succ]
      refine wpAnyH_ready (rs := [1, 3]) (by kernel_rfl) (by simp) ?_
      refine AllReadyH.cons (by simp only [List.getElem?_toArray, List.getElem?_cons_succ, List.getElem?_cons_zero]; rfl) (fun K' hK' => ?_) (AllReadyH.cons (by simp only [List.getElem?_toArray, List.getElem?_cons_succ, List.getElem?_cons_zero]; rfl) (fun K' hK' => ?_) AllReadyH.nil)
      · have xm := (bV.cell (p := ⟨q, 4, none⟩) hqs).trans m4
        go_simp
        refine hK'.out _ _ trivial (fun _ => ?_)
        clear xm
        clear hK' K'
        try simp only [Act.put, List.setIfInBounds_toArray, List.set_cons_zero, List.set_cons_succ]
        refine wpAnyH_ready (rs := [3]) (by kernel_rfl) (by simp) ?_
        refine AllReadyH.cons (by simp only [List.getElem?_toArray, List.getElem?_cons_succ, List.getElem?_cons_zero]; rfl) (fun K' hK' => ?_) AllReadyH.nil
        have xm := (bV.cell (p := ⟨q, 4, none⟩) hqs).trans m4
        go_simp
        refine hK'.out _ _ trivial (fun _ => ?_)
        clear xm
        clear hK' K'
        try simp only [Act.put, List.setIfInBounds_toArray, List.set_cons_zero, List.set_cons_succ]
        refine wpAnyH_take (i := 4) (v := .pointer (some ⟨g, off, none⟩)) rfl (by kernel_rfl) (by kernel_rfl) (by kernel_rfl) (fun _ _ _ h => h) (Or.inl ⟨by rfl, ?_⟩) hS ?_
        · intro U hU
          go_simp
          intro h
          exact absurd h (by omega)
        simp only [Act.put, List.setIfInBounds_toArray, List.set_cons_zero, List.set_cons_succ]
        refine wpAnyH_ready (rs := [5]) (by kernel_rfl) (by simp) ?_
        refine AllReadyH.cons (by simp only [List.getElem?_toArray, List.getElem?_cons_succ, List.getElem?_cons_zero]; rfl) (fun K' hK' => ?_) AllReadyH.nil
        have x0 := (bV.cell (p := ⟨g, off, none⟩) hgl).trans k0
        have x1 := (bV.cell (p := ⟨g, off + 1, none⟩) hgl).trans k1
        have x2 := (bV.cell (p := ⟨g, off + 2, none⟩) hgl).trans k2
        have x3 := (bV.cell (p := ⟨g, off + 3, none⟩) hgl).trans k3
        have x4 := (bV.cell (p := ⟨g, off + 4, none⟩) hgl).trans k4
        go_simp
        refine hK'.out _ _ trivial (fun _ => ?_)
        clear x0 x1 x2 x3 x4
        clear hK' K'
        try simp only [Act.put, List.setIfInBounds_toArray, List.set_cons_zero, List.set_cons_succ]
        refine wpAnyH_ready (rs := [6]) (by kernel_rfl) (by simp) ?_
        refine AllReadyH.cons (by simp only [List.getElem?_toArray, List.getElem?_cons_succ, List.getElem?_cons_zero]; rfl) (fun K' hK' => ?_) AllReadyH.nil
        go_simp
        have bu3 := below_alloc bV (.cells #[.int .i64 8, .bool false, .int .i64 1, .int .i64 1, .slice none 0 0] 34)
        refine hK'.out _ _ trivial (fun _ => ?_)
        obtain ⟨h0, hh0⟩ : ∃ h0, V0.heap.size = h0 := ⟨_, rfl⟩
        try rw [hh0]
        have hcel : ∀ (i : Nat) (u : Value), (compL comp8)[i]? = some u → (V0.alloc (.cells #[.int .i64 8, .bool false, .int .i64 1, .int .i64 1, .slice none 0 0] 34)).cell? ⟨h0, i, none⟩ = some u := fun i u hi => by
          rw [← hh0, cell_of_row _ _ _ _ _ (0, 0) (heap_alloc_new V0 _)]
          rw [← hi, List.getElem?_toArray]; rfl
        generalize V0.alloc (.cells #[.int .i64 8, .bool false, .int .i64 1, .int .i64 1, .slice none 0 0] 34) = U3 at *
        clear hh0
        clear hK' K'
        try simp only [Act.put, List.setIfInBounds_toArray, List.set_cons_zero, List.set_cons_succ]
        refine wpAnyH_ready (rs := [7]) (by kernel_rfl) (by simp) ?_
        refine AllReadyH.cons (by simp only [List.getElem?_toArray, List.getElem?_cons_succ, List.getElem?_cons_zero]; rfl) (fun K' hK' => ?_) AllReadyH.nil
        refine step_appC wr bu3 (others_of_below bu3) (by rfl) _ _ 23 (by rfl) 34 5 comp_elem w.heap.size _ j _ _ (by rfl) own h0 (by rfl) hcel (fun u hu => by simp [compL, comp8] at hu; rcases hu with rfl | rfl | rfl | rfl | rfl <;> rfl) (by omega) hbel.size ?_
        intro g1 cap U4 og sg hg
        refine hK'.out _ _ trivial (fun _ => ?_)
        clear hcel
        clear hK' K'
        try simp only [Act.put, List.setIfInBounds_toArray, List.set_cons_zero, List.set_cons_succ]
        refine wpAnyH_take (i := 8) (v := .pointer (some ⟨q, 4, none⟩)) rfl (by kernel_rfl) (by kernel_rfl) (by kernel_rfl) (fun _ _ _ h => h) (Or.inl ⟨by rfl, ?_⟩) hS ?_
        · intro U hU
          go_simp
        simp only [Act.put, List.setIfInBounds_toArray, List.set_cons_zero, List.set_cons_succ]
        refine wpAnyH_ready (rs := [9]) (by kernel_rfl) (by simp) ?_
        refine AllReadyH.cons (by simp only [List.getElem?_toArray, List.getElem?_cons_succ, List.getElem?_cons_zero]; rfl) (fun K' hK' => ?_) AllReadyH.nil
        have xm := (sg.cells ⟨q, 4, none⟩ hqs (own.ne_block gm (by decide))).trans m4
        have hq5 : U4.heap[q]? = some (.cells #[.int .i64 8, .int .i64 8, .int .i64 0, .int .i64 0, .slice (some ⟨g, off, none⟩) j cx] 25 (0, 0)) := (sg.blocks q hqs (own.ne_block gm (by decide))).trans gm
        have fm := frozen_of_row _ _ 4 _ _ hq5
        go_simp
        refine hK'.out _ _ trivial (fun _ => ?_)
        clear hK' K'
        try simp only [Act.put, List.setIfInBounds_toArray, List.set_cons_zero, List.set_cons_succ]
        refine wpAnyH_done (by kernel_rfl) ?_ _
        simp only [OnlyN]
        have gm6 := heap_set_same (j := 4) hq5 (.slice (some ⟨g1, 0, none⟩) (j + 1) cap)
        have gp6 := (Below.heap_setCell U4 ⟨q, 4, none⟩ (.slice (some ⟨g1, 0, none⟩) (j + 1) cap) (q + 1) (by simp only; omega)).trans ((sg.blocks (q + 1) hqp (own.ne_block gp (by decide))).trans gp)
        have og6 := og.other (a := ⟨q, 4, none⟩) (og.ne_block hq5 (by decide)) (.slice (some ⟨g1, 0, none⟩) (j + 1) cap)
        have hb6 := (hbel.trans sg.below).setCell (p := ⟨q, 4, none⟩) hws (.slice (some ⟨g1, 0, none⟩) (j + 1) cap)
        go_wp2_with fail
        go_roundg (gk - 1)
        case measure => omega
        case rel => exact ⟨j + 1, _, cap, by omega, by omega, by omega, gm6, gp6, og6, hb6⟩
      · have xm := (bV.cell (p := ⟨q, 4, none⟩) hqs).trans m4
        go_simp
        refine hK'.out _ _ trivial (fun _ => ?_)
        clear xm
        clear hK' K'
        try simp only [Act.put, List.setIfInBounds_toArray, List.set_cons_zero, List.set_cons_succ]
        refine wpAnyH_take (i := 4) (v := .pointer (some ⟨g, off, none⟩)) rfl (by kernel_rfl) (by kernel_rfl) (by kernel_rfl) (fun _ _ _ h => h) (Or.inl ⟨by rfl, ?_⟩) hS ?_
        · intro U hU
          go_simp
          intro h
          exact absurd h (by omega)
        simp only [Act.put, List.setIfInBounds_toArray, List.set_cons_zero, List.set_cons_succ]
        refine wpAnyH_ready (rs := [1, 5]) (by kernel_rfl) (by simp) ?_
        refine AllReadyH.cons (by simp only [List.getElem?_toArray, List.getElem?_cons_succ, List.getElem?_cons_zero]; rfl) (fun K' hK' => ?_) (AllReadyH.cons (by simp only [List.getElem?_toArray, List.getElem?_cons_succ, List.getElem?_cons_zero]; rfl) (fun K' hK' => ?_) AllReadyH.nil)
        · have xm := (bV.cell (p := ⟨q, 4, none⟩) hqs).trans m4
          go_simp
          refine hK'.out _ _ trivial (fun _ => ?_)
          clear xm
          clear hK' K'
          try simp only [Act.put, List.setIfInBounds_toArray, List.set_cons_zero, List.set_cons_succ]
          refine wpAnyH_ready (rs := [5]) (by kernel_rfl) (by simp) ?_
          refine AllReadyH.cons (by simp only [List.getElem?_toArray, List.getElem?_cons_succ, List.getElem?_cons_zero]; rfl) (fun K' hK' => ?_) AllReadyH.nil
          have x0 := (bV.cell (p := ⟨g, off, none⟩) hgl).trans k0
          have x1 := (bV.cell (p := ⟨g, off + 1, none⟩) hgl).trans k1
          have x2 := (bV.cell (p := ⟨g, off + 2, none⟩) hgl).trans k2
          have x3 := (bV.cell (p := ⟨g, off + 3, none⟩) hgl).trans k3
          have x4 := (bV.cell (p := ⟨g, off + 4, none⟩) hgl).trans k4
          go_simp
          refine hK'.out _ _ trivial (fun _ => ?_)
          clear x0 x1 x2 x3 x4
          clear hK' K'
          try simp only [Act.put, List.setIfInBounds_toArray, List.set_cons_zero, List.set_cons_succ]
          refine wpAnyH_ready (rs := [6]) (by kernel_rfl) (by simp) ?_
          refine AllReadyH.cons (by simp only [List.getElem?_toArray, List.getElem?_cons_succ, List.getElem?_cons_zero]; rfl) (fun K' hK' => ?_) AllReadyH.nil
          go_simp
          have bu9 := below_alloc bV (.cells #[.int .i64 8, .bool false, .int .i64 1, .int .i64 1, .slice none 0 0] 34)
          refine hK'.out _ _ trivial (fun _ => ?_)
          obtain ⟨h0, hh0⟩ : ∃ h0, V0.heap.size = h0 := ⟨_, rfl⟩
          try rw [hh0]
          have hcel : ∀ (i : Nat) (u : Value), (compL comp8)[i]? = some u → (V0.alloc (.cells #[.int .i64 8, .bool false, .int .i64 1, .int .i64 1, .slice none 0 0] 34)).cell? ⟨h0, i, none⟩ = some u := fun i u hi => by
            rw [← hh0, cell_of_row _ _ _ _ _ (0, 0) (heap_alloc_new V0 _)]
            rw [← hi, List.getElem?_toArray]; rfl
          generalize V0.alloc (.cells #[.int .i64 8, .bool false, .int .i64 1, .int .i64 1, .slice none 0 0] 34) = U9 at *
          clear hh0
          clear hK' K'
          try simp only [Act.put, List.setIfInBounds_toArray, List.set_cons_zero, List.set_cons_succ]
          refine wpAnyH_ready (rs := [7]) (by kernel_rfl) (by simp) ?_
          refine AllReadyH.cons (by simp only [List.getElem?_toArray, List.getElem?_cons_succ, List.getElem?_cons_zero]; rfl) (fun K' hK' => ?_) AllReadyH.nil
          refine step_appC wr bu9 (others_of_below bu9) (by rfl) _ _ 23 (by rfl) 34 5 comp_elem w.heap.size _ j _ _ (by rfl) own h0 (by rfl) hcel (fun u hu => by simp [compL, comp8] at hu; rcases hu with rfl | rfl | rfl | rfl | rfl <;> rfl) (by omega) hbel.size ?_
          intro g1 cap U10 og sg hg
          refine hK'.out _ _ trivial (fun _ => ?_)
          clear hcel
          clear hK' K'
          try simp only [Act.put, List.setIfInBounds_toArray, List.set_cons_zero, List.set_cons_succ]
          refine wpAnyH_take (i := 8) (v := .pointer (some ⟨q, 4, none⟩)) rfl (by kernel_rfl) (by kernel_rfl) (by kernel_rfl) (fun _ _ _ h => h) (Or.inl ⟨by rfl, ?_⟩) hS ?_
          · intro U hU
            go_simp
          simp only [Act.put, List.setIfInBounds_toArray, List.set_cons_zero, List.set_cons_succ]
          refine wpAnyH_ready (rs := [9]) (by kernel_rfl) (by simp) ?_
          refine AllReadyH.cons (by simp only [List.getElem?_toArray, List.getElem?_cons_succ, List.getElem?_cons_zero]; rfl) (fun K' hK' => ?_) AllReadyH.nil
          have xm := (sg.cells ⟨q, 4, none⟩ hqs (own.ne_block gm (by decide))).trans m4
          have hq5 : U10.heap[q]? = some (.cells #[.int .i64 8, .int .i64 8, .int .i64 0, .int .i64 0, .slice (some ⟨g, off, none⟩) j cx] 25 (0, 0)) := (sg.blocks q hqs (own.ne_block gm (by decide))).trans gm
          have fm := frozen_of_row _ _ 4 _ _ hq5
          go_simp
          refine hK'.out _ _ trivial (fun _ => ?_)
          clear hK' K'
          try simp only [Act.put, List.setIfInBounds_toArray, List.set_cons_zero, List.set_cons_succ]
          refine wpAnyH_done (by kernel_rfl) ?_ _
          simp only [OnlyN]
          have gm6 := heap_set_same (j := 4) hq5 (.slice (some ⟨g1, 0, none⟩) (j + 1) cap)
          have gp6 := (Below.heap_setCell U10 ⟨q, 4, none⟩ (.slice (some ⟨g1, 0, none⟩) (j + 1) cap) (q + 1) (by simp only; omega)).trans ((sg.blocks (q + 1) hqp (own.ne_block gp (by decide))).trans gp)
          have og6 := og.other (a := ⟨q, 4, none⟩) (og.ne_block hq5 (by decide)) (.slice (some ⟨g1, 0, none⟩) (j + 1) cap)
          have hb6 := (hbel.trans sg.below).setCell (p := ⟨q, 4, none⟩) hws (.slice (some ⟨g1, 0, none⟩) (j + 1) cap)
          go_wp2_with fail
          go_roundg (gk - 1)
          case measure => omega
          case rel => exact ⟨j + 1, _, cap, by omega, by omega, by omega, gm6, gp6, og6, hb6⟩
        · have x0 := (bV.cell (p := ⟨g, off, none⟩) hgl).trans k0
          have x1 := (bV.cell (p := ⟨g, off + 1, none⟩) hgl).trans k1
          have x2 := (bV.cell (p := ⟨g, off + 2, none⟩) hgl).trans k2
          have x3 := (bV.cell (p := ⟨g, off + 3, none⟩) hgl).trans k3
          have x4 := (bV.cell (p := ⟨g, off + 4, none⟩) hgl).trans k4
          go_simp
          refine hK'.out _ _ trivial (fun _ => ?_)
          clear x0 x1 x2 x3 x4
          clear hK' K'
          try simp only [Act.put, List.setIfInBounds_toArray, List.set_cons_zero, List.set_cons_succ]
          refine wpAnyH_ready (rs := [1, 6]) (by kernel_rfl) (by simp) ?_
          refine AllReadyH.cons (by simp only [List.getElem?_toArray, List.getElem?_cons_succ, List.getElem?_cons_zero]; rfl) (fun K' hK' => ?_) (AllReadyH.cons (by simp only [List.getElem?_toArray, List.getElem?_cons_succ, List.getElem?_cons_zero]; rfl) (fun K' hK' => ?_) AllReadyH.nil)
          · have xm := (bV.cell (p := ⟨q, 4, none⟩) hqs).trans m4
            go_simp
            refine hK'.out _ _ trivial (fun _ => ?_)
            clear xm
            clear hK' K'
            try simp only [Act.put, List.setIfInBounds_toArray, List.set_cons_zero, List.set_cons_succ]
            refine wpAnyH_ready (rs := [6]) (by kernel_rfl) (by simp) ?_
            refine AllReadyH.cons (by simp only [List.getElem?_toArray, List.getElem?_cons_succ, List.getElem?_cons_zero]; rfl) (fun K' hK' => ?_) AllReadyH.nil
            go_simp
            have bu14 := below_alloc bV (.cells #[.int .i64 8, .bool false, .int .i64 1, .int .i64 1, .slice none 0 0] 34)
            refine hK'.out _ _ trivial (fun _ => ?_)
            obtain ⟨h0, hh0⟩ : ∃ h0, V0.heap.size = h0 := ⟨_, rfl⟩
            try rw [hh0]
            have hcel : ∀ (i : Nat) (u : Value), (compL comp8)[i]? = some u → (V0.alloc (.cells #[.int .i64 8, .bool false, .int .i64 1, .int .i64 1, .slice none 0 0] 34)).cell? ⟨h0, i, none⟩ = some u := fun i u hi => by
              rw [← hh0, cell_of_row _ _ _ _ _ (0, 0) (heap_alloc_new V0 _)]
              rw [← hi, List.getElem?_toArray]; rfl
            generalize V0.alloc (.cells #[.int .i64 8, .bool false, .int .i64 1, .int .i64 1, .slice none 0 0] 34) = U14 at *
            clear hh0
            clear hK' K'
            try simp only [Act.put, List.setIfInBounds_toArray, List.set_cons_zero, List.set_cons_succ]
            refine wpAnyH_ready (rs := [7]) (by kernel_rfl) (by simp) ?_
            refine AllReadyH.cons (by simp only [List.getElem?_toArray, List.getElem?_cons_succ, List.getElem?_cons_zero]; rfl) (fun K' hK' => ?_) AllReadyH.nil
            refine step_appC wr bu14 (others_of_below bu14) (by rfl) _ _ 23 (by rfl) 34 5 comp_elem w.heap.size _ j _ _ (by rfl) own h0 (by rfl) hcel (fun u hu => by simp [compL, comp8] at hu; rcases hu with rfl | rfl | rfl | rfl | rfl <;> rfl) (by omega) hbel.size ?_
            intro g1 cap U15 og sg hg
            refine hK'.out _ _ trivial (fun _ => ?_)
            clear hcel
            clear hK' K'
            try simp only [Act.put, List.setIfInBounds_toArray, List.set_cons_zero, List.set_cons_succ]
            refine wpAnyH_take (i := 8) (v := .pointer (some ⟨q, 4, none⟩)) rfl (by kernel_rfl) (by kernel_rfl) (by kernel_rfl) (fun _ _ _ h => h) (Or.inl ⟨by rfl, ?_⟩) hS ?_
            · intro U hU
              go_simp
            simp only [Act.put, List.setIfInBounds_toArray, List.set_cons_zero, List.set_cons_succ]
            refine wpAnyH_ready (rs := [9]) (by kernel_rfl) (by simp) ?_
            refine AllReadyH.cons (by simp only [List.getElem?_toArray, List.getElem?_cons_succ, List.getElem?_cons_zero]; rfl) (fun K' hK' => ?_) AllReadyH.nil
            have xm := (sg.cells ⟨q, 4, none⟩ hqs (own.ne_block gm (by decide))).trans m4
            have hq5 : U15.heap[q]? = some (.cells #[.int .i64 8, .int .i64 8, .int .i64 0, .int .i64 0, .slice (some ⟨g, off, none⟩) j cx] 25 (0, 0)) := (sg.blocks q hqs (own.ne_block gm (by decide))).trans gm
            have fm := frozen_of_row _ _ 4 _ _ hq5
            go_simp
            refine hK'.out _ _ trivial (fun _ => ?_)
            clear hK' K'
            try simp only [Act.put, List.setIfInBounds_toArray, List.set_cons_zero, List.set_cons_succ]
            refine wpAnyH_done (by kernel_rfl) ?_ _
            simp only [OnlyN]
            have gm6 := heap_set_same (j := 4) hq5 (.slice (some ⟨g1, 0, none⟩) (j + 1) cap)
            have gp6 := (Below.heap_setCell U15 ⟨q, 4, none⟩ (.slice (some ⟨g1, 0, none⟩) (j + 1) cap) (q + 1) (by simp only; omega)).trans ((sg.blocks (q + 1) hqp (own.ne_block gp (by decide))).trans gp)
            have og6 := og.other (a := ⟨q, 4, none⟩) (og.ne_block hq5 (by decide)) (.slice (some ⟨g1, 0, none⟩) (j + 1) cap)
            have hb6 := (hbel.trans sg.below).setCell (p := ⟨q, 4, none⟩) hws (.slice (some ⟨g1, 0, none⟩) (j + 1) cap)
            go_wp2_with fail
            go_roundg (gk - 1)
            case measure => omega
            case rel => exact ⟨j + 1, _, cap, by omega, by omega, by omega, gm6, gp6, og6, hb6⟩
          · go_simp
            have bu17 := below_alloc bV (.cells #[.int .i64 8, .bool false, .int .i64 1, .int .i64 1, .slice none 0 0] 34)
            refine hK'.out _ _ trivial (fun _ => ?_)
            obtain ⟨h0, hh0⟩ : ∃ h0, V0.heap.size = h0 := ⟨_, rfl⟩
            try rw [hh0]
            have hcel : ∀ (i : Nat) (u : Value), (compL comp8)[i]? = some u → (V0.alloc (.cells #[.int .i64 8, .bool false, .int .i64 1, .int .i64 1, .slice none 0 0] 34)).cell? ⟨h0, i, none⟩ = some u := fun i u hi => by
              rw [← hh0, cell_of_row _ _ _ _ _ (0, 0) (heap_alloc_new V0 _)]
              rw [← hi, List.getElem?_toArray]; rfl
            generalize V0.alloc (.cells #[.int .i64 8, .bool false, .int .i64 1, .int .i64 1, .slice none 0 0] 34) = U17 at *
            clear hh0
            clear hK' K'
            try simp only [Act.put, List.setIfInBounds_toArray, List.set_cons_zero, List.set_cons_succ]
            refine wpAnyH_ready (rs := [1]) (by kernel_rfl) (by simp) ?_
            refine AllReadyH.cons (by simp only [List.getElem?_toArray, List.getElem?_cons_succ, List.getElem?_cons_zero]; rfl) (fun K' hK' => ?_) AllReadyH.nil
            have xm := (bu17.cell (p := ⟨q, 4, none⟩) hqs).trans m4
            go_simp
            refine hK'.out _ _ trivial (fun _ => ?_)
            clear xm
            clear hK' K'
            try simp only [Act.put, List.setIfInBounds_toArray, List.set_cons_zero, List.set_cons_succ]
            refine wpAnyH_ready (rs := [7]) (by kernel_rfl) (by simp) ?_
            refine AllReadyH.cons (by simp only [List.getElem?_toArray, List.getElem?_cons_succ, List.getElem?_cons_zero]; rfl) (fun K' hK' => ?_) AllReadyH.nil
            refine step_appC wr bu17 (others_of_below bu17) (by rfl) _ _ 23 (by rfl) 34 5 comp_elem w.heap.size _ j _ _ (by rfl) own h0 (by rfl) hcel (fun u hu => by simp [compL, comp8] at hu; rcases hu with rfl | rfl | rfl | rfl | rfl <;> rfl) (by omega) hbel.size ?_
            intro g1 cap U19 og sg hg
            refine hK'.out _ _ trivial (fun _ => ?_)
            clear hcel
            clear hK' K'
            try simp only [Act.put, List.setIfInBounds_toArray, List.set_cons_zero, List.set_cons_succ]
            refine wpAnyH_take (i := 8) (v := .pointer (some ⟨q, 4, none⟩)) rfl (by kernel_rfl) (by kernel_rfl) (by kernel_rfl) (fun _ _ _ h => h) (Or.inl ⟨by rfl, ?_⟩) hS ?_
            · intro U hU
              go_simp
            simp only [Act.put, List.setIfInBounds_toArray, List.set_cons_zero, List.set_cons_succ]
            refine wpAnyH_ready (rs := [9]) (by kernel_rfl) (by simp) ?_
            refine AllReadyH.cons (by simp only [List.getElem?_toArray, List.getElem?_cons_succ, List.getElem?_cons_zero]; rfl) (fun K' hK' => ?_) AllReadyH.nil
            have xm := (sg.cells ⟨q, 4, none⟩ hqs (own.ne_block gm (by decide))).trans m4
            have hq5 : U19.heap[q]? = some (.cells #[.int .i64 8, .int .i64 8, .int .i64 0, .int .i64 0, .slice (some ⟨g, off, none⟩) j cx] 25 (0, 0)) := (sg.blocks q hqs (own.ne_block gm (by decide))).trans gm
            have fm := frozen_of_row _ _ 4 _ _ hq5
            go_simp
            refine hK'.out _ _ trivial (fun _ => ?_)
            clear hK' K'
            try simp only [Act.put, List.setIfInBounds_toArray, List.set_cons_zero, List.set_cons_succ]
            refine wpAnyH_done (by kernel_rfl) ?_ _
            simp only [OnlyN]
            have gm6 := heap_set_same (j := 4) hq5 (.slice (some ⟨g1, 0, none⟩) (j + 1) cap)
            have gp6 := (Below.heap_setCell U19 ⟨q, 4, none⟩ (.slice (some ⟨g1, 0, none⟩) (j + 1) cap) (q + 1) (by simp only; omega)).trans ((sg.blocks (q + 1) hqp (own.ne_block gp (by decide))).trans gp)
            have og6 := og.other (a := ⟨q, 4, none⟩) (og.ne_block hq5 (by decide)) (.slice (some ⟨g1, 0, none⟩) (j + 1) cap)
            have hb6 := (hbel.trans sg.below).setCell (p := ⟨q, 4, none⟩) hws (.slice (some ⟨g1, 0, none⟩) (j + 1) cap)
            go_wp2_with fail
            go_roundg (gk - 1)
            case measure => omega
            case rel => exact ⟨j + 1, _, cap, by omega, by omega, by omega, gm6, gp6, og6, hb6⟩
    · obtain rfl : j = 3 := by omega
      obtain ⟨g, rfl, hgb, hgl⟩ := own.row (by omega)
      have fp9 : wr.frozen? ⟨q + 1, 9, none⟩ = false := frozen_of_row _ _ 9 _ _ gp
      have p9 : wr.cell? ⟨q + 1, 9, none⟩ = some (.bool false) := (cell_of_row _ _ 9 _ _ (0, 0) gp)
      clear m
      go_wp2_with fail
      have gp1 := heap_set_same (j := 9) gp (.bool true)
      have gm1 := (Below.heap_setCell wr ⟨q + 1, 9, none⟩ (.bool true) q (by simp only; omega)).trans gm
      have own1 := own.other (a := ⟨q + 1, 9, none⟩) (own.ne_block gp (by decide)) (.bool true)
      have hb1 := hbel.setCell (p := ⟨q + 1, 9, none⟩) (by simp only; omega) (.bool true)
      clear own gp gm fp9 p9 m4 hbel hgl hqs hqp
      generalize wr.setCell ⟨q + 1, 9, none⟩ (.bool true) = V1 at *
      have hgq : g ≠ q := fun h => own1.ne_block gm1 (by decide) (by rw [h]; rfl)
      have hgp : g ≠ q + 1 := fun h => own1.ne_block gp1 (by decide) (by rw [h]; rfl)
      have m := fun i => cell_of_row _ _ i _ _ (0, 0) gm1
      have p := fun i => cell_of_row _ _ i _ _ (0, 0) gp1
      have m0 : V1.cell? ⟨q, 0, none⟩ = some (.int .i64 8) := m 0
      have m1 : V1.cell? ⟨q, 1, none⟩ = some (.int .i64 8) := m 1
      have m2 : V1.cell? ⟨q, 2, none⟩ = some (.int .i64 0) := m 2
      have m3 : V1.cell? ⟨q, 3, none⟩ = some (.int .i64 0) := m 3
      have m4 : V1.cell? ⟨q, 4, none⟩ = some (.slice (some ⟨g, 0, none⟩) 3 cx) := m 4
      have p0 : V1.cell? ⟨q + 1, 0, none⟩ = some (.int .i64 64) := p 0
      have p1 : V1.cell? ⟨q + 1, 1, none⟩ = some (.int .i64 64) := p 1
      have p2 : V1.cell? ⟨q + 1, 2, none⟩ = some (.int .i64 2) := p 2
      have p3 : V1.cell? ⟨q + 1, 3, none⟩ = some (.int .i64 4) := p 3
      have p4 : V1.cell? ⟨q + 1, 4, none⟩ = some (.int .i64 4) := p 4
      have p5 : V1.cell? ⟨q + 1, 5, none⟩ = some (.int .i64 15) := p 5
      have p6 : V1.cell? ⟨q + 1, 6, none⟩ = some (.int .i64 0) := p 6
      have p7 : V1.cell? ⟨q + 1, 7, none⟩ = some (.int .i64 0) := p 7
      have p8 : V1.cell? ⟨q + 1, 8, none⟩ = some (.int .i64 1) := p 8
      have p9 : V1.cell? ⟨q + 1, 9, none⟩ = some (.bool true) := p 9
      have p10 : V1.cell? ⟨q + 1, 10, none⟩ = some (.bool false) := p 10
      have p11 : V1.cell? ⟨q + 1, 11, none⟩ = some (.bool false) := p 11
      refine (W1.out _).mono ?_
      rintro e w6 ⟨rfl, rfl⟩
      clear W1 m p
      have hk2 : at_ % 3 = 0 ∨ at_ % 3 = 1 ∨ at_ % 3 = 2 := by omega
      rcases hk2 with hk2 | hk2 | hk2
      · rw [hk2]
        clear hk2
        go_wp2_with fail
        refine (W2.out _).mono ?_
        rintro e w7 ⟨rfl, rfl⟩
        clear W2
        rcases K.out with hk3 | hk3 | hk3 | hk3 | hk3
        · rw [hk3]
          clear hk3
          have cf : V1.cell? ⟨g, 0, none⟩ = some (.int .i64 8) := own1.at_.cells (k := 0) (j := 0) (by omega) rfl
          have ff : V1.frozen? ⟨g, 0, none⟩ = false := own1.frozen _
          have own2 := own1.stored (k := 0) (j := 0) (by omega) (by omega) (.int .i64 9)
          have hc2 : CompsAt (V1.setCell ⟨g, 0, none⟩ (.int .i64 9)) (V1.setCell ⟨g, 0, none⟩ (.int .i64 9)).heap.size (some ⟨g, 0, none⟩) 3 (fun i => if i = 0 then (⟨9, false, 1, 1, none, 0, 0⟩ : CompD) else comp8) := comps_of_cells (own2.at_.congr (fun i _ => by (try dsimp only); split <;> rfl))
          have hb2 : Below w.heap.size w (V1.setCell ⟨g, 0, none⟩ (.int .i64 9)) := hb1.setCell (p := ⟨g, 0, none⟩) hgb _
          have mm : ∀ i, (V1.setCell ⟨g, 0, none⟩ (.int .i64 9)).cell? ⟨q, i, none⟩ = V1.cell? ⟨q, i, none⟩ := fun i => World.cell?_of_block (Below.heap_setCell _ _ _ _ (fun h => hgq h.symm))
          have pp : ∀ i, (V1.setCell ⟨g, 0, none⟩ (.int .i64 9)).cell? ⟨q + 1, i, none⟩ = V1.cell? ⟨q + 1, i, none⟩ := fun i => World.cell?_of_block (Below.heap_setCell _ _ _ _ (fun h => hgp h.symm))
          have mm0 := (mm 0).trans m0
          have mm1 := (mm 1).trans m1
          have mm2 := (mm 2).trans m2
          have mm3 := (mm 3).trans m3
          have mm4 := (mm 4).trans m4
          have pp0 := (pp 0).trans p0
          have pp1 := (pp 1).trans p1
          have pp2 := (pp 2).trans p2
          have pp3 := (pp 3).trans p3
          have pp4 := (pp 4).trans p4
          have pp5 := (pp 5).trans p5
          have pp6 := (pp 6).trans p6
          have pp7 := (pp 7).trans p7
          have pp8 := (pp 8).trans p8
          have pp9 := (pp 9).trans p9
          have pp10 := (pp 10).trans p10
          have pp11 := (pp 11).trans p11
          clear mm pp own2
          have FR := frame_any 8 8 0 0 _ 3 cx (fun i => if i = 0 then (⟨9, false, 1, 1, none, 0, 0⟩ : CompD) else comp8) 64 64 2 4 4 15 0 0 1 true false false _ hc2 own1.cap.1
          have fe : frameE 8 8 0 0 3 (fun i => if i = 0 then (⟨9, false, 1, 1, none, 0, 0⟩ : CompD) else comp8) 64 64 2 4 4 15 0 0 1 true = 3 := by decide
          rw [fe] at FR
          unfold imgV parV at FR
          have FR := Lib.hid FR
          clear fe hc2 own1 gm1 gp1
          go_wp2_with fail
          refine FR.out.mono ?_
          rintro e w5 ⟨rfl, hb5⟩
          go_wp2_with fail
          go_ret
          exact ⟨rfl, below_trans hb2 hb5⟩
        · rw [hk3]
          clear hk3
          have cf : V1.cell? ⟨g, 1, none⟩ = some (.bool false) := own1.at_.cells (k := 0) (j := 1) (by omega) rfl
          have ff : V1.frozen? ⟨g, 1, none⟩ = false := own1.frozen _
          have own2 := own1.stored (k := 0) (j := 1) (by omega) (by omega) (.bool true)
          have hc2 : CompsAt (V1.setCell ⟨g, 1, none⟩ (.bool true)) (V1.setCell ⟨g, 1, none⟩ (.bool true)).heap.size (some ⟨g, 0, none⟩) 3 (fun i => if i = 0 then (⟨8, true, 1, 1, none, 0, 0⟩ : CompD) else comp8) := comps_of_cells (own2.at_.congr (fun i _ => by (try dsimp only); split <;> rfl))
          have hb2 : Below w.heap.size w (V1.setCell ⟨g, 1, none⟩ (.bool true)) := hb1.setCell (p := ⟨g, 1, none⟩) hgb _
          have mm : ∀ i, (V1.setCell ⟨g, 1, none⟩ (.bool true)).cell? ⟨q, i, none⟩ = V1.cell? ⟨q, i, none⟩ := fun i => World.cell?_of_block (Below.heap_setCell _ _ _ _ (fun h => hgq h.symm))
          have pp : ∀ i, (V1.setCell ⟨g, 1, none⟩ (.bool true)).cell? ⟨q + 1, i, none⟩ = V1.cell? ⟨q + 1, i, none⟩ := fun i => World.cell?_of_block (Below.heap_setCell _ _ _ _ (fun h => hgp h.symm))
          have mm0 := (mm 0).trans m0
          have mm1 := (mm 1).trans m1
          have mm2 := (mm 2).trans m2
          have mm3 := (mm 3).trans m3
          have mm4 := (mm 4).trans m4
          have pp0 := (pp 0).trans p0
          have pp1 := (pp 1).trans p1
          have pp2 := (pp 2).trans p2
          have pp3 := (pp 3).trans p3
          have pp4 := (pp 4).trans p4
          have pp5 := (pp 5).trans p5
          have pp6 := (pp 6).trans p6
          have pp7 := (pp 7).trans p7
          have pp8 := (pp 8).trans p8
          have pp9 := (pp 9).trans p9
          have pp10 := (pp 10).trans p10
          have pp11 := (pp 11).trans p11
          clear mm pp own2
          have FR := frame_any 8 8 0 0 _ 3 cx (fun i => if i = 0 then (⟨8, true, 1, 1, none, 0, 0⟩ : CompD) else comp8) 64 64 2 4 4 15 0 0 1 true false false _ hc2 own1.cap.1
          have fe : frameE 8 8 0 0 3 (fun i => if i = 0 then (⟨8, true, 1, 1, none, 0, 0⟩ : CompD) else comp8) 64 64 2 4 4 15 0 0 1 true = 3 := by decide
          rw [fe] at FR
          unfold imgV parV at FR
          have FR := Lib.hid FR
          clear fe hc2 own1 gm1 gp1
          go_wp2_with fail
          refine FR.out.mono ?_
          rintro e w5 ⟨rfl, hb5⟩
          go_wp2_with fail
          go_ret
          exact ⟨rfl, below_trans hb2 hb5⟩
        · rw [hk3]
          clear hk3
          have cf : V1.cell? ⟨g, 2, none⟩ = some (.int .i64 1) := own1.at_.cells (k := 0) (j := 2) (by omega) rfl
          have ff : V1.frozen? ⟨g, 2, none⟩ = false := own1.frozen _
          have own2 := own1.stored (k := 0) (j := 2) (by omega) (by omega) (.int .i64 2)
          have hc2 : CompsAt (V1.setCell ⟨g, 2, none⟩ (.int .i64 2)) (V1.setCell ⟨g, 2, none⟩ (.int .i64 2)).heap.size (some ⟨g, 0, none⟩) 3 (fun i => if i = 0 then (⟨8, false, 2, 1, none, 0, 0⟩ : CompD) else comp8) := comps_of_cells (own2.at_.congr (fun i _ => by (try dsimp only); split <;> rfl))
          have hb2 : Below w.heap.size w (V1.setCell ⟨g, 2, none⟩ (.int .i64 2)) := hb1.setCell (p := ⟨g, 2, none⟩) hgb _
          have mm : ∀ i, (V1.setCell ⟨g, 2, none⟩ (.int .i64 2)).cell? ⟨q, i, none⟩ = V1.cell? ⟨q, i, none⟩ := fun i => World.cell?_of_block (Below.heap_setCell _ _ _ _ (fun h => hgq h.symm))
          have pp : ∀ i, (V1.setCell ⟨g, 2, none⟩ (.int .i64 2)).cell? ⟨q + 1, i, none⟩ = V1.cell? ⟨q + 1, i, none⟩ := fun i => World.cell?_of_block (Below.heap_setCell _ _ _ _ (fun h => hgp h.symm))
          have mm0 := (mm 0).trans m0
          have mm1 := (mm 1).trans m1
          have mm2 := (mm 2).trans m2
          have mm3 := (mm 3).trans m3
          have mm4 := (mm 4).trans m4
          have pp0 := (pp 0).trans p0
          have pp1 := (pp 1).trans p1
          have pp2 := (pp 2).trans p2
          have pp3 := (pp 3).trans p3
          have pp4 := (pp 4).trans p4
          have pp5 := (pp 5).trans p5
          have pp6 := (pp 6).trans p6
          have pp7 := (pp 7).trans p7
          have pp8 := (pp 8).trans p8
          have pp9 := (pp 9).trans p9
          have pp10 := (pp 10).trans p10
          have pp11 := (pp 11).trans p11
          clear mm pp own2
          have FR := frame_any 8 8 0 0 _ 3 cx (fun i => if i = 0 then (⟨8, false, 2, 1, none, 0, 0⟩ : CompD) else comp8) 64 64 2 4 4 15 0 0 1 true false false _ hc2 own1.cap.1
          have fe : frameE 8 8 0 0 3 (fun i => if i = 0 then (⟨8, false, 2, 1, none, 0, 0⟩ : CompD) else comp8) 64 64 2 4 4 15 0 0 1 true = 3 := by decide
          rw [fe] at FR
          unfold imgV parV at FR
          have FR := Lib.hid FR
          clear fe hc2 own1 gm1 gp1
          go_wp2_with fail
          refine FR.out.mono ?_
          rintro e w5 ⟨rfl, hb5⟩
          go_wp2_with fail
          go_ret
          exact ⟨rfl, below_trans hb2 hb5⟩
        · rw [hk3]
          clear hk3
          have cf : V1.cell? ⟨g, 3, none⟩ = some (.int .i64 1) := own1.at_.cells (k := 0) (j := 3) (by omega) rfl
          have ff : V1.frozen? ⟨g, 3, none⟩ = false := own1.frozen _
          have own2 := own1.stored (k := 0) (j := 3) (by omega) (by omega) (.int .i64 2)
          have hc2 : CompsAt (V1.setCell ⟨g, 3, none⟩ (.int .i64 2)) (V1.setCell ⟨g, 3, none⟩ (.int .i64 2)).heap.size (some ⟨g, 0, none⟩) 3 (fun i => if i = 0 then (⟨8, false, 1, 2, none, 0, 0⟩ : CompD) else comp8) := comps_of_cells (own2.at_.congr (fun i _ => by (try dsimp only); split <;> rfl))
          have hb2 : Below w.heap.size w (V1.setCell ⟨g, 3, none⟩ (.int .i64 2)) := hb1.setCell (p := ⟨g, 3, none⟩) hgb _
          have mm : ∀ i, (V1.setCell ⟨g, 3, none⟩ (.int .i64 2)).cell? ⟨q, i, none⟩ = V1.cell? ⟨q, i, none⟩ := fun i => World.cell?_of_block (Below.heap_setCell _ _ _ _ (fun h => hgq h.symm))
          have pp : ∀ i, (V1.setCell ⟨g, 3, none⟩ (.int .i64 2)).cell? ⟨q + 1, i, none⟩ = V1.cell? ⟨q + 1, i, none⟩ := fun i => World.cell?_of_block (Below.heap_setCell _ _ _ _ (fun h => hgp h.symm))
          have mm0 := (mm 0).trans m0
          have mm1 := (mm 1).trans m1
          have mm2 := (mm 2).trans m2
          have mm3 := (mm 3).trans m3
          have mm4 := (mm 4).trans m4
          have pp0 := (pp 0).trans p0
          have pp1 := (pp 1).trans p1
          have pp2 := (pp 2).trans p2
          have pp3 := (pp 3).trans p3
          have pp4 := (pp 4).trans p4
          have pp5 := (pp 5).trans p5
          have pp6 := (pp 6).trans p6
          have pp7 := (pp 7).trans p7
          have pp8 := (pp 8).trans p8
          have pp9 := (pp 9).trans p9
          have pp10 := (pp 10).trans p10
          have pp11 := (pp 11).trans p11
          clear mm pp own2
          have FR := frame_any 8 8 0 0 _ 3 cx (fun i => if i = 0 then (⟨8, false, 1, 2, none, 0, 0⟩ : CompD) else comp8) 64 64 2 4 4 15 0 0 1 true false false _ hc2 own1.cap.1
          have fe : frameE 8 8 0 0 3 (fun i => if i = 0 then (⟨8, false, 1, 2, none, 0, 0⟩ : CompD) else comp8) 64 64 2 4 4 15 0 0 1 true = 3 := by decide
          rw [fe] at FR
          unfold imgV parV at FR
          have FR := Lib.hid FR
          clear fe hc2 own1 gm1 gp1
          go_wp2_with fail
          refine FR.out.mono ?_
          rintro e w5 ⟨rfl, hb5⟩
          go_wp2_with fail
          go_ret
          exact ⟨rfl, below_trans hb2 hb5⟩
        · rw [hk3]
          clear hk3
          have hc2 : CompsAt V1 V1.heap.size (some ⟨g, 0, none⟩) 3 (fun _ => comp8) := comps_of_cells own1.at_
          have hb2 := hb1
          have FR := frame_any 8 8 0 0 _ 3 cx (fun _ => comp8) 64 64 2 4 4 15 0 0 1 true false false _ hc2 own1.cap.1
          have fe : frameE 8 8 0 0 3 (fun _ => comp8) 64 64 2 4 4 15 0 0 1 true = 0 := by decide
          rw [fe] at FR
          unfold imgV parV at FR
          have FR := Lib.hid FR
          clear fe hc2 own1 gm1 gp1
          go_wp2_with fail
          refine FR.out.mono ?_
          rintro e w5 ⟨rfl, hb5⟩
          go_wp2_with fail
          go_ret
          exact ⟨rfl, below_trans hb2 hb5⟩
      · rw [hk2]
        clear hk2
        go_wp2_with fail
        refine (W2.out _).mono ?_
        rintro e w7 ⟨rfl, rfl⟩
        clear W2
        rcases K.out with hk3 | hk3 | hk3 | hk3 | hk3
        · rw [hk3]
          clear hk3
          have cf : V1.cell? ⟨g, 5, none⟩ = some (.int .i64 8) := own1.at_.cells (k := 1) (j := 0) (by omega) rfl
          have ff : V1.frozen? ⟨g, 5, none⟩ = false := own1.frozen _
          have own2 := own1.stored (k := 1) (j := 0) (by omega) (by omega) (.int .i64 9)
          have hc2 : CompsAt (V1.setCell ⟨g, 5, none⟩ (.int .i64 9)) (V1.setCell ⟨g, 5, none⟩ (.int .i64 9)).heap.size (some ⟨g, 0, none⟩) 3 (fun i => if i = 1 then (⟨9, false, 1, 1, none, 0, 0⟩ : CompD) else comp8) := comps_of_cells (own2.at_.congr (fun i _ => by (try dsimp only); split <;> rfl))
          have hb2 : Below w.heap.size w (V1.setCell ⟨g, 5, none⟩ (.int .i64 9)) := hb1.setCell (p := ⟨g, 5, none⟩) hgb _
          have mm : ∀ i, (V1.setCell ⟨g, 5, none⟩ (.int .i64 9)).cell? ⟨q, i, none⟩ = V1.cell? ⟨q, i, none⟩ := fun i => World.cell?_of_block (Below.heap_setCell _ _ _ _ (fun h => hgq h.symm))
          have pp : ∀ i, (V1.setCell ⟨g, 5, none⟩ (.int .i64 9)).cell? ⟨q + 1, i, none⟩ = V1.cell? ⟨q + 1, i, none⟩ := fun i => World.cell?_of_block (Below.heap_setCell _ _ _ _ (fun h => hgp h.symm))
          have mm0 := (mm 0).trans m0
          have mm1 := (mm 1).trans m1
          have mm2 := (mm 2).trans m2
          have mm3 := (mm 3).trans m3
          have mm4 := (mm 4).trans m4
          have pp0 := (pp 0).trans p0
          have pp1 := (pp 1).trans p1
          have pp2 := (pp 2).trans p2
          have pp3 := (pp 3).trans p3
          have pp4 := (pp 4).trans p4
          have pp5 := (pp 5).trans p5
          have pp6 := (pp 6).trans p6
          have pp7 := (pp 7).trans p7
          have pp8 := (pp 8).trans p8
          have pp9 := (pp 9).trans p9
          have pp10 := (pp 10).trans p10
          have pp11 := (pp 11).trans p11
          clear mm pp own2
          have FR := frame_any 8 8 0 0 _ 3 cx (fun i => if i = 1 then (⟨9, false, 1, 1, none, 0, 0⟩ : CompD) else comp8) 64 64 2 4 4 15 0 0 1 true false false _ hc2 own1.cap.1
          have fe : frameE 8 8 0 0 3 (fun i => if i = 1 then (⟨9, false, 1, 1, none, 0, 0⟩ : CompD) else comp8) 64 64 2 4 4 15 0 0 1 true = 3 := by decide
          rw [fe] at FR
          unfold imgV parV at FR
          have FR := Lib.hid FR
          clear fe hc2 own1 gm1 gp1
          go_wp2_with fail
          refine FR.out.mono ?_
          rintro e w5 ⟨rfl, hb5⟩
          go_wp2_with fail
          go_ret
          exact ⟨rfl, below_trans hb2 hb5⟩
        · rw [hk3]
          clear hk3
          have cf : V1.cell? ⟨g, 6, none⟩ = some (.bool false) := own1.at_.cells (k := 1) (j := 1) (by omega) rfl
          have ff : V1.frozen? ⟨g, 6, none⟩ = false := own1.frozen _
          have own2 := own1.stored (k := 1) (j := 1) (by omega) (by omega) (.bool true)
          have hc2 : CompsAt (V1.setCell ⟨g, 6, none⟩ (.bool true)) (V1.setCell ⟨g, 6, none⟩ (.bool true)).heap.size (some ⟨g, 0, none⟩) 3 (fun i => if i = 1 then (⟨8, true, 1, 1, none, 0, 0⟩ : CompD) else comp8) := comps_of_cells (own2.at_.congr (fun i _ => by (try dsimp only); split <;> rfl))
          have hb2 : Below w.heap.size w (V1.setCell ⟨g, 6, none⟩ (.bool true)) := hb1.setCell (p := ⟨g, 6, none⟩) hgb _
          have mm : ∀ i, (V1.setCell ⟨g, 6, none⟩ (.bool true)).cell? ⟨q, i, none⟩ = V1.cell? ⟨q, i, none⟩ := fun i => World.cell?_of_block (Below.heap_setCell _ _ _ _ (fun h => hgq h.symm))
          have pp : ∀ i, (V1.setCell ⟨g, 6, none⟩ (.bool true)).cell? ⟨q + 1, i, none⟩ = V1.cell? ⟨q + 1, i, none⟩ := fun i => World.cell?_of_block (Below.heap_setCell _ _ _ _ (fun h => hgp h.symm))
          have mm0 := (mm 0).trans m0
          have mm1 := (mm 1).trans m1
          have mm2 := (mm 2).trans m2
          have mm3 := (mm 3).trans m3
          have mm4 := (mm 4).trans m4
          have pp0 := (pp 0).trans p0
          have pp1 := (pp 1).trans p1
          have pp2 := (pp 2).trans p2
          have pp3 := (pp 3).trans p3
          have pp4 := (pp 4).trans p4
          have pp5 := (pp 5).trans p5
          have pp6 := (pp 6).trans p6
          have pp7 := (pp 7).trans p7
          have pp8 := (pp 8).trans p8
          have pp9 := (pp 9).trans p9
          have pp10 := (pp 10).trans p10
          have pp11 := (pp 11).trans p11
          clear mm pp own2
          have FR := frame_any 8 8 0 0 _ 3 cx (fun i => if i = 1 then (⟨8, true, 1, 1, none, 0, 0⟩ : CompD) else comp8) 64 64 2 4 4 15 0 0 1 true false false _ hc2 own1.cap.1
          have fe : frameE 8 8 0 0 3 (fun i => if i = 1 then (⟨8, true, 1, 1, none, 0, 0⟩ : CompD) else comp8) 64 64 2 4 4 15 0 0 1 true = 3 := by decide
          rw [fe] at FR
          unfold imgV parV at FR
          have FR := Lib.hid FR
          clear fe hc2 own1 gm1 gp1
          go_wp2_with fail
          refine FR.out.mono ?_
          rintro e w5 ⟨rfl, hb5⟩
          go_wp2_with fail
          go_ret
          exact ⟨rfl, below_trans hb2 hb5⟩
        · rw [hk3]
          clear hk3
          have cf : V1.cell? ⟨g, 7, none⟩ = some (.int .i64 1) := own1.at_.cells (k := 1) (j := 2) (by omega) rfl
          have ff : V1.frozen? ⟨g, 7, none⟩ = false := own1.frozen _
          have own2 := own1.stored (k := 1) (j := 2) (by omega) (by omega) (.int .i64 2)
          have hc2 : CompsAt (V1.setCell ⟨g, 7, none⟩ (.int .i64 2)) (V1.setCell ⟨g, 7, none⟩ (.int .i64 2)).heap.size (some ⟨g, 0, none⟩) 3 (fun i => if i = 1 then (⟨8, false, 2, 1, none, 0, 0⟩ : CompD) else comp8) := comps_of_cells (own2.at_.congr (fun i _ => by (try dsimp only); split <;> rfl))
          have hb2 : Below w.heap.size w (V1.setCell ⟨g, 7, none⟩ (.int .i64 2)) := hb1.setCell (p := ⟨g, 7, none⟩) hgb _
          have mm : ∀ i, (V1.setCell ⟨g, 7, none⟩ (.int .i64 2)).cell? ⟨q, i, none⟩ = V1.cell? ⟨q, i, none⟩ := fun i => World.cell?_of_block (Below.heap_setCell _ _ _ _ (fun h => hgq h.symm))
          have pp : ∀ i, (V1.setCell ⟨g, 7, none⟩ (.int .i64 2)).cell? ⟨q + 1, i, none⟩ = V1.cell? ⟨q + 1, i, none⟩ := fun i => World.cell?_of_block (Below.heap_setCell _ _ _ _ (fun h => hgp h.symm))
          have mm0 := (mm 0).trans m0
          have mm1 := (mm 1).trans m1
          have mm2 := (mm 2).trans m2
          have mm3 := (mm 3).trans m3
          have mm4 := (mm 4).trans m4
          have pp0 := (pp 0).trans p0
          have pp1 := (pp 1).trans p1
          have pp2 := (pp 2).trans p2
          have pp3 := (pp 3).trans p3
          have pp4 := (pp 4).trans p4
          have pp5 := (pp 5).trans p5
          have pp6 := (pp 6).trans p6
          have pp7 := (pp 7).trans p7
          have pp8 := (pp 8).trans p8
          have pp9 := (pp 9).trans p9
          have pp10 := (pp 10).trans p10
          have pp11 := (pp 11).trans p11
          clear mm pp own2
          have FR := frame_any 8 8 0 0 _ 3 cx (fun i => if i = 1 then (⟨8, false, 2, 1, none, 0, 0⟩ : CompD) else comp8) 64 64 2 4 4 15 0 0 1 true false false _ hc2 own1.cap.1
          have fe : frameE 8 8 0 0 3 (fun i => if i = 1 then (⟨8, false, 2, 1, none, 0, 0⟩ : CompD) else comp8) 64 64 2 4 4 15 0 0 1 true = 3 := by decide
          rw [fe] at FR
          unfold imgV parV at FR
          have FR := Lib.hid FR
          clear fe hc2 own1 gm1 gp1
          go_wp2_with fail
          refine FR.out.mono ?_
          rintro e w5 ⟨rfl, hb5⟩
          go_wp2_with fail
          go_ret
          exact ⟨rfl, below_trans hb2 hb5⟩
        · rw [hk3]
          clear hk3
          have cf : V1.cell? ⟨g, 8, none⟩ = some (.int .i64 1) := own1.at_.cells (k := 1) (j := 3) (by omega) rfl
          have ff : V1.frozen? ⟨g, 8, none⟩ = false := own1.frozen _
          have own2 := own1.stored (k := 1) (j := 3) (by omega) (by omega) (.int .i64 2)
          have hc2 : CompsAt (V1.setCell ⟨g, 8, none⟩ (.int .i64 2)) (V1.setCell ⟨g, 8, none⟩ (.int .i64 2)).heap.size (some ⟨g, 0, none⟩) 3 (fun i => if i = 1 then (⟨8, false, 1, 2, none, 0, 0⟩ : CompD) else comp8) := comps_of_cells (own2.at_.congr (fun i _ => by (try dsimp only); split <;> rfl))
          have hb2 : Below w.heap.size w (V1.setCell ⟨g, 8, none⟩ (.int .i64 2)) := hb1.setCell (p := ⟨g, 8, none⟩) hgb _
          have mm : ∀ i, (V1.setCell ⟨g, 8, none⟩ (.int .i64 2)).cell? ⟨q, i, none⟩ = V1.cell? ⟨q, i, none⟩ := fun i => World.cell?_of_block (Below.heap_setCell _ _ _ _ (fun h => hgq h.symm))
          have pp : ∀ i, (V1.setCell ⟨g, 8, none⟩ (.int .i64 2)).cell? ⟨q + 1, i, none⟩ = V1.cell? ⟨q + 1, i, none⟩ := fun i => World.cell?_of_block (Below.heap_setCell _ _ _ _ (fun h => hgp h.symm))
          have mm0 := (mm 0).trans m0
          have mm1 := (mm 1).trans m1
          have mm2 := (mm 2).trans m2
          have mm3 := (mm 3).trans m3
          have mm4 := (mm 4).trans m4
          have pp0 := (pp 0).trans p0
          have pp1 := (pp 1).trans p1
          have pp2 := (pp 2).trans p2
          have pp3 := (pp 3).trans p3
          have pp4 := (pp 4).trans p4
          have pp5 := (pp 5).trans p5
          have pp6 := (pp 6).trans p6
          have pp7 := (pp 7).trans p7
          have pp8 := (pp 8).trans p8
          have pp9 := (pp 9).trans p9
          have pp10 := (pp 10).trans p10
          have pp11 := (pp 11).trans p11
          clear mm pp own2
          have FR := frame_any 8 8 0 0 _ 3 cx (fun i => if i = 1 then (⟨8, false, 1, 2, none, 0, 0⟩ : CompD) else comp8) 64 64 2 4 4 15 0 0 1 true false false _ hc2 own1.cap.1
          have fe : frameE 8 8 0 0 3 (fun i => if i = 1 then (⟨8, false, 1, 2, none, 0, 0⟩ : CompD) else comp8) 64 64 2 4 4 15 0 0 1 true = 3 := by decide
          rw [fe] at FR
          unfold imgV parV at FR
          have FR := Lib.hid FR
          clear fe hc2 own1 gm1 gp1
          go_wp2_with fail
          refine FR.out.mono ?_
          rintro e w5 ⟨rfl, hb5⟩
          go_wp2_with fail
          go_ret
          exact ⟨rfl, below_trans hb2 hb5⟩
        · rw [hk3]
          clear hk3
          have hc2 : CompsAt V1 V1.heap.size (some ⟨g, 0, none⟩) 3 (fun _ => comp8) := comps_of_cells own1.at_
          have hb2 := hb1
          have FR := frame_any 8 8 0 0 _ 3 cx (fun _ => comp8) 64 64 2 4 4 15 0 0 1 true false false _ hc2 own1.cap.1
          have fe : frameE 8 8 0 0 3 (fun _ => comp8) 64 64 2 4 4 15 0 0 1 true = 0 := by decide
          rw [fe] at FR
          unfold imgV parV at FR
          have FR := Lib.hid FR
          clear fe hc2 own1 gm1 gp1
          go_wp2_with fail
          refine FR.out.mono ?_
          rintro e w5 ⟨rfl, hb5⟩
          go_wp2_with fail
          go_ret
          exact ⟨rfl, below_trans hb2 hb5⟩
      · rw [hk2]
        clear hk2
        go_wp2_with fail
        refine (W2.out _).mono ?_
        rintro e w7 ⟨rfl, rfl⟩
        clear W2
        rcases K.out with hk3 | hk3 | hk3 | hk3 | hk3
        · rw [hk3]
          clear hk3
          have cf : V1.cell? ⟨g, 10, none⟩ = some (.int .i64 8) := own1.at_.cells (k := 2) (j := 0) (by omega) rfl
          have ff : V1.frozen? ⟨g, 10, none⟩ = false := own1.frozen _
          have own2 := own1.stored (k := 2) (j := 0) (by omega) (by omega) (.int .i64 9)
          have hc2 : CompsAt (V1.setCell ⟨g, 10, none⟩ (.int .i64 9)) (V1.setCell ⟨g, 10, none⟩ (.int .i64 9)).heap.size (some ⟨g, 0, none⟩) 3 (fun i => if i = 2 then (⟨9, false, 1, 1, none, 0, 0⟩ : CompD) else comp8) := comps_of_cells (own2.at_.congr (fun i _ => by (try dsimp only); split <;> rfl))
          have hb2 : Below w.heap.size w (V1.setCell ⟨g, 10, none⟩ (.int .i64 9)) := hb1.setCell (p := ⟨g, 10, none⟩) hgb _
          have mm : ∀ i, (V1.setCell ⟨g, 10, none⟩ (.int .i64 9)).cell? ⟨q, i, none⟩ = V1.cell? ⟨q, i, none⟩ := fun i => World.cell?_of_block (Below.heap_setCell _ _ _ _ (fun h => hgq h.symm))
          have pp : ∀ i, (V1.setCell ⟨g, 10, none⟩ (.int .i64 9)).cell? ⟨q + 1, i, none⟩ = V1.cell? ⟨q + 1, i, none⟩ := fun i => World.cell?_of_block (Below.heap_setCell _ _ _ _ (fun h => hgp h.symm))
          have mm0 := (mm 0).trans m0
          have mm1 := (mm 1).trans m1
          have mm2 := (mm 2).trans m2
          have mm3 := (mm 3).trans m3
          have mm4 := (mm 4).trans m4
          have pp0 := (pp 0).trans p0
          have pp1 := (pp 1).trans p1
          have pp2 := (pp 2).trans p2
          have pp3 := (pp 3).trans p3
          have pp4 := (pp 4).trans p4
          have pp5 := (pp 5).trans p5
          have pp6 := (pp 6).trans p6
          have pp7 := (pp 7).trans p7
          have pp8 := (pp 8).trans p8
          have pp9 := (pp 9).trans p9
          have pp10 := (pp 10).trans p10
          have pp11 := (pp 11).trans p11
          clear mm pp own2
          have FR := frame_any 8 8 0 0 _ 3 cx (fun i => if i = 2 then (⟨9, false, 1, 1, none, 0, 0⟩ : CompD) else comp8) 64 64 2 4 4 15 0 0 1 true false false _ hc2 own1.cap.1
          have fe : frameE 8 8 0 0 3 (fun i => if i = 2 then (⟨9, false, 1, 1, none, 0, 0⟩ : CompD) else comp8) 64 64 2 4 4 15 0 0 1 true = 3 := by decide
          rw [fe] at FR
          unfold imgV parV at FR
          have FR := Lib.hid FR
          clear fe hc2 own1 gm1 gp1
          go_wp2_with fail
          refine FR.out.mono ?_
          rintro e w5 ⟨rfl, hb5⟩
          go_wp2_with fail
          go_ret
          exact ⟨rfl, below_trans hb2 hb5⟩
        · rw [hk3]
          clear hk3
          have cf : V1.cell? ⟨g, 11, none⟩ = some (.bool false) := own1.at_.cells (k := 2) (j := 1) (by omega) rfl
          have ff : V1.frozen? ⟨g, 11, none⟩ = false := own1.frozen _
          have own2 := own1.stored (k := 2) (j := 1) (by omega) (by omega) (.bool true)
          have hc2 : CompsAt (V1.setCell ⟨g, 11, none⟩ (.bool true)) (V1.setCell ⟨g, 11, none⟩ (.bool true)).heap.size (some ⟨g, 0, none⟩) 3 (fun i => if i = 2 then (⟨8, true, 1, 1, none, 0, 0⟩ : CompD) else comp8) := comps_of_cells (own2.at_.congr (fun i _ => by (try dsimp only); split <;> rfl))
          have hb2 : Below w.heap.size w (V1.setCell ⟨g, 11, none⟩ (.bool true)) := hb1.setCell (p := ⟨g, 11, none⟩) hgb _
          have mm : ∀ i, (V1.setCell ⟨g, 11, none⟩ (.bool true)).cell? ⟨q, i, none⟩ = V1.cell? ⟨q, i, none⟩ := fun i => World.cell?_of_block (Below.heap_setCell _ _ _ _ (fun h => hgq h.symm))
          have pp : ∀ i, (V1.setCell ⟨g, 11, none⟩ (.bool true)).cell? ⟨q + 1, i, none⟩ = V1.cell? ⟨q + 1, i, none⟩ := fun i => World.cell?_of_block (Below.heap_setCell _ _ _ _ (fun h => hgp h.symm))
          have mm0 := (mm 0).trans m0
          have mm1 := (mm 1).trans m1
          have mm2 := (mm 2).trans m2
          have mm3 := (mm 3).trans m3
          have mm4 := (mm 4).trans m4
          have pp0 := (pp 0).trans p0
          have pp1 := (pp 1).trans p1
          have pp2 := (pp 2).trans p2
          have pp3 := (pp 3).trans p3
          have pp4 := (pp 4).trans p4
          have pp5 := (pp 5).trans p5
          have pp6 := (pp 6).trans p6
          have pp7 := (pp 7).trans p7
          have pp8 := (pp 8).trans p8
          have pp9 := (pp 9).trans p9
          have pp10 := (pp 10).trans p10
          have pp11 := (pp 11).trans p11
          clear mm pp own2
          have FR := frame_any 8 8 0 0 _ 3 cx (fun i => if i = 2 then (⟨8, true, 1, 1, none, 0, 0⟩ : CompD) else comp8) 64 64 2 4 4 15 0 0 1 true false false _ hc2 own1.cap.1
          have fe : frameE 8 8 0 0 3 (fun i => if i = 2 then (⟨8, true, 1, 1, none, 0, 0⟩ : CompD) else comp8) 64 64 2 4 4 15 0 0 1 true = 3 := by decide
          rw [fe] at FR
          unfold imgV parV at FR
          have FR := Lib.hid FR
          clear fe hc2 own1 gm1 gp1
          go_wp2_with fail
          refine FR.out.mono ?_
          rintro e w5 ⟨rfl, hb5⟩
          go_wp2_with fail
          go_ret
          exact ⟨rfl, below_trans hb2 hb5⟩
        · rw [hk3]
          clear hk3
          have cf : V1.cell? ⟨g, 12, none⟩ = some (.int .i64 1) := own1.at_.cells (k := 2) (j := 2) (by omega) rfl
          have ff : V1.frozen? ⟨g, 12, none⟩ = false := own1.frozen _
          have own2 := own1.stored (k := 2) (j := 2) (by omega) (by omega) (.int .i64 2)
          have hc2 : CompsAt (V1.setCell ⟨g, 12, none⟩ (.int .i64 2)) (V1.setCell ⟨g, 12, none⟩ (.int .i64 2)).heap.size (some ⟨g, 0, none⟩) 3 (fun i => if i = 2 then (⟨8, false, 2, 1, none, 0, 0⟩ : CompD) else comp8) := comps_of_cells (own2.at_.congr (fun i _ => by (try dsimp only); split <;> rfl))
          have hb2 : Below w.heap.size w (V1.setCell ⟨g, 12, none⟩ (.int .i64 2)) := hb1.setCell (p := ⟨g, 12, none⟩) hgb _
          have mm : ∀ i, (V1.setCell ⟨g, 12, none⟩ (.int .i64 2)).cell? ⟨q, i, none⟩ = V1.cell? ⟨q, i, none⟩ := fun i => World.cell?_of_block (Below.heap_setCell _ _ _ _ (fun h => hgq h.symm))
          have pp : ∀ i, (V1.setCell ⟨g, 12, none⟩ (.int .i64 2)).cell? ⟨q + 1, i, none⟩ = V1.cell? ⟨q + 1, i, none⟩ := fun i => World.cell?_of_block (Below.heap_setCell _ _ _ _ (fun h => hgp h.symm))
          have mm0 := (mm 0).trans m0
          have mm1 := (mm 1).trans m1
          have mm2 := (mm 2).trans m2
          have mm3 := (mm 3).trans m3
          have mm4 := (mm 4).trans m4
          have pp0 := (pp 0).trans p0
          have pp1 := (pp 1).trans p1
          have pp2 := (pp 2).trans p2
          have pp3 := (pp 3).trans p3
          have pp4 := (pp 4).trans p4
          have pp5 := (pp 5).trans p5
          have pp6 := (pp 6).trans p6
          have pp7 := (pp 7).trans p7
          have pp8 := (pp 8).trans p8
          have pp9 := (pp 9).trans p9
          have pp10 := (pp 10).trans p10
          have pp11 := (pp 11).trans p11
          clear mm pp own2
          have FR := frame_any 8 8 0 0 _ 3 cx (fun i => if i = 2 then (⟨8, false, 2, 1, none, 0, 0⟩ : CompD) else comp8) 64 64 2 4 4 15 0 0 1 true false false _ hc2 own1.cap.1
          have fe : frameE 8 8 0 0 3 (fun i => if i = 2 then (⟨8, false, 2, 1, none, 0, 0⟩ : CompD) else comp8) 64 64 2 4 4 15 0 0 1 true = 3 := by decide
          rw [fe] at FR
          unfold imgV parV at FR
          have FR := Lib.hid FR
          clear fe hc2 own1 gm1 gp1
          go_wp2_with fail
          refine FR.out.mono ?_
          rintro e w5 ⟨rfl, hb5⟩
          go_wp2_with fail
          go_ret
          exact ⟨rfl, below_trans hb2 hb5⟩
        · rw [hk3]
          clear hk3
          have cf : V1.cell? ⟨g, 13, none⟩ = some (.int .i64 1) := own1.at_.cells (k := 2) (j := 3) (by omega) rfl
          have ff : V1.frozen? ⟨g, 13, none⟩ = false := own1.frozen _
          have own2 := own1.stored (k := 2) (j := 3) (by omega) (by omega) (.int .i64 2)
          have hc2 : CompsAt (V1.setCell ⟨g, 13, none⟩ (.int .i64 2)) (V1.setCell ⟨g, 13, none⟩ (.int .i64 2)).heap.size (some ⟨g, 0, none⟩) 3 (fun i => if i = 2 then (⟨8, false, 1, 2, none, 0, 0⟩ : CompD) else comp8) := comps_of_cells (own2.at_.congr (fun i _ => by (try dsimp only); split <;> rfl))
          have hb2 : Below w.heap.size w (V1.setCell ⟨g, 13, none⟩ (.int .i64 2)) := hb1.setCell (p := ⟨g, 13, none⟩) hgb _
          have mm : ∀ i, (V1.setCell ⟨g, 13, none⟩ (.int .i64 2)).cell? ⟨q, i, none⟩ = V1.cell? ⟨q, i, none⟩ := fun i => World.cell?_of_block (Below.heap_setCell _ _ _ _ (fun h => hgq h.symm))
          have pp : ∀ i, (V1.setCell ⟨g, 13, none⟩ (.int .i64 2)).cell? ⟨q + 1, i, none⟩ = V1.cell? ⟨q + 1, i, none⟩ := fun i => World.cell?_of_block (Below.heap_setCell _ _ _ _ (fun h => hgp h.symm))
          have mm0 := (mm 0).trans m0
          have mm1 := (mm 1).trans m1
          have mm2 := (mm 2).trans m2
          have mm3 := (mm 3).trans m3
          have mm4 := (mm 4).trans m4
          have pp0 := (pp 0).trans p0
          have pp1 := (pp 1).trans p1
          have pp2 := (pp 2).trans p2
          have pp3 := (pp 3).trans p3
          have pp4 := (pp 4).trans p4
          have pp5 := (pp 5).trans p5
          have pp6 := (pp 6).trans p6
          have pp7 := (pp 7).trans p7
          have pp8 := (pp 8).trans p8
          have pp9 := (pp 9).trans p9
          have pp10 := (pp 10).trans p10
          have pp11 := (pp 11).trans p11
          clear mm pp own2
          have FR := frame_any 8 8 0 0 _ 3 cx (fun i => if i = 2 then (⟨8, false, 1, 2, none, 0, 0⟩ : CompD) else comp8) 64 64 2 4 4 15 0 0 1 true false false _ hc2 own1.cap.1
          have fe : frameE 8 8 0 0 3 (fun i => if i = 2 then (⟨8, false, 1, 2, none, 0, 0⟩ : CompD) else comp8) 64 64 2 4 4 15 0 0 1 true = 3 := by decide
          rw [fe] at FR
          unfold imgV parV at FR
          have FR := Lib.hid FR
          clear fe hc2 own1 gm1 gp1
          go_wp2_with fail
          refine FR.out.mono ?_
          rintro e w5 ⟨rfl, hb5⟩
          go_wp2_with fail
          go_ret
          exact ⟨rfl, below_trans hb2 hb5⟩
        · rw [hk3]
          clear hk3
          have hc2 : CompsAt V1 V1.heap.size (some ⟨g, 0, none⟩) 3 (fun _ => comp8) := comps_of_cells own1.at_
          have hb2 := hb1
          have FR := frame_any 8 8 0 0 _ 3 cx (fun _ => comp8) 64 64 2 4 4 15 0 0 1 true false false _ hc2 own1.cap.1
          have fe : frameE 8 8 0 0 3 (fun _ => comp8) 64 64 2 4 4 15 0 0 1 true = 0 := by decide
          rw [fe] at FR
          unfold imgV parV at FR
          have FR := Lib.hid FR
          clear fe hc2 own1 gm1 gp1
          go_wp2_with fail
          refine FR.out.mono ?_
          rintro e w5 ⟨rfl, hb5⟩
          go_wp2_with fail
          go_ret
          exact ⟨rfl, below_trans hb2 hb5⟩
theorem turn_4 (comps at_ which : Int) (hc : comps % 4 = 3) (hk : which % 5 = 0 ∨ which % 5 = 1 ∨ which % 5 = 2 ∨ which % 5 = 3 ∨ which % 5 = 4) (w : World) : Calls Try.prog 4 #[.int .i64 comps, .int .i64 at_, .int .i64 which] w fun e w' => e = .returned (.bool true) ∧ Below w.heap.size w w' := by
  have W0 := Lib.hid (fun (v : World) => by have := within12 comps 4 (by omega) (by omega) v; rw [hc] at this; exact this)
  have W1 := Lib.hid (fun (v : World) => by have := within12 at_ 4 (by omega) (by omega) v; exact this)
  have W2 := Lib.hid (fun (v : World) => by have := within12 which 5 (by omega) (by omega) v; exact this)
  have K := Lib.hid hk
  clear hk
  go_enter Try.func4, Try.ntmps4
  go_wp2_with fail
  refine (known12 _).mono ?_
  rintro e w1 ⟨rfl, hb1⟩
  go_wp2_with fail
  refine (W0.out _).mono ?_
  rintro e w1' ⟨rfl, rfl⟩
  go_wp2_with fail
  refine (one_any 8 8 0 0 _).mono ?_
  rintro e w2 ⟨b, rfl, gb, hbb, hb2⟩
  unfold parV
  have hbl := below_trans hb1 hb2
  have hlt : b < w2.heap.size := (Array.getElem?_eq_some_iff.1 gb).1
  have hws := hbl.size
  have hwb := Nat.le_trans hb1.size hbb
  clear hb1 hb2 hbb W0
  go_wp2_with fail
  generalize hw3 : World.alloc (World.alloc w2 _) _ = W3
  have gb3 : W3.heap[b]? = some (.cells #[.int .i64 8, .bool false, .int .i64 1, .int .i64 1, .slice none 0 0] 34 (0, 0)) := by rw [← hw3]; exact (Below.heap_alloc _ _ _ (by simp; omega)).trans ((Below.heap_alloc _ _ _ (by omega)).trans gb)
  have gm3 : W3.heap[w2.heap.size]? = some (.cells #[.int .i64 8, .int .i64 8, .int .i64 0, .int .i64 0, .slice (some ⟨b, 0, none⟩) 1 1] 25 (0, 0)) := by rw [← hw3]; exact (Below.heap_alloc _ _ _ (by simp)).trans (heap_alloc_new w2 _)
  have gp3 : W3.heap[w2.heap.size + 1]? = some (.cells #[.int .i64 64, .int .i64 64, .int .i64 2, .int .i64 4, .int .i64 4, .int .i64 15, .int .i64 0, .int .i64 0, .int .i64 1, .bool false, .bool false, .bool false] 27 (0, 0)) := by rw [← hw3]; exact heap_alloc_new2 w2 _ _
  have hbl3 : Below w.heap.size w W3 := by rw [← hw3]; exact below_alloc (below_alloc hbl _) _
  have o0 : OwnC W3 w.heap.size 34 5 (.slice (some ⟨b, 0, none⟩) 1 1) 1 (fun _ => compL comp8) := OwnC.of_block gb3 hwb (fun _ => rfl) (by unfold maxLen; omega) rfl
  clear hw3 gb gb3 hbl
  obtain ⟨q, hq⟩ : ∃ q, w2.heap.size = q := ⟨_, rfl⟩
  rw [hq] at gm3 gp3 hws
  rw [hq]
  clear hq hlt hwb
  go_loopg [] 3 (fun k wr => ∃ (j : Nat) (X : Option Addr) (cx : Nat), 1 ≤ j ∧ j ≤ 4 ∧ k + j = 4 ∧ wr.heap[q]? = some (.cells #[.int .i64 8, .int .i64 8, .int .i64 0, .int .i64 0, .slice X j cx] 25 (0, 0)) ∧ wr.heap[q + 1]? = some (.cells #[.int .i64 64, .int .i64 64, .int .i64 2, .int .i64 4, .int .i64 4, .int .i64 15, .int .i64 0, .int .i64 0, .int .i64 1, .bool false, .bool false, .bool false] 27 (0, 0)) ∧ OwnC wr w.heap.size 34 5 (.slice X j cx) j (fun _ => compL comp8) ∧ Below w.heap.size w wr)
  case atStart => exact ⟨1, _, 1, by omega, by omega, rfl, gm3, gp3, o0, hbl3⟩
  case round =>
    obtain ⟨j, X, cx, h1, h2, hkj, gm, gp, own, hbel⟩ := hrel
    have m := fun i => cell_of_row _ _ i _ _ (0, 0) gm
    have m4 : wr.cell? ⟨q, 4, none⟩ = some (.slice X j cx) := m 4
    have hqp := (Array.getElem?_eq_some_iff.1 gp).1
    have hqs := (Array.getElem?_eq_some_iff.1 gm).1
    by_cases hlt : j < 4
    · obtain ⟨A0, cc0, e, hjc, _, hat, _⟩ := own.form
      injection e with e1 _ e2
      subst e1 e2
      obtain ⟨g, off, rfl, hgl, hc⟩ := hat.at_ (k := 0) (by omega)
      rw [Nat.zero_mul, Nat.add_zero] at hc
      have k0 : wr.cell? ⟨g, off + 0, none⟩ = some (.int .i64 8) := hc 0 _ rfl
      have k1 : wr.cell? ⟨g, off + 1, none⟩ = some (.bool false) := hc 1 _ rfl
      have k2 : wr.cell? ⟨g, off + 2, none⟩ = some (.int .i64 1) := hc 2 _ rfl
      have k3 : wr.cell? ⟨g, off + 3, none⟩ = some (.int .i64 1) := hc 3 _ rfl
      have k4 : wr.cell? ⟨g, off + 4, none⟩ = some (.slice none 0 0) := hc 4 _ rfl
      rw [Nat.add_zero] at k0
      have l0 : (0 : Int) < j := by omega
      clear hc m hat
      go_wp2_with fail
      refine held_region (by kernel_rfl) (fun _ => True) (fun _ _ h => h) (fun hS => ?_) trivial
      have bV : Below wr.heap.size wr wr.drew := (Below.refl _ _).drew
      generalize wr.drew = V0 at *
      refine wpAnyH_take (i := 0) (v := .pointer (some ⟨q, 4, none⟩)) rfl (by kernel_rfl) (by kernel_rfl) (by kernel_rfl) (fun _ _ _ h => h) (Or.inl ⟨by rfl, ?_⟩) hS ?_
      · intro U hU
        go_simp
      simp only [Act.put, List.setIfInBounds_toArray, List.set_cons_zero, List.set_cons_succ]
      refine wpAnyH_take (i := 2) (v := .pointer (some ⟨q, 4, none⟩)) rfl (by kernel_rfl) (by kernel_rfl) (by kernel_rfl) (fun _ _ _ h => h) (Or.inl ⟨by rfl, ?_⟩) hS ?_
      · intro U hU
        go_simp
      simp only [Act.put, List.setIfInBounds_toArray, List.set_cons_zero, List.set_cons_succ]
      refine wpAnyH_ready (rs := [1, 3]) (by kernel_rfl) (by simp) ?_
      refine AllReadyH.cons (by simp only [List.getElem?_toArray, List.getElem?_cons_succ, List.getElem?_cons_zero]; rfl) (fun K' hK' => ?_) (AllReadyH.cons (by simp only [List.getElem?_toArray, List.getElem?_cons_succ, List.getElem?_cons_zero]; rfl) (fun K' hK' => ?_) AllReadyH.nil)
      · have xm := (bV.cell (p := ⟨q, 4, none⟩) hqs).trans m4
        go_simp
        refine hK'.out _ _ trivial (fun _ => ?_)
        clear xm
        clear hK' K'
        try simp only [Act.put, List.setIfInBounds_toArray, List.set_cons_zero, List.set_cons_succ]
        refine wpAnyH_ready (rs := [3]) (by kernel_rfl) (by simp) ?_
        refine AllReadyH.cons (by simp only [List.getElem?_toArray, List.getElem?_cons_succ, List.getElem?_cons_zero]; rfl) (fun K' hK' => ?_) AllReadyH.nil
        have xm := (bV.cell (p := ⟨q, 4, none⟩) hqs).trans m4
        go_simp
        refine hK'.out _ _ trivial (fun _ => ?_)
        clear xm
        clear hK' K'
        try simp only [Act.put, List.setIfInBounds_toArray, List.set_cons_zero, List.set_cons_succ]
        refine wpAnyH_take (i := 4) (v := .pointer (some ⟨g, off, none⟩)) rfl (by kernel_rfl) (by kernel_rfl) (by kernel_rfl) (fun _ _ _ h => h) (Or.inl ⟨by rfl, ?_⟩) hS ?_
        · intro U hU
          go_simp
          intro h
          exact absurd h (by omega)
        simp only [Act.put, List.setIfInBounds_toArray, List.set_cons_zero, List.set_cons_succ]
        refine wpAnyH_ready (rs := [5]) (by kernel_rfl) (by simp) ?_
        refine AllReadyH.cons (by simp only [List.getElem?_toArray, List.getElem?_cons_succ, List.getElem?_cons_zero]; rfl) (fun K' hK' => ?_) AllReadyH.nil
        have x0 := (bV.cell (p := ⟨g, off, none⟩) hgl).trans k0
        have x1 := (bV.cell (p := ⟨g, off + 1, none⟩) hgl).trans k1
        have x2 := (bV.cell (p := ⟨g, off + 2, none⟩) hgl).trans k2
        have x3 := (bV.cell (p := ⟨g, off + 3, none⟩) hgl).trans k3
        have x4 := (bV.cell (p := ⟨g, off + 4, none⟩) hgl).trans k4
        go_simp
        refine hK'.out _ _ trivial (fun _ => ?_)
        clear x0 x1 x2 x3 x4
        clear hK' K'
        try simp only [Act.put, List.setIfInBounds_toArray, List.set_cons_zero, List.set_cons_succ]
        refine wpAnyH_ready (rs := [6]) (by kernel_rfl) (by simp) ?_
        refine AllReadyH.cons (by simp only [List.getElem?_toArray, List.getElem?_cons_succ, List.getElem?_cons_zero]; rfl) (fun K' hK' => ?_) AllReadyH.nil
        go_simp
        have bu3 := below_alloc bV (.cells #[.int .i64 8, .bool false, .int .i64 1, .int .i64 1, .slice none 0 0] 34)
        refine hK'.out _ _ trivial (fun _ => ?_)
        obtain ⟨h0, hh0⟩ : ∃ h0, V0.heap.size = h0 := ⟨_, rfl⟩
        try rw [hh0]
        have hcel : ∀ (i : Nat) (u : Value), (compL comp8)[i]? = some u → (V0.alloc (.cells #[.int .i64 8, .bool false, .int .i64 1, .int .i64 1, .slice none 0 0] 34)).cell? ⟨h0, i, none⟩ = some u := fun i u hi => by
          rw [← hh0, cell_of_row _ _ _ _ _ (0, 0) (heap_alloc_new V0 _)]
          rw [← hi, List.getElem?_toArray]; rfl
        generalize V0.alloc (.cells #[.int .i64 8, .bool false, .int .i64 1, .int .i64 1, .slice none 0 0] 34) = U3 at *
        clear hh0
        clear hK' K'
        try simp only [Act.put, List.setIfInBounds_toArray, List.set_cons_zero, List.set_cons_succ]
        refine wpAnyH_ready (rs := [7]) (by kernel_rfl) (by simp) ?_
        refine AllReadyH.cons (by simp only [List.getElem?_toArray, List.getElem?_cons_succ, List.getElem?_cons_zero]; rfl) (fun K' hK' => ?_) AllReadyH.nil
        refine step_appC wr bu3 (others_of_below bu3) (by rfl) _ _ 23 (by rfl) 34 5 comp_elem w.heap.size _ j _ _ (by rfl) own h0 (by rfl) hcel (fun u hu => by simp [compL, comp8] at hu; rcases hu with rfl | rfl | rfl | rfl | rfl <;> rfl) (by omega) hbel.size ?_
        intro g1 cap U4 og sg hg
        refine hK'.out _ _ trivial (fun _ => ?_)
        clear hcel
        clear hK' K'
        try simp only [Act.put, List.setIfInBounds_toArray, List.set_cons_zero, List.set_cons_succ]
        refine wpAnyH_take (i := 8) (v := .pointer (some ⟨q, 4, none⟩)) rfl (by kernel_rfl) (by kernel_rfl) (by kernel_rfl) (fun _ _ _ h => h) (Or.inl ⟨by rfl, ?_⟩) hS ?_
        · intro U hU
          go_simp
        simp only [Act.put, List.setIfInBounds_toArray, List.set_cons_zero, List.set_cons_succ]
        refine wpAnyH_ready (rs := [9]) (by kernel_rfl) (by simp) ?_
        refine AllReadyH.cons (by simp only [List.getElem?_toArray, List.getElem?_cons_succ, List.getElem?_cons_zero]; rfl) (fun K' hK' => ?_) AllReadyH.nil
        have xm := (sg.cells ⟨q, 4, none⟩ hqs (own.ne_block gm (by decide))).trans m4
        have hq5 : U4.heap[q]? = some (.cells #[.int .i64 8, .int .i64 8, .int .i64 0, .int .i64 0, .slice (some ⟨g, off, none⟩) j cx] 25 (0, 0)) := (sg.blocks q hqs (own.ne_block gm (by decide))).trans gm
        have fm := frozen_of_row _ _ 4 _ _ hq5
        go_simp
        refine hK'.out _ _ trivial (fun _ => ?_)
        clear hK' K'
        try simp only [Act.put, List.setIfInBounds_toArray, List.set_cons_zero, List.set_cons_succ]
        refine wpAnyH_done (by kernel_rfl) ?_ _
        simp only [OnlyN]
        have gm6 := heap_set_same (j := 4) hq5 (.slice (some ⟨g1, 0, none⟩) (j + 1) cap)
        have gp6 := (Below.heap_setCell U4 ⟨q, 4, none⟩ (.slice (some ⟨g1, 0, none⟩) (j + 1) cap) (q + 1) (by simp only; omega)).trans ((sg.blocks (q + 1) hqp (own.ne_block gp (by decide))).trans gp)
        have og6 := og.other (a := ⟨q, 4, none⟩) (og.ne_block hq5 (by decide)) (.slice (some ⟨g1, 0, none⟩) (j + 1) cap)
        have hb6 := (hbel.trans sg.below).setCell (p := ⟨q, 4, none⟩) hws (.slice (some ⟨g1, 0, none⟩) (j + 1) cap)
        go_wp2_with fail
        go_roundg (gk - 1)
        case measure => omega
        case rel => exact ⟨j + 1, _, cap, by omega, by omega, by omega, gm6, gp6, og6, hb6⟩
      · have xm := (bV.cell (p := ⟨q, 4, none⟩) hqs).trans m4
        go_simp
        refine hK'.out _ _ trivial (fun _ => ?_)
        clear xm
        clear hK' K'
        try simp only [Act.put, List.setIfInBounds_toArray, List.set_cons_zero, List.set_cons_succ]
        refine wpAnyH_take (i := 4) (v := .pointer (some ⟨g, off, none⟩)) rfl (by kernel_rfl) (by kernel_rfl) (by kernel_rfl) (fun _ _ _ h => h) (Or.inl ⟨by rfl, ?_⟩) hS ?_
        · intro U hU
          go_simp
          intro h
          exact absurd h (by omega)
        simp only [Act.put, List.setIfInBounds_toArray, List.set_cons_zero, List.set_cons_succ]
        refine wpAnyH_ready (rs := [1, 5]) (by kernel_rfl) (by simp) ?_
        refine AllReadyH.cons (by simp only [List.getElem?_toArray, List.getElem?_cons_succ, List.getElem?_cons_zero]; rfl) (fun K' hK' => ?_) (AllReadyH.cons (by simp only [List.getElem?_toArray, List.getElem?_cons_succ, List.getElem?_cons_zero]; rfl) (fun K' hK' => ?_) AllReadyH.nil)
        · have xm := (bV.cell (p := ⟨q, 4, none⟩) hqs).trans m4
          go_simp
          refine hK'.out _ _ trivial (fun _ => ?_)
          clear xm
          clear hK' K'
          try simp only [Act.put, List.setIfInBounds_toArray, List.set_cons_zero, List.set_cons_succ]
          refine wpAnyH_ready (rs := [5]) (by kernel_rfl) (by simp) ?_
          refine AllReadyH.cons (by simp only [List.getElem?_toArray, List.getElem?_cons_succ, List.getElem?_cons_zero]; rfl) (fun K' hK' => ?_) AllReadyH.nil
          have x0 := (bV.cell (p := ⟨g, off, none⟩) hgl).trans k0
          have x1 := (bV.cell (p := ⟨g, off + 1, none⟩) hgl).trans k1
          have x2 := (bV.cell (p := ⟨g, off + 2, none⟩) hgl).trans k2
          have x3 := (bV.cell (p := ⟨g, off + 3, none⟩) hgl).trans k3
          have x4 := (bV.cell (p := ⟨g, off + 4, none⟩) hgl).trans k4
          go_simp
          refine hK'.out _ _ trivial (fun _ => ?_)
          clear x0 x1 x2 x3 x4
          clear hK' K'
          try simp only [Act.put, List.setIfInBounds_toArray, List.set_cons_zero, List.set_cons_succ]
          refine wpAnyH_ready (rs := [6]) (by kernel_rfl) (by simp) ?_
          refine AllReadyH.cons (by simp only [List.getElem?_toArray, List.getElem?_cons_succ, List.getElem?_cons_zero]; rfl) (fun K' hK' => ?_) AllReadyH.nil
          go_simp
          have bu9 := below_alloc bV (.cells #[.int .i64 8, .bool false, .int .i64 1, .int .i64 1, .slice none 0 0] 34)
          refine hK'.out _ _ trivial (fun _ => ?_)
          obtain ⟨h0, hh0⟩ : ∃ h0, V0.heap.size = h0 := ⟨_, rfl⟩
          try rw [hh0]
          have hcel : ∀ (i : Nat) (u : Value), (compL comp8)[i]? = some u → (V0.alloc (.cells #[.int .i64 8, .bool false, .int .i64 1, .int .i64 1, .slice none 0 0] 34)).cell? ⟨h0, i, none⟩ = some u := fun i u hi => by
            rw [← hh0, cell_of_row _ _ _ _ _ (0, 0) (heap_alloc_new V0 _)]
            rw [← hi, List.getElem?_toArray]; rfl
          generalize V0.alloc (.cells #[.int .i64 8, .bool false, .int .i64 1, .int .i64 1, .slice none 0 0] 34) = U9 at *
          clear hh0
          clear hK' K'
          try simp only [Act.put, List.setIfInBounds_toArray, List.set_cons_zero, List.set_cons_succ]
          refine wpAnyH_ready (rs := [7]) (by kernel_rfl) (by simp) ?_
          refine AllReadyH.cons (by simp only [List.getElem?_toArray, List.getElem?_cons_succ, List.getElem?_cons_zero]; rfl) (fun K' hK' => ?_) AllReadyH.nil
          refine step_appC wr bu9 (others_of_below bu9) (by rfl) _ _ 23 (by rfl) 34 5 comp_elem w.heap.size _ j _ _ (by rfl) own h0 (by rfl) hcel (fun u hu => by simp [compL, comp8] at hu; rcases hu with rfl | rfl | rfl | rfl | rfl <;> rfl) (by omega) hbel.size ?_
          intro g1 cap U10 og sg hg
          refine hK'.out _ _ trivial (fun _ => ?_)
          clear hcel
          clear hK' K'
          try simp only [Act.put, List.setIfInBounds_toArray, List.set_cons_zero, List.set_cons_succ]
          refine wpAnyH_take (i := 8) (v := .pointer (some ⟨q, 4, none⟩)) rfl (by kernel_rfl) (by kernel_rfl) (by kernel_rfl) (fun _ _ _ h => h) (Or.inl ⟨by rfl, ?_⟩) hS ?_
          · intro U hU
            go_simp
          simp only [Act.put, List.setIfInBounds_toArray, List.set_cons_zero, List.set_cons_succ]
          refine wpAnyH_ready (rs := [9]) (by kernel_rfl) (by simp) ?_
          refine AllReadyH.cons (by simp only [List.getElem?_toArray, List.getElem?_cons_succ, List.getElem?_cons_zero]; rfl) (fun K' hK' => ?_) AllReadyH.nil
          have xm := (sg.cells ⟨q, 4, none⟩ hqs (own.ne_block gm (by decide))).trans m4
          have hq5 : U10.heap[q]? = some (.cells #[.int .i64 8, .int .i64 8, .int .i64 0, .int .i64 0, .slice (some ⟨g, off, none⟩) j cx] 25 (0, 0)) := (sg.blocks q hqs (own.ne_block gm (by decide))).trans gm
          have fm := frozen_of_row _ _ 4 _ _ hq5
          go_simp
          refine hK'.out _ _ trivial (fun _ => ?_)
          clear hK' K'
          try simp only [Act.put, List.setIfInBounds_toArray, List.set_cons_zero, List.set_cons_succ]
          refine wpAnyH_done (by kernel_rfl) ?_ _
          simp only [OnlyN]
          have gm6 := heap_set_same (j := 4) hq5 (.slice (some ⟨g1, 0, none⟩) (j + 1) cap)
          have gp6 := (Below.heap_setCell U10 ⟨q, 4, none⟩ (.slice (some ⟨g1, 0, none⟩) (j + 1) cap) (q + 1) (by simp only; omega)).trans ((sg.blocks (q + 1) hqp (own.ne_block gp (by decide))).trans gp)
          have og6 := og.other (a := ⟨q, 4, none⟩) (og.ne_block hq5 (by decide)) (.slice (some ⟨g1, 0, none⟩) (j + 1) cap)
          have hb6 := (hbel.trans sg.below).setCell (p := ⟨q, 4, none⟩) hws (.slice (some ⟨g1, 0, none⟩) (j + 1) cap)
          go_wp2_with fail
          go_roundg (gk - 1)
          case measure => omega
          case rel => exact ⟨j + 1, _, cap, by omega, by omega, by omega, gm6, gp6, og6, hb6⟩
        · have x0 := (bV.cell (p := ⟨g, off, none⟩) hgl).trans k0
          have x1 := (bV.cell (p := ⟨g, off + 1, none⟩) hgl).trans k1
          have x2 := (bV.cell (p := ⟨g, off + 2, none⟩) hgl).trans k2
          have x3 := (bV.cell (p := ⟨g, off + 3, none⟩) hgl).trans k3
          have x4 := (bV.cell (p := ⟨g, off + 4, none⟩) hgl).trans k4
          go_simp
          refine hK'.out _ _ trivial (fun _ => ?_)
          clear x0 x1 x2 x3 x4
          clear hK' K'
          try simp only [Act.put, List.setIfInBounds_toArray, List.set_cons_zero, List.set_cons_succ]
          refine wpAnyH_ready (rs := [1, 6]) (by kernel_rfl) (by simp) ?_
          refine AllReadyH.cons (by simp only [List.getElem?_toArray, List.getElem?_cons_succ, List.getElem?_cons_zero]; rfl) (fun K' hK' => ?_) (AllReadyH.cons (by simp only [List.getElem?_toArray, List.getElem?_cons_succ, List.getElem?_cons_zero]; rfl) (fun K' hK' => ?_) AllReadyH.nil)
          · have xm := (bV.cell (p := ⟨q, 4, none⟩) hqs).trans m4
            go_simp
            refine hK'.out _ _ trivial (fun _ => ?_)
            clear xm
            clear hK' K'
            try simp only [Act.put, List.setIfInBounds_toArray, List.set_cons_zero, List.set_cons_succ]
            refine wpAnyH_ready (rs := [6]) (by kernel_rfl) (by simp) ?_
            refine AllReadyH.cons (by simp only [List.getElem?_toArray, List.getElem?_cons_succ, List.getElem?_cons_zero]; rfl) (fun K' hK' => ?_) AllReadyH.nil
            go_simp
            have bu14 := below_alloc bV (.cells #[.int .i64 8, .bool false, .int .i64 1, .int .i64 1, .slice none 0 0] 34)
            refine hK'.out _ _ trivial (fun _ => ?_)
            obtain ⟨h0, hh0⟩ : ∃ h0, V0.heap.size = h0 := ⟨_, rfl⟩
            try rw [hh0]
            have hcel : ∀ (i : Nat) (u : Value), (compL comp8)[i]? = some u → (V0.alloc (.cells #[.int .i64 8, .bool false, .int .i64 1, .int .i64 1, .slice none 0 0] 34)).cell? ⟨h0, i, none⟩ = some u := fun i u hi => by
              rw [← hh0, cell_of_row _ _ _ _ _ (0, 0) (heap_alloc_new V0 _)]
              rw [← hi, List.getElem?_toArray]; rfl
            generalize V0.alloc (.cells #[.int .i64 8, .bool false, .int .i64 1, .int .i64 1, .slice none 0 0] 34) = U14 at *
            clear hh0
            clear hK' K'
            try simp only [Act.put, List.setIfInBounds_toArray, List.set_cons_zero, List.set_cons_succ]
            refine wpAnyH_ready (rs := [7]) (by kernel_rfl) (by simp) ?_
            refine AllReadyH.cons (by simp only [List.getElem?_toArray, List.getElem?_cons_succ, List.getElem?_cons_zero]; rfl) (fun K' hK' => ?_) AllReadyH.nil
            refine step_appC wr bu14 (others_of_below bu14) (by rfl) _ _ 23 (by rfl) 34 5 comp_elem w.heap.size _ j _ _ (by rfl) own h0 (by rfl) hcel (fun u hu => by simp [compL, comp8] at hu; rcases hu with rfl | rfl | rfl | rfl | rfl <;> rfl) (by omega) hbel.size ?_
            intro g1 cap U15 og sg hg
            refine hK'.out _ _ trivial (fun _ => ?_)
            clear hcel
            clear hK' K'
            try simp only [Act.put, List.setIfInBounds_toArray, List.set_cons_zero, List.set_cons_succ]
            refine wpAnyH_take (i := 8) (v := .pointer (some ⟨q, 4, none⟩)) rfl (by kernel_rfl) (by kernel_rfl) (by kernel_rfl) (fun _ _ _ h => h) (Or.inl ⟨by rfl, ?_⟩) hS ?_
            · intro U hU
              go_simp
            simp only [Act.put, List.setIfInBounds_toArray, List.set_cons_zero, List.set_cons_succ]
            refine wpAnyH_ready (rs := [9]) (by kernel_rfl) (by simp) ?_
            refine AllReadyH.cons (by simp only [List.getElem?_toArray, List.getElem?_cons_succ, List.getElem?_cons_zero]; rfl) (fun K' hK' => ?_) AllReadyH.nil
            have xm := (sg.cells ⟨q, 4, none⟩ hqs (own.ne_block gm (by decide))).trans m4
            have hq5 : U15.heap[q]? = some (.cells #[.int .i64 8, .int .i64 8, .int .i64 0, .int .i64 0, .slice (some ⟨g, off, none⟩) j cx] 25 (0, 0)) := (sg.blocks q hqs (own.ne_block gm (by decide))).trans gm
            have fm := frozen_of_row _ _ 4 _ _ hq5
            go_simp
            refine hK'.out _ _ trivial (fun _ => ?_)
            clear hK' K'
            try simp only [Act.put, List.setIfInBounds_toArray, List.set_cons_zero, List.set_cons_succ]
            refine wpAnyH_done (by kernel_rfl) ?_ _
            simp only [OnlyN]
            have gm6 := heap_set_same (j := 4) hq5 (.slice (some ⟨g1, 0, none⟩) (j + 1) cap)
            have gp6 := (Below.heap_setCell U15 ⟨q, 4, none⟩ (.slice (some ⟨g1, 0, none⟩) (j + 1) cap) (q + 1) (by simp only; omega)).trans ((sg.blocks (q + 1) hqp (own.ne_block gp (by decide))).trans gp)
            have og6 := og.other (a := ⟨q, 4, none⟩) (og.ne_block hq5 (by decide)) (.slice (some ⟨g1, 0, none⟩) (j + 1) cap)
            have hb6 := (hbel.trans sg.below).setCell (p := ⟨q, 4, none⟩) hws (.slice (some ⟨g1, 0, none⟩) (j + 1) cap)
            go_wp2_with fail
            go_roundg (gk - 1)
            case measure => omega
            case rel => exact ⟨j + 1, _, cap, by omega, by omega, by omega, gm6, gp6, og6, hb6⟩
          · go_simp
            have bu17 := below_alloc bV (.cells #[.int .i64 8, .bool false, .int .i64 1, .int .i64 1, .slice none 0 0] 34)
            refine hK'.out _ _ trivial (fun _ => ?_)
            obtain ⟨h0, hh0⟩ : ∃ h0, V0.heap.size = h0 := ⟨_, rfl⟩
            try rw [hh0]
            have hcel : ∀ (i : Nat) (u : Value), (compL comp8)[i]? = some u → (V0.alloc (.cells #[.int .i64 8, .bool false, .int .i64 1, .int .i64 1, .slice none 0 0] 34)).cell? ⟨h0, i, none⟩ = some u := fun i u hi => by
              rw [← hh0, cell_of_row _ _ _ _ _ (0, 0) (heap_alloc_new V0 _)]
              rw [← hi, List.getElem?_toArray]; rfl
            generalize V0.alloc (.cells #[.int .i64 8, .bool false, .int .i64 1, .int .i64 1, .slice none 0 0] 34) = U17 at *
            clear hh0
            clear hK' K'
            try simp only [Act.put, List.setIfInBounds_toArray, List.set_cons_zero, List.set_cons_succ]
            refine wpAnyH_ready (rs := [1]) (by kernel_rfl) (by simp) ?_
            refine AllReadyH.cons (by simp only [List.getElem?_toArray, List.getElem?_cons_succ, List.getElem?_cons_zero]; rfl) (fun K' hK' => ?_) AllReadyH.nil
            have xm := (bu17.cell (p := ⟨q, 4, none⟩) hqs).trans m4
            go_simp
            refine hK'.out _ _ trivial (fun _ => ?_)
            clear xm
            clear hK' K'
            try simp only [Act.put, List.setIfInBounds_toArray, List.set_cons_zero, List.set_cons_succ]
            refine wpAnyH_ready (rs := [7]) (by kernel_rfl) (by simp) ?_
            refine AllReadyH.cons (by simp only [List.getElem?_toArray, List.getElem?_cons_succ, List.getElem?_cons_zero]; rfl) (fun K' hK' => ?_) AllReadyH.nil
            refine step_appC wr bu17 (others_of_below bu17) (by rfl) _ _ 23 (by rfl) 34 5 comp_elem w.heap.size _ j _ _ (by rfl) own h0 (by rfl) hcel (fun u hu => by simp [compL, comp8] at hu; rcases hu with rfl | rfl | rfl | rfl | rfl <;> rfl) (by omega) hbel.size ?_
            intro g1 cap U19 og sg hg
            refine hK'.out _ _ trivial (fun _ => ?_)
            clear hcel
            clear hK' K'
            try simp only [Act.put, List.setIfInBounds_toArray, List.set_cons_zero, List.set_cons_succ]
            refine wpAnyH_take (i := 8) (v := .pointer (some ⟨q, 4, none⟩)) rfl (by kernel_rfl) (by kernel_rfl) (by kernel_rfl) (fun _ _ _ h => h) (Or.inl ⟨by rfl, ?_⟩) hS ?_
            · intro U hU
              go_simp
            simp only [Act.put, List.setIfInBounds_toArray, List.set_cons_zero, List.set_cons_succ]
            refine wpAnyH_ready (rs := [9]) (by kernel_rfl) (by simp) ?_
            refine AllReadyH.cons (by simp only [List.getElem?_toArray, List.getElem?_cons_succ, List.getElem?_cons_zero]; rfl) (fun K' hK' => ?_) AllReadyH.nil
            have xm := (sg.cells ⟨q, 4, none⟩ hqs (own.ne_block gm (by decide))).trans m4
            have hq5 : U19.heap[q]? = some (.cells #[.int .i64 8, .int .i64 8, .int .i64 0, .int .i64 0, .slice (some ⟨g, off, none⟩) j cx] 25 (0, 0)) := (sg.blocks q hqs (own.ne_block gm (by decide))).trans gm
            have fm := frozen_of_row _ _ 4 _ _ hq5
            go_simp
            refine hK'.out _ _ trivial (fun _ => ?_)
            clear hK' K'
            try simp only [Act.put, List.setIfInBounds_toArray, List.set_cons_zero, List.set_cons_succ]
            refine wpAnyH_done (by kernel_rfl) ?_ _
            simp only [OnlyN]
            have gm6 := heap_set_same (j := 4) hq5 (.slice (some ⟨g1, 0, none⟩) (j + 1) cap)
            have gp6 := (Below.heap_setCell U19 ⟨q, 4, none⟩ (.slice (some ⟨g1, 0, none⟩) (j + 1) cap) (q + 1) (by simp only; omega)).trans ((sg.blocks (q + 1) hqp (own.ne_block gp (by decide))).trans gp)
            have og6 := og.other (a := ⟨q, 4, none⟩) (og.ne_block hq5 (by decide)) (.slice (some ⟨g1, 0, none⟩) (j + 1) cap)
            have hb6 := (hbel.trans sg.below).setCell (p := ⟨q, 4, none⟩) hws (.slice (some ⟨g1, 0, none⟩) (j + 1) cap)
            go_wp2_with fail
            go_roundg (gk - 1)
            case measure => omega
            case rel => exact ⟨j + 1, _, cap, by omega, by omega, by omega, gm6, gp6, og6, hb6⟩
    · obtain rfl : j = 4 := by omega
      obtain ⟨g, rfl, hgb, hgl⟩ := own.row (by omega)
      have fp9 : wr.frozen? ⟨q + 1, 9, none⟩ = false := frozen_of_row _ _ 9 _ _ gp
      have p9 : wr.cell? ⟨q + 1, 9, none⟩ = some (.bool false) := (cell_of_row _ _ 9 _ _ (0, 0) gp)
      clear m
      go_wp2_with fail
      have gp1 := heap_set_same (j := 9) gp (.bool true)
      have gm1 := (Below.heap_setCell wr ⟨q + 1, 9, none⟩ (.bool true) q (by simp only; omega)).trans gm
      have own1 := own.other (a := ⟨q + 1, 9, none⟩) (own.ne_block gp (by decide)) (.bool true)
      have hb1 := hbel.setCell (p := ⟨q + 1, 9, none⟩) (by simp only; omega) (.bool true)
      clear own gp gm fp9 p9 m4 hbel hgl hqs hqp
      generalize wr.setCell ⟨q + 1, 9, none⟩ (.bool true) = V1 at *
      have hgq : g ≠ q := fun h => own1.ne_block gm1 (by decide) (by rw [h]; rfl)
      have hgp : g ≠ q + 1 := fun h => own1.ne_block gp1 (by decide) (by rw [h]; rfl)
      have m := fun i => cell_of_row _ _ i _ _ (0, 0) gm1
      have p := fun i => cell_of_row _ _ i _ _ (0, 0) gp1
      have m0 : V1.cell? ⟨q, 0, none⟩ = some (.int .i64 8) := m 0
      have m1 : V1.cell? ⟨q, 1, none⟩ = some (.int .i64 8) := m 1
      have m2 : V1.cell? ⟨q, 2, none⟩ = some (.int .i64 0) := m 2
      have m3 : V1.cell? ⟨q, 3, none⟩ = some (.int .i64 0) := m 3
      have m4 : V1.cell? ⟨q, 4, none⟩ = some (.slice (some ⟨g, 0, none⟩) 4 cx) := m 4
      have p0 : V1.cell? ⟨q + 1, 0, none⟩ = some (.int .i64 64) := p 0
      have p1 : V1.cell? ⟨q + 1, 1, none⟩ = some (.int .i64 64) := p 1
      have p2 : V1.cell? ⟨q + 1, 2, none⟩ = some (.int .i64 2) := p 2
      have p3 : V1.cell? ⟨q + 1, 3, none⟩ = some (.int .i64 4) := p 3
      have p4 : V1.cell? ⟨q + 1, 4, none⟩ = some (.int .i64 4) := p 4
      have p5 : V1.cell? ⟨q + 1, 5, none⟩ = some (.int .i64 15) := p 5
      have p6 : V1.cell? ⟨q + 1, 6, none⟩ = some (.int .i64 0) := p 6
      have p7 : V1.cell? ⟨q + 1, 7, none⟩ = some (.int .i64 0) := p 7
      have p8 : V1.cell? ⟨q + 1, 8, none⟩ = some (.int .i64 1) := p 8
      have p9 : V1.cell? ⟨q + 1, 9, none⟩ = some (.bool true) := p 9
      have p10 : V1.cell? ⟨q + 1, 10, none⟩ = some (.bool false) := p 10
      have p11 : V1.cell? ⟨q + 1, 11, none⟩ = some (.bool false) := p 11
      refine (W1.out _).mono ?_
      rintro e w6 ⟨rfl, rfl⟩
      clear W1 m p
      have hk2 : at_ % 4 = 0 ∨ at_ % 4 = 1 ∨ at_ % 4 = 2 ∨ at_ % 4 = 3 := by omega
      rcases hk2 with hk2 | hk2 | hk2 | hk2
      · rw [hk2]
        clear hk2
        go_wp2_with fail
        refine (W2.out _).mono ?_
        rintro e w7 ⟨rfl, rfl⟩
        clear W2
        rcases K.out with hk3 | hk3 | hk3 | hk3 | hk3
        · rw [hk3]
          clear hk3
          have cf : V1.cell? ⟨g, 0, none⟩ = some (.int .i64 8) := own1.at_.cells (k := 0) (j := 0) (by omega) rfl
          have ff : V1.frozen? ⟨g, 0, none⟩ = false := own1.frozen _
          have own2 := own1.stored (k := 0) (j := 0) (by omega) (by omega) (.int .i64 9)
          have hc2 : CompsAt (V1.setCell ⟨g, 0, none⟩ (.int .i64 9)) (V1.setCell ⟨g, 0, none⟩ (.int .i64 9)).heap.size (some ⟨g, 0, none⟩) 4 (fun i => if i = 0 then (⟨9, false, 1, 1, none, 0, 0⟩ : CompD) else comp8) := comps_of_cells (own2.at_.congr (fun i _ => by (try dsimp only); split <;> rfl))
          have hb2 : Below w.heap.size w (V1.setCell ⟨g, 0, none⟩ (.int .i64 9)) := hb1.setCell (p := ⟨g, 0, none⟩) hgb _
          have mm : ∀ i, (V1.setCell ⟨g, 0, none⟩ (.int .i64 9)).cell? ⟨q, i, none⟩ = V1.cell? ⟨q, i, none⟩ := fun i => World.cell?_of_block (Below.heap_setCell _ _ _ _ (fun h => hgq h.symm))
          have pp : ∀ i, (V1.setCell ⟨g, 0, none⟩ (.int .i64 9)).cell? ⟨q + 1, i, none⟩ = V1.cell? ⟨q + 1, i, none⟩ := fun i => World.cell?_of_block (Below.heap_setCell _ _ _ _ (fun h => hgp h.symm))
          have mm0 := (mm 0).trans m0
          have mm1 := (mm 1).trans m1
          have mm2 := (mm 2).trans m2
          have mm3 := (mm 3).trans m3
          have mm4 := (mm 4).trans m4
          have pp0 := (pp 0).trans p0
          have pp1 := (pp 1).trans p1
          have pp2 := (pp 2).trans p2
          have pp3 := (pp 3).trans p3
          have pp4 := (pp 4).trans p4
          have pp5 := (pp 5).trans p5
          have pp6 := (pp 6).trans p6
          have pp7 := (pp 7).trans p7
          have pp8 := (pp 8).trans p8
          have pp9 := (pp 9).trans p9
          have pp10 := (pp 10).trans p10
          have pp11 := (pp 11).trans p11
          clear mm pp own2
          have FR := frame_any 8 8 0 0 _ 4 cx (fun i => if i = 0 then (⟨9, false, 1, 1, none, 0, 0⟩ : CompD) else comp8) 64 64 2 4 4 15 0 0 1 true false false _ hc2 own1.cap.1
          have fe : frameE 8 8 0 0 4 (fun i => if i = 0 then (⟨9, false, 1, 1, none, 0, 0⟩ : CompD) else comp8) 64 64 2 4 4 15 0 0 1 true = 3 := by decide
          rw [fe] at FR
          unfold imgV parV at FR
          have FR := Lib.hid FR
          clear fe hc2 own1 gm1 gp1
          go_wp2_with fail
          refine FR.out.mono ?_
          rintro e w5 ⟨rfl, hb5⟩
          go_wp2_with fail
          go_ret
          exact ⟨rfl, below_trans hb2 hb5⟩
        · rw [hk3]
          clear hk3
          have cf : V1.cell? ⟨g, 1, none⟩ = some (.bool false) := own1.at_.cells (k := 0) (j := 1) (by omega) rfl
          have ff : V1.frozen? ⟨g, 1, none⟩ = false := own1.frozen _
          have own2 := own1.stored (k := 0) (j := 1) (by omega) (by omega) (.bool true)
          have hc2 : CompsAt (V1.setCell ⟨g, 1, none⟩ (.bool true)) (V1.setCell ⟨g, 1, none⟩ (.bool true)).heap.size (some ⟨g, 0, none⟩) 4 (fun i => if i = 0 then (⟨8, true, 1, 1, none, 0, 0⟩ : CompD) else comp8) := comps_of_cells (own2.at_.congr (fun i _ => by (try dsimp only); split <;> rfl))
          have hb2 : Below w.heap.size w (V1.setCell ⟨g, 1, none⟩ (.bool true)) := hb1.setCell (p := ⟨g, 1, none⟩) hgb _
          have mm : ∀ i, (V1.setCell ⟨g, 1, none⟩ (.bool true)).cell? ⟨q, i, none⟩ = V1.cell? ⟨q, i, none⟩ := fun i => World.cell?_of_block (Below.heap_setCell _ _ _ _ (fun h => hgq h.symm))
          have pp : ∀ i, (V1.setCell ⟨g, 1, none⟩ (.bool true)).cell? ⟨q + 1, i, none⟩ = V1.cell? ⟨q + 1, i, none⟩ := fun i => World.cell?_of_block (Below.heap_setCell _ _ _ _ (fun h => hgp h.symm))
          have mm0 := (mm 0).trans m0
          have mm1 := (mm 1).trans m1
          have mm2 := (mm 2).trans m2
          have mm3 := (mm 3).trans m3
          have mm4 := (mm 4).trans m4
          have pp0 := (pp 0).trans p0
          have pp1 := (pp 1).trans p1
          have pp2 := (pp 2).trans p2
          have pp3 := (pp 3).trans p3
          have pp4 := (pp 4).trans p4
          have pp5 := (pp 5).trans p5
          have pp6 := (pp 6).trans p6
          have pp7 := (pp 7).trans p7
          have pp8 := (pp 8).trans p8
          have pp9 := (pp 9).trans p9
          have pp10 := (pp 10).trans p10
          have pp11 := (pp 11).trans p11
          clear mm pp own2
          have FR := frame_any 8 8 0 0 _ 4 cx (fun i => if i = 0 then (⟨8, true, 1, 1, none, 0, 0⟩ : CompD) else comp8) 64 64 2 4 4 15 0 0 1 true false false _ hc2 own1.cap.1
          have fe : frameE 8 8 0 0 4 (fun i => if i = 0 then (⟨8, true, 1, 1, none, 0, 0⟩ : CompD) else comp8) 64 64 2 4 4 15 0 0 1 true = 3 := by decide
          rw [fe] at FR
          unfold imgV parV at FR
          have FR := Lib.hid FR
          clear fe hc2 own1 gm1 gp1
          go_wp2_with fail
          refine FR.out.mono ?_
          rintro e w5 ⟨rfl, hb5⟩
          go_wp2_with fail
          go_ret
          exact ⟨rfl, below_trans hb2 hb5⟩
        · rw [hk3]
          clear hk3
          have cf : V1.cell? ⟨g, 2, none⟩ = some (.int .i64 1) := own1.at_.cells (k := 0) (j := 2) (by omega) rfl
          have ff : V1.frozen? ⟨g, 2, none⟩ = false := own1.frozen _
          have own2 := own1.stored (k := 0) (j := 2) (by omega) (by omega) (.int .i64 2)
          have hc2 : CompsAt (V1.setCell ⟨g, 2, none⟩ (.int .i64 2)) (V1.setCell ⟨g, 2, none⟩ (.int .i64 2)).heap.size (some ⟨g, 0, none⟩) 4 (fun i => if i = 0 then (⟨8, false, 2, 1, none, 0, 0⟩ : CompD) else comp8) := comps_of_cells (own2.at_.congr (fun i _ => by (try dsimp only); split <;> rfl))
          have hb2 : Below w.heap.size w (V1.setCell ⟨g, 2, none⟩ (.int .i64 2)) := hb1.setCell (p := ⟨g, 2, none⟩) hgb _
          have mm : ∀ i, (V1.setCell ⟨g, 2, none⟩ (.int .i64 2)).cell? ⟨q, i, none⟩ = V1.cell? ⟨q, i, none⟩ := fun i => World.cell?_of_block (Below.heap_setCell _ _ _ _ (fun h => hgq h.symm))
          have pp : ∀ i, (V1.setCell ⟨g, 2, none⟩ (.int .i64 2)).cell? ⟨q + 1, i, none⟩ = V1.cell? ⟨q + 1, i, none⟩ := fun i => World.cell?_of_block (Below.heap_setCell _ _ _ _ (fun h => hgp h.symm))
          have mm0 := (mm 0).trans m0
          have mm1 := (mm 1).trans m1
          have mm2 := (mm 2).trans m2
          have mm3 := (mm 3).trans m3
          have mm4 := (mm 4).trans m4
          have pp0 := (pp 0).trans p0
          have pp1 := (pp 1).trans p1
          have pp2 := (pp 2).trans p2
          have pp3 := (pp 3).trans p3
          have pp4 := (pp 4).trans p4
          have pp5 := (pp 5).trans p5
          have pp6 := (pp 6).trans p6
          have pp7 := (pp 7).trans p7
          have pp8 := (pp 8).trans p8
          have pp9 := (pp 9).trans p9
          have pp10 := (pp 10).trans p10
          have pp11 := (pp 11).trans p11
          clear mm pp own2
          have FR := frame_any 8 8 0 0 _ 4 cx (fun i => if i = 0 then (⟨8, false, 2, 1, none, 0, 0⟩ : CompD) else comp8) 64 64 2 4 4 15 0 0 1 true false false _ hc2 own1.cap.1
          have fe : frameE 8 8 0 0 4 (fun i => if i = 0 then (⟨8, false, 2, 1, none, 0, 0⟩ : CompD) else comp8) 64 64 2 4 4 15 0 0 1 true = 3 := by decide
          rw [fe] at FR
          unfold imgV parV at FR
          have FR := Lib.hid FR
          clear fe hc2 own1 gm1 gp1
          go_wp2_with fail
          refine FR.out.mono ?_
          rintro e w5 ⟨rfl, hb5⟩
          go_wp2_with fail
          go_ret
          exact ⟨rfl, below_trans hb2 hb5⟩
        · rw [hk3]
          clear hk3
          have cf : V1.cell? ⟨g, 3, none⟩ = some (.int .i64 1) := own1.at_.cells (k := 0) (j := 3) (by omega) rfl
          have ff : V1.frozen? ⟨g, 3, none⟩ = false := own1.frozen _
          have own2 := own1.stored (k := 0) (j := 3) (by omega) (by omega) (.int .i64 2)
          have hc2 : CompsAt (V1.setCell ⟨g, 3, none⟩ (.int .i64 2)) (V1.setCell ⟨g, 3, none⟩ (.int .i64 2)).heap.size (some ⟨g, 0, none⟩) 4 (fun i => if i = 0 then (⟨8, false, 1, 2, none, 0, 0⟩ : CompD) else comp8) := comps_of_cells (own2.at_.congr (fun i _ => by (try dsimp only); split <;> rfl))
          have hb2 : Below w.heap.size w (V1.setCell ⟨g, 3, none⟩ (.int .i64 2)) := hb1.setCell (p := ⟨g, 3, none⟩) hgb _
          have mm : ∀ i, (V1.setCell ⟨g, 3, none⟩ (.int .i64 2)).cell? ⟨q, i, none⟩ = V1.cell? ⟨q, i, none⟩ := fun i => World.cell?_of_block (Below.heap_setCell _ _ _ _ (fun h => hgq h.symm))
          have pp : ∀ i, (V1.setCell ⟨g, 3, none⟩ (.int .i64 2)).cell? ⟨q + 1, i, none⟩ = V1.cell? ⟨q + 1, i, none⟩ := fun i => World.cell?_of_block (Below.heap_setCell _ _ _ _ (fun h => hgp h.symm))
          have mm0 := (mm 0).trans m0
          have mm1 := (mm 1).trans m1
          have mm2 := (mm 2).trans m2
          have mm3 := (mm 3).trans m3
          have mm4 := (mm 4).trans m4
          have pp0 := (pp 0).trans p0
          have pp1 := (pp 1).trans p1
          have pp2 := (pp 2).trans p2
          have pp3 := (pp 3).trans p3
          have pp4 := (pp 4).trans p4
          have pp5 := (pp 5).trans p5
          have pp6 := (pp 6).trans p6
          have pp7 := (pp 7).trans p7
          have pp8 := (pp 8).trans p8
          have pp9 := (pp 9).trans p9
          have pp10 := (pp 10).trans p10
          have pp11 := (pp 11).trans p11
          clear mm pp own2
          have FR := frame_any 8 8 0 0 _ 4 cx (fun i => if i = 0 then (⟨8, false, 1, 2, none, 0, 0⟩ : CompD) else comp8) 64 64 2 4 4 15 0 0 1 true false false _ hc2 own1.cap.1
          have fe : frameE 8 8 0 0 4 (fun i => if i = 0 then (⟨8, false, 1, 2, none, 0, 0⟩ : CompD) else comp8) 64 64 2 4 4 15 0 0 1 true = 3 := by decide
          rw [fe] at FR
          unfold imgV parV at FR
          have FR := Lib.hid FR
          clear fe hc2 own1 gm1 gp1
          go_wp2_with fail
          refine FR.out.mono ?_
          rintro e w5 ⟨rfl, hb5⟩
          go_wp2_with fail
          go_ret
          exact ⟨rfl, below_trans hb2 hb5⟩
        · rw [hk3]
          clear hk3
          have hc2 : CompsAt V1 V1.heap.size (some ⟨g, 0, none⟩) 4 (fun _ => comp8) := comps_of_cells own1.at_
          have hb2 := hb1
          have FR := frame_any 8 8 0 0 _ 4 cx (fun _ => comp8) 64 64 2 4 4 15 0 0 1 true false false _ hc2 own1.cap.1
          have fe : frameE 8 8 0 0 4 (fun _ => comp8) 64 64 2 4 4 15 0 0 1 true = 0 := by decide
          rw [fe] at FR
          unfold imgV parV at FR
          have FR := Lib.hid FR
          clear fe hc2 own1 gm1 gp1
          go_wp2_with fail
          refine FR.out.mono ?_
          rintro e w5 ⟨rfl, hb5⟩
          go_wp2_with fail
          go_ret
          exact ⟨rfl, below_trans hb2 hb5⟩
      · rw [hk2]
        clear hk2
        go_wp2_with fail
        refine (W2.out _).mono ?_
        rintro e w7 ⟨rfl, rfl⟩
        clear W2
        rcases K.out with hk3 | hk3 | hk3 | hk3 | hk3
        · rw [hk3]
          clear hk3
          have cf : V1.cell? ⟨g, 5, none⟩ = some (.int .i64 8) := own1.at_.cells (k := 1) (j := 0) (by omega) rfl
          have ff : V1.frozen? ⟨g, 5, none⟩ = false := own1.frozen _
          have own2 := own1.stored (k := 1) (j := 0) (by omega) (by omega) (.int .i64 9)
          have hc2 : CompsAt (V1.setCell ⟨g, 5, none⟩ (.int .i64 9)) (V1.setCell ⟨g, 5, none⟩ (.int .i64 9)).heap.size (some ⟨g, 0, none⟩) 4 (fun i => if i = 1 then (⟨9, false, 1, 1, none, 0, 0⟩ : CompD) else comp8) := comps_of_cells (own2.at_.congr (fun i _ => by (try dsimp only); split <;> rfl))
          have hb2 : Below w.heap.size w (V1.setCell ⟨g, 5, none⟩ (.int .i64 9)) := hb1.setCell (p := ⟨g, 5, none⟩) hgb _
          have mm : ∀ i, (V1.setCell ⟨g, 5, none⟩ (.int .i64 9)).cell? ⟨q, i, none⟩ = V1.cell? ⟨q, i, none⟩ := fun i => World.cell?_of_block (Below.heap_setCell _ _ _ _ (fun h => hgq h.symm))
          have pp : ∀ i, (V1.setCell ⟨g, 5, none⟩ (.int .i64 9)).cell? ⟨q + 1, i, none⟩ = V1.cell? ⟨q + 1, i, none⟩ := fun i => World.cell?_of_block (Below.heap_setCell _ _ _ _ (fun h => hgp h.symm))
          have mm0 := (mm 0).trans m0
          have mm1 := (mm 1).trans m1
          have mm2 := (mm 2).trans m2
          have mm3 := (mm 3).trans m3
          have mm4 := (mm 4).trans m4
          have pp0 := (pp 0).trans p0
          have pp1 := (pp 1).trans p1
          have pp2 := (pp 2).trans p2
          have pp3 := (pp 3).trans p3
          have pp4 := (pp 4).trans p4
          have pp5 := (pp 5).trans p5
          have pp6 := (pp 6).trans p6
          have pp7 := (pp 7).trans p7
          have pp8 := (pp 8).trans p8
          have pp9 := (pp 9).trans p9
          have pp10 := (pp 10).trans p10
          have pp11 := (pp 11).trans p11
          clear mm pp own2
          have FR := frame_any 8 8 0 0 _ 4 cx (fun i => if i = 1 then (⟨9, false, 1, 1, none, 0, 0⟩ : CompD) else comp8) 64 64 2 4 4 15 0 0 1 true false false _ hc2 own1.cap.1
          have fe : frameE 8 8 0 0 4 (fun i => if i = 1 then (⟨9, false, 1, 1, none, 0, 0⟩ : CompD) else comp8) 64 64 2 4 4 15 0 0 1 true = 3 := by decide
          rw [fe] at FR
          unfold imgV parV at FR
          have FR := Lib.hid FR
          clear fe hc2 own1 gm1 gp1
          go_wp2_with fail
          refine FR.out.mono ?_
          rintro e w5 ⟨rfl, hb5⟩
          go_wp2_with fail
          go_ret
          exact ⟨rfl, below_trans hb2 hb5⟩
        · rw [hk3]
          clear hk3
          have cf : V1.cell? ⟨g, 6, none⟩ = some (.bool false) := own1.at_.cells (k := 1) (j := 1) (by omega) rfl
          have ff : V1.frozen? ⟨g, 6, none⟩ = false := own1.frozen _
          have own2 := own1.stored (k := 1) (j := 1) (by omega) (by omega) (.bool true)
          have hc2 : CompsAt (V1.setCell ⟨g, 6, none⟩ (.bool true)) (V1.setCell ⟨g, 6, none⟩ (.bool true)).heap.size (some ⟨g, 0, none⟩) 4 (fun i => if i = 1 then (⟨8, true, 1, 1, none, 0, 0⟩ : CompD) else comp8) := comps_of_cells (own2.at_.congr (fun i _ => by (try dsimp only); split <;> rfl))
          have hb2 : Below w.heap.size w (V1.setCell ⟨g, 6, none⟩ (.bool true)) := hb1.setCell (p := ⟨g, 6, none⟩) hgb _
          have mm : ∀ i, (V1.setCell ⟨g, 6, none⟩ (.bool true)).cell? ⟨q, i, none⟩ = V1.cell? ⟨q, i, none⟩ := fun i => World.cell?_of_block (Below.heap_setCell _ _ _ _ (fun h => hgq h.symm))
          have pp : ∀ i, (V1.setCell ⟨g, 6, none⟩ (.bool true)).cell? ⟨q + 1, i, none⟩ = V1.cell? ⟨q + 1, i, none⟩ := fun i => World.cell?_of_block (Below.heap_setCell _ _ _ _ (fun h => hgp h.symm))
          have mm0 := (mm 0).trans m0
          have mm1 := (mm 1).trans m1
          have mm2 := (mm 2).trans m2
          have mm3 := (mm 3).trans m3
          have mm4 := (mm 4).trans m4
          have pp0 := (pp 0).trans p0
          have pp1 := (pp 1).trans p1
          have pp2 := (pp 2).trans p2
          have pp3 := (pp 3).trans p3
          have pp4 := (pp 4).trans p4
          have pp5 := (pp 5).trans p5
          have pp6 := (pp 6).trans p6
          have pp7 := (pp 7).trans p7
          have pp8 := (pp 8).trans p8
          have pp9 := (pp 9).trans p9
          have pp10 := (pp 10).trans p10
          have pp11 := (pp 11).trans p11
          clear mm pp own2
          have FR := frame_any 8 8 0 0 _ 4 cx (fun i => if i = 1 then (⟨8, true, 1, 1, none, 0, 0⟩ : CompD) else comp8) 64 64 2 4 4 15 0 0 1 true false false _ hc2 own1.cap.1
          have fe : frameE 8 8 0 0 4 (fun i => if i = 1 then (⟨8, true, 1, 1, none, 0, 0⟩ : CompD) else comp8) 64 64 2 4 4 15 0 0 1 true = 3 := by decide
          rw [fe] at FR
          unfold imgV parV at FR
          have FR := Lib.hid FR
          clear fe hc2 own1 gm1 gp1
          go_wp2_with fail
          refine FR.out.mono ?_
          rintro e w5 ⟨rfl, hb5⟩
          go_wp2_with fail
          go_ret
          exact ⟨rfl, below_trans hb2 hb5⟩
        · rw [hk3]
          clear hk3
          have cf : V1.cell? ⟨g, 7, none⟩ = some (.int .i64 1) := own1.at_.cells (k := 1) (j := 2) (by omega) rfl
          have ff : V1.frozen? ⟨g, 7, none⟩ = false := own1.frozen _
          have own2 := own1.stored (k := 1) (j := 2) (by omega) (by omega) (.int .i64 2)
          have hc2 : CompsAt (V1.setCell ⟨g, 7, none⟩ (.int .i64 2)) (V1.setCell ⟨g, 7, none⟩ (.int .i64 2)).heap.size (some ⟨g, 0, none⟩) 4 (fun i => if i = 1 then (⟨8, false, 2, 1, none, 0, 0⟩ : CompD) else comp8) := comps_of_cells (own2.at_.congr (fun i _ => by (try dsimp only); split <;> rfl))
          have hb2 : Below w.heap.size w (V1.setCell ⟨g, 7, none⟩ (.int .i64 2)) := hb1.setCell (p := ⟨g, 7, none⟩) hgb _
          have mm : ∀ i, (V1.setCell ⟨g, 7, none⟩ (.int .i64 2)).cell? ⟨q, i, none⟩ = V1.cell? ⟨q, i, none⟩ := fun i => World.cell?_of_block (Below.heap_setCell _ _ _ _ (fun h => hgq h.symm))
          have pp : ∀ i, (V1.setCell ⟨g, 7, none⟩ (.int .i64 2)).cell? ⟨q + 1, i, none⟩ = V1.cell? ⟨q + 1, i, none⟩ := fun i => World.cell?_of_block (Below.heap_setCell _ _ _ _ (fun h => hgp h.symm))
          have mm0 := (mm 0).trans m0
          have mm1 := (mm 1).trans m1
          have mm2 := (mm 2).trans m2
          have mm3 := (mm 3).trans m3
          have mm4 := (mm 4).trans m4
          have pp0 := (pp 0).trans p0
          have pp1 := (pp 1).trans p1
          have pp2 := (pp 2).trans p2
          have pp3 := (pp 3).trans p3
          have pp4 := (pp 4).trans p4
          have pp5 := (pp 5).trans p5
          have pp6 := (pp 6).trans p6
          have pp7 := (pp 7).trans p7
          have pp8 := (pp 8).trans p8
          have pp9 := (pp 9).trans p9
          have pp10 := (pp 10).trans p10
          have pp11 := (pp 11).trans p11
          clear mm pp own2
          have FR := frame_any 8 8 0 0 _ 4 cx (fun i => if i = 1 then (⟨8, false, 2, 1, none, 0, 0⟩ : CompD) else comp8) 64 64 2 4 4 15 0 0 1 true false false _ hc2 own1.cap.1
          have fe : frameE 8 8 0 0 4 (fun i => if i = 1 then (⟨8, false, 2, 1, none, 0, 0⟩ : CompD) else comp8) 64 64 2 4 4 15 0 0 1 true = 3 := by decide
          rw [fe] at FR
          unfold imgV parV at FR
          have FR := Lib.hid FR
          clear fe hc2 own1 gm1 gp1
          go_wp2_with fail
          refine FR.out.mono ?_
          rintro e w5 ⟨rfl, hb5⟩
          go_wp2_with fail
          go_ret
          exact ⟨rfl, below_trans hb2 hb5⟩
        · rw [hk3]
          clear hk3
          have cf : V1.cell? ⟨g, 8, none⟩ = some (.int .i64 1) := own1.at_.cells (k := 1) (j := 3) (by omega) rfl
          have ff : V1.frozen? ⟨g, 8, none⟩ = false := own1.frozen _
          have own2 := own1.stored (k := 1) (j := 3) (by omega) (by omega) (.int .i64 2)
          have hc2 : CompsAt (V1.setCell ⟨g, 8, none⟩ (.int .i64 2)) (V1.setCell ⟨g, 8, none⟩ (.int .i64 2)).heap.size (some ⟨g, 0, none⟩) 4 (fun i => if i = 1 then (⟨8, false, 1, 2, none, 0, 0⟩ : CompD) else comp8) := comps_of_cells (own2.at_.congr (fun i _ => by (try dsimp only); split <;> rfl))
          have hb2 : Below w.heap.size w (V1.setCell ⟨g, 8, none⟩ (.int .i64 2)) := hb1.setCell (p := ⟨g, 8, none⟩) hgb _
          have mm : ∀ i, (V1.setCell ⟨g, 8, none⟩ (.int .i64 2)).cell? ⟨q, i, none⟩ = V1.cell? ⟨q, i, none⟩ := fun i => World.cell?_of_block (Below.heap_setCell _ _ _ _ (fun h => hgq h.symm))
          have pp : ∀ i, (V1.setCell ⟨g, 8, none⟩ (.int .i64 2)).cell? ⟨q + 1, i, none⟩ = V1.cell? ⟨q + 1, i, none⟩ := fun i => World.cell?_of_block (Below.heap_setCell _ _ _ _ (fun h => hgp h.symm))
          have mm0 := (mm 0).trans m0
          have mm1 := (mm 1).trans m1
          have mm2 := (mm 2).trans m2
          have mm3 := (mm 3).trans m3
          have mm4 := (mm 4).trans m4
          have pp0 := (pp 0).trans p0
          have pp1 := (pp 1).trans p1
          have pp2 := (pp 2).trans p2
          have pp3 := (pp 3).trans p3
          have pp4 := (pp 4).trans p4
          have pp5 := (pp 5).trans p5
          have pp6 := (pp 6).trans p6
          have pp7 := (pp 7).trans p7
          have pp8 := (pp 8).trans p8
          have pp9 := (pp 9).trans p9
          have pp10 := (pp 10).trans p10
          have pp11 := (pp 11).trans p11
          clear mm pp own2
          have FR := frame_any 8 8 0 0 _ 4 cx (fun i => if i = 1 then (⟨8, false, 1, 2, none, 0, 0⟩ : CompD) else comp8) 64 64 2 4 4 15 0 0 1 true false false _ hc2 own1.cap.1
          have fe : frameE 8 8 0 0 4 (fun i => if i = 1 then (⟨8, false, 1, 2, none, 0, 0⟩ : CompD) else comp8) 64 64 2 4 4 15 0 0 1 true = 3 := by decide
          rw [fe] at FR
          unfold imgV parV at FR
          have FR := Lib.hid FR
          clear fe hc2 own1 gm1 gp1
          go_wp2_with fail
          refine FR.out.mono ?_
          rintro e w5 ⟨rfl, hb5⟩
          go_wp2_with fail
          go_ret
          exact ⟨rfl, below_trans hb2 hb5⟩
        · rw [hk3]
          clear hk3
          have hc2 : CompsAt V1 V1.heap.size (some ⟨g, 0, none⟩) 4 (fun _ => comp8) := comps_of_cells own1.at_
          have hb2 := hb1
          have FR := frame_any 8 8 0 0 _ 4 cx (fun _ => comp8) 64 64 2 4 4 15 0 0 1 true false false _ hc2 own1.cap.1
          have fe : frameE 8 8 0 0 4 (fun _ => comp8) 64 64 2 4 4 15 0 0 1 true = 0 := by decide
          rw [fe] at FR
          unfold imgV parV at FR
          have FR := Lib.hid FR
          clear fe hc2 own1 gm1 gp1
          go_wp2_with fail
          refine FR.out.mono ?_
          rintro e w5 ⟨rfl, hb5⟩
          go_wp2_with fail
          go_ret
          exact ⟨rfl, below_trans hb2 hb5⟩
      · rw [hk2]
        clear hk2
        go_wp2_with fail
        refine (W2.out _).mono ?_
        rintro e w7 ⟨rfl, rfl⟩
        clear W2
        rcases K.out with hk3 | hk3 | hk3 | hk3 | hk3
        · rw [hk3]
          clear hk3
          have cf : V1.cell? ⟨g, 10, none⟩ = some (.int .i64 8) := own1.at_.cells (k := 2) (j := 0) (by omega) rfl
          have ff : V1.frozen? ⟨g, 10, none⟩ = false := own1.frozen _
          have own2 := own1.stored (k := 2) (j := 0) (by omega) (by omega) (.int .i64 9)
          have hc2 : CompsAt (V1.setCell ⟨g, 10, none⟩ (.int .i64 9)) (V1.setCell ⟨g, 10, none⟩ (.int .i64 9)).heap.size (some ⟨g, 0, none⟩) 4 (fun i => if i = 2 then (⟨9, false, 1, 1, none, 0, 0⟩ : CompD) else comp8) := comps_of_cells (own2.at_.congr (fun i _ => by (try dsimp only); split <;> rfl))
          have hb2 : Below w.heap.size w (V1.setCell ⟨g, 10, none⟩ (.int .i64 9)) := hb1.setCell (p := ⟨g, 10, none⟩) hgb _
          have mm : ∀ i, (V1.setCell ⟨g, 10, none⟩ (.int .i64 9)).cell? ⟨q, i, none⟩ = V1.cell? ⟨q, i, none⟩ := fun i => World.cell?_of_block (Below.heap_setCell _ _ _ _ (fun h => hgq h.symm))
          have pp : ∀ i, (V1.setCell ⟨g, 10, none⟩ (.int .i64 9)).cell? ⟨q + 1, i, none⟩ = V1.cell? ⟨q + 1, i, none⟩ := fun i => World.cell?_of_block (Below.heap_setCell _ _ _ _ (fun h => hgp h.symm))
          have mm0 := (mm 0).trans m0
          have mm1 := (mm 1).trans m1
          have mm2 := (mm 2).trans m2
          have mm3 := (mm 3).trans m3
          have mm4 := (mm 4).trans m4
          have pp0 := (pp 0).trans p0
          have pp1 := (pp 1).trans p1
          have pp2 := (pp 2).trans p2
          have pp3 := (pp 3).trans p3
          have pp4 := (pp 4).trans p4
          have pp5 := (pp 5).trans p5
          have pp6 := (pp 6).trans p6
          have pp7 := (pp 7).trans p7
          have pp8 := (pp 8).trans p8
          have pp9 := (pp 9).trans p9
          have pp10 := (pp 10).trans p10
          have pp11 := (pp 11).trans p11
          clear mm pp own2
          have FR := frame_any 8 8 0 0 _ 4 cx (fun i => if i = 2 then (⟨9, false, 1, 1, none, 0, 0⟩ : CompD) else comp8) 64 64 2 4 4 15 0 0 1 true false false _ hc2 own1.cap.1
          have fe : frameE 8 8 0 0 4 (fun i => if i = 2 then (⟨9, false, 1, 1, none, 0, 0⟩ : CompD) else comp8) 64 64 2 4 4 15 0 0 1 true = 3 := by decide
          rw [fe] at FR
          unfold imgV parV at FR
          have FR := Lib.hid FR
          clear fe hc2 own1 gm1 gp1
          go_wp2_with fail
          refine FR.out.mono ?_
          rintro e w5 ⟨rfl, hb5⟩
          go_wp2_with fail
          go_ret
          exact ⟨rfl, below_trans hb2 hb5⟩
        · rw [hk3]
          clear hk3
          have cf : V1.cell? ⟨g, 11, none⟩ = some (.bool false) := own1.at_.cells (k := 2) (j := 1) (by omega) rfl
          have ff : V1.frozen? ⟨g, 11, none⟩ = false := own1.frozen _
          have own2 := own1.stored (k := 2) (j := 1) (by omega) (by omega) (.bool true)
          have hc2 : CompsAt (V1.setCell ⟨g, 11, none⟩ (.bool true)) (V1.setCell ⟨g, 11, none⟩ (.bool true)).heap.size (some ⟨g, 0, none⟩) 4 (fun i => if i = 2 then (⟨8, true, 1, 1, none, 0, 0⟩ : CompD) else comp8) := comps_of_cells (own2.at_.congr (fun i _ => by (try dsimp only); split <;> rfl))
          have hb2 : Below w.heap.size w (V1.setCell ⟨g, 11, none⟩ (.bool true)) := hb1.setCell (p := ⟨g, 11, none⟩) hgb _
          have mm : ∀ i, (V1.setCell ⟨g, 11, none⟩ (.bool true)).cell? ⟨q, i, none⟩ = V1.cell? ⟨q, i, none⟩ := fun i => World.cell?_of_block (Below.heap_setCell _ _ _ _ (fun h => hgq h.symm))
          have pp : ∀ i, (V1.setCell ⟨g, 11, none⟩ (.bool true)).cell? ⟨q + 1, i, none⟩ = V1.cell? ⟨q + 1, i, none⟩ := fun i => World.cell?_of_block (Below.heap_setCell _ _ _ _ (fun h => hgp h.symm))
          have mm0 := (mm 0).trans m0
          have mm1 := (mm 1).trans m1
          have mm2 := (mm 2).trans m2
          have mm3 := (mm 3).trans m3
          have mm4 := (mm 4).trans m4
          have pp0 := (pp 0).trans p0
          have pp1 := (pp 1).trans p1
          have pp2 := (pp 2).trans p2
          have pp3 := (pp 3).trans p3
          have pp4 := (pp 4).trans p4
          have pp5 := (pp 5).trans p5
          have pp6 := (pp 6).trans p6
          have pp7 := (pp 7).trans p7
          have pp8 := (pp 8).trans p8
          have pp9 := (pp 9).trans p9
          have pp10 := (pp 10).trans p10
          have pp11 := (pp 11).trans p11
          clear mm pp own2
          have FR := frame_any 8 8 0 0 _ 4 cx (fun i => if i = 2 then (⟨8, true, 1, 1, none, 0, 0⟩ : CompD) else comp8) 64 64 2 4 4 15 0 0 1 true false false _ hc2 own1.cap.1
          have fe : frameE 8 8 0 0 4 (fun i => if i = 2 then (⟨8, true, 1, 1, none, 0, 0⟩ : CompD) else comp8) 64 64 2 4 4 15 0 0 1 true = 3 := by decide
          rw [fe] at FR
          unfold imgV parV at FR
          have FR := Lib.hid FR
          clear fe hc2 own1 gm1 gp1
          go_wp2_with fail
          refine FR.out.mono ?_
          rintro e w5 ⟨rfl, hb5⟩
          go_wp2_with fail
          go_ret
          exact ⟨rfl, below_trans hb2 hb5⟩
        · rw [hk3]
          clear hk3
          have cf : V1.cell? ⟨g, 12, none⟩ = some (.int .i64 1) := own1.at_.cells (k := 2) (j := 2) (by omega) rfl
          have ff : V1.frozen? ⟨g, 12, none⟩ = false := own1.frozen _
          have own2 := own1.stored (k := 2) (j := 2) (by omega) (by omega) (.int .i64 2)
          have hc2 : CompsAt (V1.setCell ⟨g, 12, none⟩ (.int .i64 2)) (V1.setCell ⟨g, 12, none⟩ (.int .i64 2)).heap.size (some ⟨g, 0, none⟩) 4 (fun i => if i = 2 then (⟨8, false, 2, 1, none, 0, 0⟩ : CompD) else comp8) := comps_of_cells (own2.at_.congr (fun i _ => by (try dsimp only); split <;> rfl))
          have hb2 : Below w.heap.size w (V1.setCell ⟨g, 12, none⟩ (.int .i64 2)) := hb1.setCell (p := ⟨g, 12, none⟩) hgb _
          have mm : ∀ i, (V1.setCell ⟨g, 12, none⟩ (.int .i64 2)).cell? ⟨q, i, none⟩ = V1.cell? ⟨q, i, none⟩ := fun i => World.cell?_of_block (Below.heap_setCell _ _ _ _ (fun h => hgq h.symm))
          have pp : ∀ i, (V1.setCell ⟨g, 12, none⟩ (.int .i64 2)).cell? ⟨q + 1, i, none⟩ = V1.cell? ⟨q + 1, i, none⟩ := fun i => World.cell?_of_block (Below.heap_setCell _ _ _ _ (fun h => hgp h.symm))
          have mm0 := (mm 0).trans m0
          have mm1 := (mm 1).trans m1
          have mm2 := (mm 2).trans m2
          have mm3 := (mm 3).trans m3
          have mm4 := (mm 4).trans m4
          have pp0 := (pp 0).trans p0
          have pp1 := (pp 1).trans p1
          have pp2 := (pp 2).trans p2
          have pp3 := (pp 3).trans p3
          have pp4 := (pp 4).trans p4
          have pp5 := (pp 5).trans p5
          have pp6 := (pp 6).trans p6
          have pp7 := (pp 7).trans p7
          have pp8 := (pp 8).trans p8
          have pp9 := (pp 9).trans p9
          have pp10 := (pp 10).trans p10
          have pp11 := (pp 11).trans p11
          clear mm pp own2
          have FR := frame_any 8 8 0 0 _ 4 cx (fun i => if i = 2 then (⟨8, false, 2, 1, none, 0, 0⟩ : CompD) else comp8) 64 64 2 4 4 15 0 0 1 true false false _ hc2 own1.cap.1
          have fe : frameE 8 8 0 0 4 (fun i => if i = 2 then (⟨8, false, 2, 1, none, 0, 0⟩ : CompD) else comp8) 64 64 2 4 4 15 0 0 1 true = 3 := by decide
          rw [fe] at FR
          unfold imgV parV at FR
          have FR := Lib.hid FR
          clear fe hc2 own1 gm1 gp1
          go_wp2_with fail
          refine FR.out.mono ?_
          rintro e w5 ⟨rfl, hb5⟩
          go_wp2_with fail
          go_ret
          exact ⟨rfl, below_trans hb2 hb5⟩
        · rw [hk3]
          clear hk3
          have cf : V1.cell? ⟨g, 13, none⟩ = some (.int .i64 1) := own1.at_.cells (k := 2) (j := 3) (by omega) rfl
          have ff : V1.frozen? ⟨g, 13, none⟩ = false := own1.frozen _
          have own2 := own1.stored (k := 2) (j := 3) (by omega) (by omega) (.int .i64 2)
          have hc2 : CompsAt (V1.setCell ⟨g, 13, none⟩ (.int .i64 2)) (V1.setCell ⟨g, 13, none⟩ (.int .i64 2)).heap.size (some ⟨g, 0, none⟩) 4 (fun i => if i = 2 then (⟨8, false, 1, 2, none, 0, 0⟩ : CompD) else comp8) := comps_of_cells (own2.at_.congr (fun i _ => by (try dsimp only); split <;> rfl))
          have hb2 : Below w.heap.size w (V1.setCell ⟨g, 13, none⟩ (.int .i64 2)) := hb1.setCell (p := ⟨g, 13, none⟩) hgb _
          have mm : ∀ i, (V1.setCell ⟨g, 13, none⟩ (.int .i64 2)).cell? ⟨q, i, none⟩ = V1.cell? ⟨q, i, none⟩ := fun i => World.cell?_of_block (Below.heap_setCell _ _ _ _ (fun h => hgq h.symm))
          have pp : ∀ i, (V1.setCell ⟨g, 13, none⟩ (.int .i64 2)).cell? ⟨q + 1, i, none⟩ = V1.cell? ⟨q + 1, i, none⟩ := fun i => World.cell?_of_block (Below.heap_setCell _ _ _ _ (fun h => hgp h.symm))
          have mm0 := (mm 0).trans m0
          have mm1 := (mm 1).trans m1
          have mm2 := (mm 2).trans m2
          have mm3 := (mm 3).trans m3
          have mm4 := (mm 4).trans m4
          have pp0 := (pp 0).trans p0
          have pp1 := (pp 1).trans p1
          have pp2 := (pp 2).trans p2
          have pp3 := (pp 3).trans p3
          have pp4 := (pp 4).trans p4
          have pp5 := (pp 5).trans p5
          have pp6 := (pp 6).trans p6
          have pp7 := (pp 7).trans p7
          have pp8 := (pp 8).trans p8
          have pp9 := (pp 9).trans p9
          have pp10 := (pp 10).trans p10
          have pp11 := (pp 11).trans p11
          clear mm pp own2
          have FR := frame_any 8 8 0 0 _ 4 cx (fun i => if i = 2 then (⟨8, false, 1, 2, none, 0, 0⟩ : CompD) else comp8) 64 64 2 4 4 15 0 0 1 true false false _ hc2 own1.cap.1
          have fe : frameE 8 8 0 0 4 (fun i => if i = 2 then (⟨8, false, 1, 2, none, 0, 0⟩ : CompD) else comp8) 64 64 2 4 4 15 0 0 1 true = 3 := by decide
          rw [fe] at FR
          unfold imgV parV at FR
          have FR := Lib.hid FR
          clear fe hc2 own1 gm1 gp1
          go_wp2_with fail
          refine FR.out.mono ?_
          rintro e w5 ⟨rfl, hb5⟩
          go_wp2_with fail
          go_ret
          exact ⟨rfl, below_trans hb2 hb5⟩
        · rw [hk3]
          clear hk3
          have hc2 : CompsAt V1 V1.heap.size (some ⟨g, 0, none⟩) 4 (fun _ => comp8) := comps_of_cells own1.at_
          have hb2 := hb1
          have FR := frame_any 8 8 0 0 _ 4 cx (fun _ => comp8) 64 64 2 4 4 15 0 0 1 true false false _ hc2 own1.cap.1
          have fe : frameE 8 8 0 0 4 (fun _ => comp8) 64 64 2 4 4 15 0 0 1 true = 0 := by decide
          rw [fe] at FR
          unfold imgV parV at FR
          have FR := Lib.hid FR
          clear fe hc2 own1 gm1 gp1
          go_wp2_with fail
          refine FR.out.mono ?_
          rintro e w5 ⟨rfl, hb5⟩
          go_wp2_with fail
          go_ret
          exact ⟨rfl, below_trans hb2 hb5⟩
      · rw [hk2]
        clear hk2
        go_wp2_with fail
        refine (W2.out _).mono ?_
        rintro e w7 ⟨rfl, rfl⟩
        clear W2
        rcases K.out with hk3 | hk3 | hk3 | hk3 | hk3
        · rw [hk3]
          clear hk3
          have cf : V1.cell? ⟨g, 15, none⟩ = some (.int .i64 8) := own1.at_.cells (k := 3) (j := 0) (by omega) rfl
          have ff : V1.frozen? ⟨g, 15, none⟩ = false := own1.frozen _
          have own2 := own1.stored (k := 3) (j := 0) (by omega) (by omega) (.int .i64 9)
          have hc2 : CompsAt (V1.setCell ⟨g, 15, none⟩ (.int .i64 9)) (V1.setCell ⟨g, 15, none⟩ (.int .i64 9)).heap.size (some ⟨g, 0, none⟩) 4 (fun i => if i = 3 then (⟨9, false, 1, 1, none, 0, 0⟩ : CompD) else comp8) := comps_of_cells (own2.at_.congr (fun i _ => by (try dsimp only); split <;> rfl))
          have hb2 : Below w.heap.size w (V1.setCell ⟨g, 15, none⟩ (.int .i64 9)) := hb1.setCell (p := ⟨g, 15, none⟩) hgb _
          have mm : ∀ i, (V1.setCell ⟨g, 15, none⟩ (.int .i64 9)).cell? ⟨q, i, none⟩ = V1.cell? ⟨q, i, none⟩ := fun i => World.cell?_of_block (Below.heap_setCell _ _ _ _ (fun h => hgq h.symm))
          have pp : ∀ i, (V1.setCell ⟨g, 15, none⟩ (.int .i64 9)).cell? ⟨q + 1, i, none⟩ = V1.cell? ⟨q + 1, i, none⟩ := fun i => World.cell?_of_block (Below.heap_setCell _ _ _ _ (fun h => hgp h.symm))
          have mm0 := (mm 0).trans m0
          have mm1 := (mm 1).trans m1
          have mm2 := (mm 2).trans m2
          have mm3 := (mm 3).trans m3
          have mm4 := (mm 4).trans m4
          have pp0 := (pp 0).trans p0
          have pp1 := (pp 1).trans p1
          have pp2 := (pp 2).trans p2
          have pp3 := (pp 3).trans p3
          have pp4 := (pp 4).trans p4
          have pp5 := (pp 5).trans p5
          have pp6 := (pp 6).trans p6
          have pp7 := (pp 7).trans p7
          have pp8 := (pp 8).trans p8
          have pp9 := (pp 9).trans p9
          have pp10 := (pp 10).trans p10
          have pp11 := (pp 11).trans p11
          clear mm pp own2
          have FR := frame_any 8 8 0 0 _ 4 cx (fun i => if i = 3 then (⟨9, false, 1, 1, none, 0, 0⟩ : CompD) else comp8) 64 64 2 4 4 15 0 0 1 true false false _ hc2 own1.cap.1
          have fe : frameE 8 8 0 0 4 (fun i => if i = 3 then (⟨9, false, 1, 1, none, 0, 0⟩ : CompD) else comp8) 64 64 2 4 4 15 0 0 1 true = 0 := by decide
          rw [fe] at FR
          unfold imgV parV at FR
          have FR := Lib.hid FR
          clear fe hc2 own1 gm1 gp1
          go_wp2_with fail
          refine FR.out.mono ?_
          rintro e w5 ⟨rfl, hb5⟩
          go_wp2_with fail
          go_ret
          exact ⟨rfl, below_trans hb2 hb5⟩
        · rw [hk3]
          clear hk3
          have cf : V1.cell? ⟨g, 16, none⟩ = some (.bool false) := own1.at_.cells (k := 3) (j := 1) (by omega) rfl
          have ff : V1.frozen? ⟨g, 16, none⟩ = false := own1.frozen _
          have own2 := own1.stored (k := 3) (j := 1) (by omega) (by omega) (.bool true)
          have hc2 : CompsAt (V1.setCell ⟨g, 16, none⟩ (.bool true)) (V1.setCell ⟨g, 16, none⟩ (.bool true)).heap.size (some ⟨g, 0, none⟩) 4 (fun i => if i = 3 then (⟨8, true, 1, 1, none, 0, 0⟩ : CompD) else comp8) := comps_of_cells (own2.at_.congr (fun i _ => by (try dsimp only); split <;> rfl))
          have hb2 : Below w.heap.size w (V1.setCell ⟨g, 16, none⟩ (.bool true)) := hb1.setCell (p := ⟨g, 16, none⟩) hgb _
          have mm : ∀ i, (V1.setCell ⟨g, 16, none⟩ (.bool true)).cell? ⟨q, i, none⟩ = V1.cell? ⟨q, i, none⟩ := fun i => World.cell?_of_block (Below.heap_setCell _ _ _ _ (fun h => hgq h.symm))
          have pp : ∀ i, (V1.setCell ⟨g, 16, none⟩ (.bool true)).cell? ⟨q + 1, i, none⟩ = V1.cell? ⟨q + 1, i, none⟩ := fun i => World.cell?_of_block (Below.heap_setCell _ _ _ _ (fun h => hgp h.symm))
          have mm0 := (mm 0).trans m0
          have mm1 := (mm 1).trans m1
          have mm2 := (mm 2).trans m2
          have mm3 := (mm 3).trans m3
          have mm4 := (mm 4).trans m4
          have pp0 := (pp 0).trans p0
          have pp1 := (pp 1).trans p1
          have pp2 := (pp 2).trans p2
          have pp3 := (pp 3).trans p3
          have pp4 := (pp 4).trans p4
          have pp5 := (pp 5).trans p5
          have pp6 := (pp 6).trans p6
          have pp7 := (pp 7).trans p7
          have pp8 := (pp 8).trans p8
          have pp9 := (pp 9).trans p9
          have pp10 := (pp 10).trans p10
          have pp11 := (pp 11).trans p11
          clear mm pp own2
          have FR := frame_any 8 8 0 0 _ 4 cx (fun i => if i = 3 then (⟨8, true, 1, 1, none, 0, 0⟩ : CompD) else comp8) 64 64 2 4 4 15 0 0 1 true false false _ hc2 own1.cap.1
          have fe : frameE 8 8 0 0 4 (fun i => if i = 3 then (⟨8, true, 1, 1, none, 0, 0⟩ : CompD) else comp8) 64 64 2 4 4 15 0 0 1 true = 0 := by decide
          rw [fe] at FR
          unfold imgV parV at FR
          have FR := Lib.hid FR
          clear fe hc2 own1 gm1 gp1
          go_wp2_with fail
          refine FR.out.mono ?_
          rintro e w5 ⟨rfl, hb5⟩
          go_wp2_with fail
          go_ret
          exact ⟨rfl, below_trans hb2 hb5⟩
        · rw [hk3]
          clear hk3
          have cf : V1.cell? ⟨g, 17, none⟩ = some (.int .i64 1) := own1.at_.cells (k := 3) (j := 2) (by omega) rfl
          have ff : V1.frozen? ⟨g, 17, none⟩ = false := own1.frozen _
          have own2 := own1.stored (k := 3) (j := 2) (by omega) (by omega) (.int .i64 2)
          have hc2 : CompsAt (V1.setCell ⟨g, 17, none⟩ (.int .i64 2)) (V1.setCell ⟨g, 17, none⟩ (.int .i64 2)).heap.size (some ⟨g, 0, none⟩) 4 (fun i => if i = 3 then (⟨8, false, 2, 1, none, 0, 0⟩ : CompD) else comp8) := comps_of_cells (own2.at_.congr (fun i _ => by (try dsimp only); split <;> rfl))
          have hb2 : Below w.heap.size w (V1.setCell ⟨g, 17, none⟩ (.int .i64 2)) := hb1.setCell (p := ⟨g, 17, none⟩) hgb _
          have mm : ∀ i, (V1.setCell ⟨g, 17, none⟩ (.int .i64 2)).cell? ⟨q, i, none⟩ = V1.cell? ⟨q, i, none⟩ := fun i => World.cell?_of_block (Below.heap_setCell _ _ _ _ (fun h => hgq h.symm))
          have pp : ∀ i, (V1.setCell ⟨g, 17, none⟩ (.int .i64 2)).cell? ⟨q + 1, i, none⟩ = V1.cell? ⟨q + 1, i, none⟩ := fun i => World.cell?_of_block (Below.heap_setCell _ _ _ _ (fun h => hgp h.symm))
          have mm0 := (mm 0).trans m0
          have mm1 := (mm 1).trans m1
          have mm2 := (mm 2).trans m2
          have mm3 := (mm 3).trans m3
          have mm4 := (mm 4).trans m4
          have pp0 := (pp 0).trans p0
          have pp1 := (pp 1).trans p1
          have pp2 := (pp 2).trans p2
          have pp3 := (pp 3).trans p3
          have pp4 := (pp 4).trans p4
          have pp5 := (pp 5).trans p5
          have pp6 := (pp 6).trans p6
          have pp7 := (pp 7).trans p7
          have pp8 := (pp 8).trans p8
          have pp9 := (pp 9).trans p9
          have pp10 := (pp 10).trans p10
          have pp11 := (pp 11).trans p11
          clear mm pp own2
          have FR := frame_any 8 8 0 0 _ 4 cx (fun i => if i = 3 then (⟨8, false, 2, 1, none, 0, 0⟩ : CompD) else comp8) 64 64 2 4 4 15 0 0 1 true false false _ hc2 own1.cap.1
          have fe : frameE 8 8 0 0 4 (fun i => if i = 3 then (⟨8, false, 2, 1, none, 0, 0⟩ : CompD) else comp8) 64 64 2 4 4 15 0 0 1 true = 0 := by decide
          rw [fe] at FR
          unfold imgV parV at FR
          have FR := Lib.hid FR
          clear fe hc2 own1 gm1 gp1
          go_wp2_with fail
          refine FR.out.mono ?_
          rintro e w5 ⟨rfl, hb5⟩
          go_wp2_with fail
          go_ret
          exact ⟨rfl, below_trans hb2 hb5⟩
        · rw [hk3]
          clear hk3
          have cf : V1.cell? ⟨g, 18, none⟩ = some (.int .i64 1) := own1.at_.cells (k := 3) (j := 3) (by omega) rfl
          have ff : V1.frozen? ⟨g, 18, none⟩ = false := own1.frozen _
          have own2 := own1.stored (k := 3) (j := 3) (by omega) (by omega) (.int .i64 2)
          have hc2 : CompsAt (V1.setCell ⟨g, 18, none⟩ (.int .i64 2)) (V1.setCell ⟨g, 18, none⟩ (.int .i64 2)).heap.size (some ⟨g, 0, none⟩) 4 (fun i => if i = 3 then (⟨8, false, 1, 2, none, 0, 0⟩ : CompD) else comp8) := comps_of_cells (own2.at_.congr (fun i _ => by (try dsimp only); split <;> rfl))
          have hb2 : Below w.heap.size w (V1.setCell ⟨g, 18, none⟩ (.int .i64 2)) := hb1.setCell (p := ⟨g, 18, none⟩) hgb _
          have mm : ∀ i, (V1.setCell ⟨g, 18, none⟩ (.int .i64 2)).cell? ⟨q, i, none⟩ = V1.cell? ⟨q, i, none⟩ := fun i => World.cell?_of_block (Below.heap_setCell _ _ _ _ (fun h => hgq h.symm))
          have pp : ∀ i, (V1.setCell ⟨g, 18, none⟩ (.int .i64 2)).cell? ⟨q + 1, i, none⟩ = V1.cell? ⟨q + 1, i, none⟩ := fun i => World.cell?_of_block (Below.heap_setCell _ _ _ _ (fun h => hgp h.symm))
          have mm0 := (mm 0).trans m0
          have mm1 := (mm 1).trans m1
          have mm2 := (mm 2).trans m2
          have mm3 := (mm 3).trans m3
          have mm4 := (mm 4).trans m4
          have pp0 := (pp 0).trans p0
          have pp1 := (pp 1).trans p1
          have pp2 := (pp 2).trans p2
          have pp3 := (pp 3).trans p3
          have pp4 := (pp 4).trans p4
          have pp5 := (pp 5).trans p5
          have pp6 := (pp 6).trans p6
          have pp7 := (pp 7).trans p7
          have pp8 := (pp 8).trans p8
          have pp9 := (pp 9).trans p9
          have pp10 := (pp 10).trans p10
          have pp11 := (pp 11).trans p11
          clear mm pp own2
          have FR := frame_any 8 8 0 0 _ 4 cx (fun i => if i = 3 then (⟨8, false, 1, 2, none, 0, 0⟩ : CompD) else comp8) 64 64 2 4 4 15 0 0 1 true false false _ hc2 own1.cap.1
          have fe : frameE 8 8 0 0 4 (fun i => if i = 3 then (⟨8, false, 1, 2, none, 0, 0⟩ : CompD) else comp8) 64 64 2 4 4 15 0 0 1 true = 0 := by decide
          rw [fe] at FR
          unfold imgV parV at FR
          have FR := Lib.hid FR
          clear fe hc2 own1 gm1 gp1
          go_wp2_with fail
          refine FR.out.mono ?_
          rintro e w5 ⟨rfl, hb5⟩
          go_wp2_with fail
          go_ret
          exact ⟨rfl, below_trans hb2 hb5⟩
        · rw [hk3]
          clear hk3
          have hc2 : CompsAt V1 V1.heap.size (some ⟨g, 0, none⟩) 4 (fun _ => comp8) := comps_of_cells own1.at_
          have hb2 := hb1
          have FR := frame_any 8 8 0 0 _ 4 cx (fun _ => comp8) 64 64 2 4 4 15 0 0 1 true false false _ hc2 own1.cap.1
          have fe : frameE 8 8 0 0 4 (fun _ => comp8) 64 64 2 4 4 15 0 0 1 true = 0 := by decide
          rw [fe] at FR
          unfold imgV parV at FR
          have FR := Lib.hid FR
          clear fe hc2 own1 gm1 gp1
          go_wp2_with fail
          refine FR.out.mono ?_
          rintro e w5 ⟨rfl, hb5⟩
          go_wp2_with fail
          go_ret
          exact ⟨rfl, below_trans hb2 hb5⟩
theorem turn_any (comps at_ which : Int) (w : World) : Calls Try.prog 4 #[.int .i64 comps, .int .i64 at_, .int .i64 which] w fun e w' => e = .returned (.bool true) ∧ Below w.heap.size w w' := by
  have h : comps % 4 = 0 ∨ comps % 4 = 1 ∨ comps % 4 = 2 ∨ comps % 4 = 3 := by omega
  rcases h with h | h | h | h
  · exact turn_1 comps at_ which h (by omega) w
  · exact turn_2 comps at_ which h (by omega) w
  · exact turn_3 comps at_ which h (by omega) w
  · exact turn_4 comps at_ which h (by omega) w
end Go.Proofs.Ytmieoifagnpbiaa
