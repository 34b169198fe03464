/- THE WALK OF CanvasRows: four components and five; all cases. -/
import Derived.Test.YtmieoifagnpbiaaCanRows
import Derived.Test.YtmieoifagnpbiaaHeld
import Derived.Deep.LoopGhost
namespace Go.Proofs.Ytmieoifagnpbiaa
open Go.RowKit
set_option maxHeartbeats 4000000
set_option linter.unusedVariables false
set_option linter.unusedSimpArgs false
set_option maxRecDepth 100000
theorem rows_15_t (which : Int) (hk : which % 16 = 15) (w : World) : Calls Try.prog 3 #[.int .i64 which, .bool true] w fun e w' => e = .returned (.bool true) ∧ Below w.heap.size w w' := by
  have W0 := Lib.hid (fun (v : World) => by have := within12 which 16 (by omega) (by omega) v; rw [hk] at this; exact this)
  go_enter Try.func3, Try.ntmps3
  go_wp2_with fail
  refine (known12 _).mono ?_
  rintro e w1 ⟨rfl, hb1⟩
  go_wp2_with fail
  refine (one_any 20 20 3 3 _).mono ?_
  rintro e w2 ⟨b, rfl, gb, hbb, hb2⟩
  unfold parV
  have hbl := below_trans hb1 hb2
  have hlt : b < w2.heap.size := (Array.getElem?_eq_some_iff.1 gb).1
  have hws := hbl.size
  have hwb := Nat.le_trans hb1.size hbb
  clear hb1 hb2 hbb
  go_wp2_with fail
  generalize hw3 : World.alloc (World.alloc w2 _) _ = W3
  have gb3 : W3.heap[b]? = some (.cells #[.int .i64 8, .bool false, .int .i64 1, .int .i64 1, .slice none 0 0] 34 (0, 0)) := by rw [← hw3]; exact (Below.heap_alloc _ _ _ (by simp; omega)).trans ((Below.heap_alloc _ _ _ (by omega)).trans gb)
  have gm3 : W3.heap[w2.heap.size]? = some (.cells #[.int .i64 20, .int .i64 20, .int .i64 3, .int .i64 3, .slice (some ⟨b, 0, none⟩) 1 1] 25 (0, 0)) := by rw [← hw3]; exact (Below.heap_alloc _ _ _ (by simp)).trans (heap_alloc_new w2 _)
  have gp3 : W3.heap[w2.heap.size + 1]? = some (.cells #[.int .i64 64, .int .i64 64, .int .i64 2, .int .i64 4, .int .i64 4, .int .i64 15, .int .i64 0, .int .i64 0, .int .i64 1, .bool false, .bool false, .bool false] 27 (0, 0)) := by rw [← hw3]; exact heap_alloc_new2 w2 _ _
  have m0 : W3.cell? ⟨w2.heap.size, 0, none⟩ = some (.int .i64 20) := by rw [← hw3]; simp [go_sem]
  have m1 : W3.cell? ⟨w2.heap.size, 1, none⟩ = some (.int .i64 20) := by rw [← hw3]; simp [go_sem]
  have m2 : W3.cell? ⟨w2.heap.size, 2, none⟩ = some (.int .i64 3) := by rw [← hw3]; simp [go_sem]
  have m3 : W3.cell? ⟨w2.heap.size, 3, none⟩ = some (.int .i64 3) := by rw [← hw3]; simp [go_sem]
  have m4 : W3.cell? ⟨w2.heap.size, 4, none⟩ = some (.slice (some ⟨b, 0, none⟩) 1 1) := by rw [← hw3]; simp [go_sem]
  have p0 : W3.cell? ⟨w2.heap.size + 1, 0, none⟩ = some (.int .i64 64) := by rw [← hw3]; simp [go_sem]
  have p1 : W3.cell? ⟨w2.heap.size + 1, 1, none⟩ = some (.int .i64 64) := by rw [← hw3]; simp [go_sem]
  have p2 : W3.cell? ⟨w2.heap.size + 1, 2, none⟩ = some (.int .i64 2) := by rw [← hw3]; simp [go_sem]
  have p3 : W3.cell? ⟨w2.heap.size + 1, 3, none⟩ = some (.int .i64 4) := by rw [← hw3]; simp [go_sem]
  have p4 : W3.cell? ⟨w2.heap.size + 1, 4, none⟩ = some (.int .i64 4) := by rw [← hw3]; simp [go_sem]
  have p5 : W3.cell? ⟨w2.heap.size + 1, 5, none⟩ = some (.int .i64 15) := by rw [← hw3]; simp [go_sem]
  have p6 : W3.cell? ⟨w2.heap.size + 1, 6, none⟩ = some (.int .i64 0) := by rw [← hw3]; simp [go_sem]
  have p7 : W3.cell? ⟨w2.heap.size + 1, 7, none⟩ = some (.int .i64 0) := by rw [← hw3]; simp [go_sem]
  have p8 : W3.cell? ⟨w2.heap.size + 1, 8, none⟩ = some (.int .i64 1) := by rw [← hw3]; simp [go_sem]
  have p9 : W3.cell? ⟨w2.heap.size + 1, 9, none⟩ = some (.bool false) := by rw [← hw3]; simp [go_sem]
  have p10 : W3.cell? ⟨w2.heap.size + 1, 10, none⟩ = some (.bool false) := by rw [← hw3]; simp [go_sem]
  have p11 : W3.cell? ⟨w2.heap.size + 1, 11, none⟩ = some (.bool false) := by rw [← hw3]; simp [go_sem]
  have fm : ∀ j, W3.frozen? ⟨w2.heap.size, j, none⟩ = false := fun j => by rw [← hw3]; exact (World.frozen?_of_block (a := ⟨w2.heap.size, j, none⟩) (Below.heap_alloc _ _ _ (by simp))).trans (frozen_of_row _ _ j _ _ (heap_alloc_new w2 _))
  have fp : ∀ j, W3.frozen? ⟨w2.heap.size + 1, j, none⟩ = false := fun j => by rw [← hw3]; exact frozen_of_row _ _ j _ _ (heap_alloc_new2 w2 _ _)
  have c0 : W3.cell? ⟨b, 0, none⟩ = some (.int .i64 8) := (cell_of_row _ _ _ _ _ (0, 0) gb3).trans rfl
  have c1 : W3.cell? ⟨b, 1, none⟩ = some (.bool false) := (cell_of_row _ _ _ _ _ (0, 0) gb3).trans rfl
  have c2 : W3.cell? ⟨b, 2, none⟩ = some (.int .i64 1) := (cell_of_row _ _ _ _ _ (0, 0) gb3).trans rfl
  have c3 : W3.cell? ⟨b, 3, none⟩ = some (.int .i64 1) := (cell_of_row _ _ _ _ _ (0, 0) gb3).trans rfl
  have c4 : W3.cell? ⟨b, 4, none⟩ = some (.slice none 0 0) := (cell_of_row _ _ _ _ _ (0, 0) gb3).trans rfl
  have fb : ∀ j, W3.frozen? ⟨b, j, none⟩ = false := fun j => frozen_of_row _ _ j _ _ gb3
  have hs3 : W3.heap.size = w2.heap.size + 2 := by rw [← hw3]; simp
  have hbl3 : Below w.heap.size w W3 := by rw [← hw3]; exact below_alloc (below_alloc hbl _) _
  clear hw3 gb hbl
  refine (W0.out _).mono ?_
  rintro e w4 ⟨rfl, rfl⟩
  clear W0
  have o0 : OwnC W3 w.heap.size 34 5 (.slice (some ⟨b, 0, none⟩) 1 1) 1 (fun _ => compL comp8) := OwnC.of_block gb3 hwb (fun _ => rfl) (by unfold maxLen; omega) rfl
  clear gb3 c0 c1 c2 c3 c4 fb m0 m1 m2 m3 p0 p1 p2 p3 p4 p5 p6 p7 p8 p9 p10 p11 fm fp
  obtain ⟨q, hq⟩ : ∃ q, w2.heap.size = q := ⟨_, rfl⟩
  rw [hq] at gm3 gp3 hs3 hws m4
  rw [hq]
  clear hq hlt hwb
  go_wp2_with fail
  clear m4
  go_loopg [] 4 (fun k wr => ∃ (j : Nat) (X : Option Addr) (cx : Nat), 1 ≤ j ∧ j ≤ 5 ∧ k + j = 5 ∧ wr.heap[q]? = some (.cells #[.int .i64 20, .int .i64 20, .int .i64 3, .int .i64 3, .slice X j cx] 25 (0, 0)) ∧ wr.heap[q + 1]? = some (.cells #[.int .i64 64, .int .i64 64, .int .i64 2, .int .i64 4, .int .i64 4, .int .i64 15, .int .i64 0, .int .i64 0, .int .i64 1, .bool false, .bool false, .bool false] 27 (0, 0)) ∧ OwnC wr w.heap.size 34 5 (.slice X j cx) j (fun _ => compL comp8) ∧ Below w.heap.size w wr)
  case atStart => exact ⟨1, _, 1, by omega, by omega, rfl, gm3, gp3, o0, hbl3⟩
  case round =>
    obtain ⟨j, X, cx, h1, h2, hkj, gm, gp, own, hbel⟩ := hrel
    have m := fun i => cell_of_row _ _ i _ _ (0, 0) gm
    have m4 : wr.cell? ⟨q, 4, none⟩ = some (.slice X j cx) := m 4
    have hqp := (Array.getElem?_eq_some_iff.1 gp).1
    have hqs := (Array.getElem?_eq_some_iff.1 gm).1
    by_cases hlt : j < 5
    · obtain ⟨A0, cc0, e, hjc, _, hat, _⟩ := own.form
      injection e with e1 _ e2
      subst e1 e2
      obtain ⟨g, off, rfl, hgl, hc⟩ := hat.at_ (k := 0) (by omega)
      rw [Nat.zero_mul, Nat.add_zero] at hc
      have k0 : wr.cell? ⟨g, off + 0, none⟩ = some (.int .i64 8) := hc 0 _ rfl
      have k1 : wr.cell? ⟨g, off + 1, none⟩ = some (.bool false) := hc 1 _ rfl
      have k2 : wr.cell? ⟨g, off + 2, none⟩ = some (.int .i64 1) := hc 2 _ rfl
      have k3 : wr.cell? ⟨g, off + 3, none⟩ = some (.int .i64 1) := hc 3 _ rfl
      have k4 : wr.cell? ⟨g, off + 4, none⟩ = some (.slice none 0 0) := hc 4 _ rfl
      rw [Nat.add_zero] at k0
      have l0 : (0 : Int) < j := by omega
      clear hc m hat
      go_wp2_with fail
      refine held_region (by kernel_rfl) (fun _ => True) (fun _ _ h => h) (fun hS => ?_) trivial
      have bV : Below wr.heap.size wr wr.drew := (Below.refl _ _).drew
      generalize wr.drew = V0 at *
      refine wpAnyH_take (i := 0) (v := .pointer (some ⟨q, 4, none⟩)) rfl (by kernel_rfl) (by kernel_rfl) (by kernel_rfl) (fun _ _ _ h => h) (Or.inl ⟨by rfl, ?_⟩) hS ?_
      · intro U hU
        go_simp
      simp only [Act.put, List.setIfInBounds_toArray, List.set_cons_zero, List.set_cons_succ]
      refine wpAnyH_take (i := 2) (v := .pointer (some ⟨q, 4, none⟩)) rfl (by kernel_rfl) (by kernel_rfl) (by kernel_rfl) (fun _ _ _ h => h) (Or.inl ⟨by rfl, ?_⟩) hS ?_
      · intro U hU
        go_simp
      simp only [Act.put, List.setIfInBounds_toArray, List.set_cons_zero, List.set_cons_succ]
      refine wpAnyH_ready (rs := [1, 3]) (by kernel_rfl) (by simp) ?_
      refine AllReadyH.cons (by simp only [List.getElem?_toArray, List.getElem?_cons_succ, List.getElem?_cons_zero]; rfl) (fun K' hK' => ?_) (AllReadyH.cons (by simp only [List.getElem?_toArray, List.getElem?_cons_succ, List.getElem?_cons_zero]; rfl) (fun K' hK' => ?_) AllReadyH.nil)
      · have xm := (bV.cell (p := ⟨q, 4, none⟩) hqs).trans m4
        go_simp
        refine hK'.out _ _ trivial (fun _ => ?_)
        clear xm
        clear hK' K'
        try simp only [Act.put, List.setIfInBounds_toArray, List.set_cons_zero, List.set_cons_succ]
        refine wpAnyH_ready (rs := [3]) (by kernel_rfl) (by simp) ?_
        refine AllReadyH.cons (by simp only [List.getElem?_toArray, List.getElem?_cons_succ, List.getElem?_cons_zero]; rfl) (fun K' hK' => ?_) AllReadyH.nil
        have xm := (bV.cell (p := ⟨q, 4, none⟩) hqs).trans m4
        go_simp
        refine hK'.out _ _ trivial (fun _ => ?_)
        clear xm
        clear hK' K'
        try simp only [Act.put, List.setIfInBounds_toArray, List.set_cons_zero, List.set_cons_succ]
        refine wpAnyH_take (i := 4) (v := .pointer (some ⟨g, off, none⟩)) rfl (by kernel_rfl) (by kernel_rfl) (by kernel_rfl) (fun _ _ _ h => h) (Or.inl ⟨by rfl, ?_⟩) hS ?_
        · intro U hU
          go_simp
          intro h
          exact absurd h (by omega)
        simp only [Act.put, List.setIfInBounds_toArray, List.set_cons_zero, List.set_cons_succ]
        refine wpAnyH_ready (rs := [5]) (by kernel_rfl) (by simp) ?_
        refine AllReadyH.cons (by simp only [List.getElem?_toArray, List.getElem?_cons_succ, List.getElem?_cons_zero]; rfl) (fun K' hK' => ?_) AllReadyH.nil
        have x0 := (bV.cell (p := ⟨g, off, none⟩) hgl).trans k0
        have x1 := (bV.cell (p := ⟨g, off + 1, none⟩) hgl).trans k1
        have x2 := (bV.cell (p := ⟨g, off + 2, none⟩) hgl).trans k2
        have x3 := (bV.cell (p := ⟨g, off + 3, none⟩) hgl).trans k3
        have x4 := (bV.cell (p := ⟨g, off + 4, none⟩) hgl).trans k4
        go_simp
        refine hK'.out _ _ trivial (fun _ => ?_)
        clear x0 x1 x2 x3 x4
        clear hK' K'
        try simp only [Act.put, List.setIfInBounds_toArray, List.set_cons_zero, List.set_cons_succ]
        refine wpAnyH_ready (rs := [6]) (by kernel_rfl) (by simp) ?_
        refine AllReadyH.cons (by simp only [List.getElem?_toArray, List.getElem?_cons_succ, List.getElem?_cons_zero]; rfl) (fun K' hK' => ?_) AllReadyH.nil
        go_simp
        have bu3 := below_alloc bV (.cells #[.int .i64 8, .bool false, .int .i64 1, .int .i64 1, .slice none 0 0] 34)
        refine hK'.out _ _ trivial (fun _ => ?_)
        obtain ⟨h0, hh0⟩ : ∃ h0, V0.heap.size = h0 := ⟨_, rfl⟩
        try rw [hh0]
        have hcel : ∀ (i : Nat) (u : Value), (compL comp8)[i]? = some u → (V0.alloc (.cells #[.int .i64 8, .bool false, .int .i64 1, .int .i64 1, .slice none 0 0] 34)).cell? ⟨h0, i, none⟩ = some u := fun i u hi => by
          rw [← hh0, cell_of_row _ _ _ _ _ (0, 0) (heap_alloc_new V0 _)]
          rw [← hi, List.getElem?_toArray]; rfl
        generalize V0.alloc (.cells #[.int .i64 8, .bool false, .int .i64 1, .int .i64 1, .slice none 0 0] 34) = U3 at *
        clear hh0
        clear hK' K'
        try simp only [Act.put, List.setIfInBounds_toArray, List.set_cons_zero, List.set_cons_succ]
        refine wpAnyH_ready (rs := [7]) (by kernel_rfl) (by simp) ?_
        refine AllReadyH.cons (by simp only [List.getElem?_toArray, List.getElem?_cons_succ, List.getElem?_cons_zero]; rfl) (fun K' hK' => ?_) AllReadyH.nil
        refine step_appC wr bu3 (others_of_below bu3) (by rfl) _ _ 23 (by rfl) 34 5 comp_elem w.heap.size _ j _ _ (by rfl) own h0 (by rfl) hcel (fun u hu => by simp [compL, comp8] at hu; rcases hu with rfl | rfl | rfl | rfl | rfl <;> rfl) (by omega) hbel.size ?_
        intro g1 cap U4 og sg hg
        refine hK'.out _ _ trivial (fun _ => ?_)
        clear hcel
        clear hK' K'
        try simp only [Act.put, List.setIfInBounds_toArray, List.set_cons_zero, List.set_cons_succ]
        refine wpAnyH_take (i := 8) (v := .pointer (some ⟨q, 4, none⟩)) rfl (by kernel_rfl) (by kernel_rfl) (by kernel_rfl) (fun _ _ _ h => h) (Or.inl ⟨by rfl, ?_⟩) hS ?_
        · intro U hU
          go_simp
        simp only [Act.put, List.setIfInBounds_toArray, List.set_cons_zero, List.set_cons_succ]
        refine wpAnyH_ready (rs := [9]) (by kernel_rfl) (by simp) ?_
        refine AllReadyH.cons (by simp only [List.getElem?_toArray, List.getElem?_cons_succ, List.getElem?_cons_zero]; rfl) (fun K' hK' => ?_) AllReadyH.nil
        have xm := (sg.cells ⟨q, 4, none⟩ hqs (own.ne_block gm (by decide))).trans m4
        have hq5 : U4.heap[q]? = some (.cells #[.int .i64 20, .int .i64 20, .int .i64 3, .int .i64 3, .slice (some ⟨g, off, none⟩) j cx] 25 (0, 0)) := (sg.blocks q hqs (own.ne_block gm (by decide))).trans gm
        have fm := frozen_of_row _ _ 4 _ _ hq5
        go_simp
        refine hK'.out _ _ trivial (fun _ => ?_)
        clear hK' K'
        try simp only [Act.put, List.setIfInBounds_toArray, List.set_cons_zero, List.set_cons_succ]
        refine wpAnyH_done (by kernel_rfl) ?_ _
        simp only [OnlyN]
        have gm6 := heap_set_same (j := 4) hq5 (.slice (some ⟨g1, 0, none⟩) (j + 1) cap)
        have gp6 := (Below.heap_setCell U4 ⟨q, 4, none⟩ (.slice (some ⟨g1, 0, none⟩) (j + 1) cap) (q + 1) (by simp only; omega)).trans ((sg.blocks (q + 1) hqp (own.ne_block gp (by decide))).trans gp)
        have og6 := og.other (a := ⟨q, 4, none⟩) (og.ne_block hq5 (by decide)) (.slice (some ⟨g1, 0, none⟩) (j + 1) cap)
        have hb6 := (hbel.trans sg.below).setCell (p := ⟨q, 4, none⟩) hws (.slice (some ⟨g1, 0, none⟩) (j + 1) cap)
        go_wp2_with fail
        go_roundg (gk - 1)
        case measure => omega
        case rel => exact ⟨j + 1, _, cap, by omega, by omega, by omega, gm6, gp6, og6, hb6⟩
      · have xm := (bV.cell (p := ⟨q, 4, none⟩) hqs).trans m4
        go_simp
        refine hK'.out _ _ trivial (fun _ => ?_)
        clear xm
        clear hK' K'
        try simp only [Act.put, List.setIfInBounds_toArray, List.set_cons_zero, List.set_cons_succ]
        refine wpAnyH_take (i := 4) (v := .pointer (some ⟨g, off, none⟩)) rfl (by kernel_rfl) (by kernel_rfl) (by kernel_rfl) (fun _ _ _ h => h) (Or.inl ⟨by rfl, ?_⟩) hS ?_
        · intro U hU
          go_simp
          intro h
          exact absurd h (by omega)
        simp only [Act.put, List.setIfInBounds_toArray, List.set_cons_zero, List.set_cons_succ]
        refine wpAnyH_ready (rs := [1, 5]) (by kernel_rfl) (by simp) ?_
        refine AllReadyH.cons (by simp only [List.getElem?_toArray, List.getElem?_cons_succ, List.getElem?_cons_zero]; rfl) (fun K' hK' => ?_) (AllReadyH.cons (by simp only [List.getElem?_toArray, List.getElem?_cons_succ, List.getElem?_cons_zero]; rfl) (fun K' hK' => ?_) AllReadyH.nil)
        · have xm := (bV.cell (p := ⟨q, 4, none⟩) hqs).trans m4
          go_simp
          refine hK'.out _ _ trivial (fun _ => ?_)
          clear xm
          clear hK' K'
          try simp only [Act.put, List.setIfInBounds_toArray, List.set_cons_zero, List.set_cons_succ]
          refine wpAnyH_ready (rs := [5]) (by kernel_rfl) (by simp) ?_
          refine AllReadyH.cons (by simp only [List.getElem?_toArray, List.getElem?_cons_succ, List.getElem?_cons_zero]; rfl) (fun K' hK' => ?_) AllReadyH.nil
          have x0 := (bV.cell (p := ⟨g, off, none⟩) hgl).trans k0
          have x1 := (bV.cell (p := ⟨g, off + 1, none⟩) hgl).trans k1
          have x2 := (bV.cell (p := ⟨g, off + 2, none⟩) hgl).trans k2
          have x3 := (bV.cell (p := ⟨g, off + 3, none⟩) hgl).trans k3
          have x4 := (bV.cell (p := ⟨g, off + 4, none⟩) hgl).trans k4
          go_simp
          refine hK'.out _ _ trivial (fun _ => ?_)
          clear x0 x1 x2 x3 x4
          clear hK' K'
          try simp only [Act.put, List.setIfInBounds_toArray, List.set_cons_zero, List.set_cons_succ]
          refine wpAnyH_ready (rs := [6]) (by kernel_rfl) (by simp) ?_
          refine AllReadyH.cons (by simp only [List.getElem?_toArray, List.getElem?_cons_succ, List.getElem?_cons_zero]; rfl) (fun K' hK' => ?_) AllReadyH.nil
          go_simp
          have bu9 := below_alloc bV (.cells #[.int .i64 8, .bool false, .int .i64 1, .int .i64 1, .slice none 0 0] 34)
          refine hK'.out _ _ trivial (fun _ => ?_)
          obtain ⟨h0, hh0⟩ : ∃ h0, V0.heap.size = h0 := ⟨_, rfl⟩
          try rw [hh0]
          have hcel : ∀ (i : Nat) (u : Value), (compL comp8)[i]? = some u → (V0.alloc (.cells #[.int .i64 8, .bool false, .int .i64 1, .int .i64 1, .slice none 0 0] 34)).cell? ⟨h0, i, none⟩ = some u := fun i u hi => by
            rw [← hh0, cell_of_row _ _ _ _ _ (0, 0) (heap_alloc_new V0 _)]
            rw [← hi, List.getElem?_toArray]; rfl
          generalize V0.alloc (.cells #[.int .i64 8, .bool false, .int .i64 1, .int .i64 1, .slice none 0 0] 34) = U9 at *
          clear hh0
          clear hK' K'
          try simp only [Act.put, List.setIfInBounds_toArray, List.set_cons_zero, List.set_cons_succ]
          refine wpAnyH_ready (rs := [7]) (by kernel_rfl) (by simp) ?_
          refine AllReadyH.cons (by simp only [List.getElem?_toArray, List.getElem?_cons_succ, List.getElem?_cons_zero]; rfl) (fun K' hK' => ?_) AllReadyH.nil
          refine step_appC wr bu9 (others_of_below bu9) (by rfl) _ _ 23 (by rfl) 34 5 comp_elem w.heap.size _ j _ _ (by rfl) own h0 (by rfl) hcel (fun u hu => by simp [compL, comp8] at hu; rcases hu with rfl | rfl | rfl | rfl | rfl <;> rfl) (by omega) hbel.size ?_
          intro g1 cap U10 og sg hg
          refine hK'.out _ _ trivial (fun _ => ?_)
          clear hcel
          clear hK' K'
          try simp only [Act.put, List.setIfInBounds_toArray, List.set_cons_zero, List.set_cons_succ]
          refine wpAnyH_take (i := 8) (v := .pointer (some ⟨q, 4, none⟩)) rfl (by kernel_rfl) (by kernel_rfl) (by kernel_rfl) (fun _ _ _ h => h) (Or.inl ⟨by rfl, ?_⟩) hS ?_
          · intro U hU
            go_simp
          simp only [Act.put, List.setIfInBounds_toArray, List.set_cons_zero, List.set_cons_succ]
          refine wpAnyH_ready (rs := [9]) (by kernel_rfl) (by simp) ?_
          refine AllReadyH.cons (by simp only [List.getElem?_toArray, List.getElem?_cons_succ, List.getElem?_cons_zero]; rfl) (fun K' hK' => ?_) AllReadyH.nil
          have xm := (sg.cells ⟨q, 4, none⟩ hqs (own.ne_block gm (by decide))).trans m4
          have hq5 : U10.heap[q]? = some (.cells #[.int .i64 20, .int .i64 20, .int .i64 3, .int .i64 3, .slice (some ⟨g, off, none⟩) j cx] 25 (0, 0)) := (sg.blocks q hqs (own.ne_block gm (by decide))).trans gm
          have fm := frozen_of_row _ _ 4 _ _ hq5
          go_simp
          refine hK'.out _ _ trivial (fun _ => ?_)
          clear hK' K'
          try simp only [Act.put, List.setIfInBounds_toArray, List.set_cons_zero, List.set_cons_succ]
          refine wpAnyH_done (by kernel_rfl) ?_ _
          simp only [OnlyN]
          have gm6 := heap_set_same (j := 4) hq5 (.slice (some ⟨g1, 0, none⟩) (j + 1) cap)
          have gp6 := (Below.heap_setCell U10 ⟨q, 4, none⟩ (.slice (some ⟨g1, 0, none⟩) (j + 1) cap) (q + 1) (by simp only; omega)).trans ((sg.blocks (q + 1) hqp (own.ne_block gp (by decide))).trans gp)
          have og6 := og.other (a := ⟨q, 4, none⟩) (og.ne_block hq5 (by decide)) (.slice (some ⟨g1, 0, none⟩) (j + 1) cap)
          have hb6 := (hbel.trans sg.below).setCell (p := ⟨q, 4, none⟩) hws (.slice (some ⟨g1, 0, none⟩) (j + 1) cap)
          go_wp2_with fail
          go_roundg (gk - 1)
          case measure => omega
          case rel => exact ⟨j + 1, _, cap, by omega, by omega, by omega, gm6, gp6, og6, hb6⟩
        · have x0 := (bV.cell (p := ⟨g, off, none⟩) hgl).trans k0
          have x1 := (bV.cell (p := ⟨g, off + 1, none⟩) hgl).trans k1
          have x2 := (bV.cell (p := ⟨g, off + 2, none⟩) hgl).trans k2
          have x3 := (bV.cell (p := ⟨g, off + 3, none⟩) hgl).trans k3
          have x4 := (bV.cell (p := ⟨g, off + 4, none⟩) hgl).trans k4
          go_simp
          refine hK'.out _ _ trivial (fun _ => ?_)
          clear x0 x1 x2 x3 x4
          clear hK' K'
          try simp only [Act.put, List.setIfInBounds_toArray, List.set_cons_zero, List.set_cons_succ]
          refine wpAnyH_ready (rs := [1, 6]) (by kernel_rfl) (by simp) ?_
          refine AllReadyH.cons (by simp only [List.getElem?_toArray, List.getElem?_cons_succ, List.getElem?_cons_zero]; rfl) (fun K' hK' => ?_) (AllReadyH.cons (by simp only [List.getElem?_toArray, List.getElem?_cons_succ, List.getElem?_cons_zero]; rfl) (fun K' hK' => ?_) AllReadyH.nil)
          · have xm := (bV.cell (p := ⟨q, 4, none⟩) hqs).trans m4
            go_simp
            refine hK'.out _ _ trivial (fun _ => ?_)
            clear xm
            clear hK' K'
            try simp only [Act.put, List.setIfInBounds_toArray, List.set_cons_zero, List.set_cons_succ]
            refine wpAnyH_ready (rs := [6]) (by kernel_rfl) (by simp) ?_
            refine AllReadyH.cons (by simp only [List.getElem?_toArray, List.getElem?_cons_succ, List.getElem?_cons_zero]; rfl) (fun K' hK' => ?_) AllReadyH.nil
            go_simp
            have bu14 := below_alloc bV (.cells #[.int .i64 8, .bool false, .int .i64 1, .int .i64 1, .slice none 0 0] 34)
            refine hK'.out _ _ trivial (fun _ => ?_)
            obtain ⟨h0, hh0⟩ : ∃ h0, V0.heap.size = h0 := ⟨_, rfl⟩
            try rw [hh0]
            have hcel : ∀ (i : Nat) (u : Value), (compL comp8)[i]? = some u → (V0.alloc (.cells #[.int .i64 8, .bool false, .int .i64 1, .int .i64 1, .slice none 0 0] 34)).cell? ⟨h0, i, none⟩ = some u := fun i u hi => by
              rw [← hh0, cell_of_row _ _ _ _ _ (0, 0) (heap_alloc_new V0 _)]
              rw [← hi, List.getElem?_toArray]; rfl
            generalize V0.alloc (.cells #[.int .i64 8, .bool false, .int .i64 1, .int .i64 1, .slice none 0 0] 34) = U14 at *
            clear hh0
            clear hK' K'
            try simp only [Act.put, List.setIfInBounds_toArray, List.set_cons_zero, List.set_cons_succ]
            refine wpAnyH_ready (rs := [7]) (by kernel_rfl) (by simp) ?_
            refine AllReadyH.cons (by simp only [List.getElem?_toArray, List.getElem?_cons_succ, List.getElem?_cons_zero]; rfl) (fun K' hK' => ?_) AllReadyH.nil
            refine step_appC wr bu14 (others_of_below bu14) (by rfl) _ _ 23 (by rfl) 34 5 comp_elem w.heap.size _ j _ _ (by rfl) own h0 (by rfl) hcel (fun u hu => by simp [compL, comp8] at hu; rcases hu with rfl | rfl | rfl | rfl | rfl <;> rfl) (by omega) hbel.size ?_
            intro g1 cap U15 og sg hg
            refine hK'.out _ _ trivial (fun _ => ?_)
            clear hcel
            clear hK' K'
            try simp only [Act.put, List.setIfInBounds_toArray, List.set_cons_zero, List.set_cons_succ]
            refine wpAnyH_take (i := 8) (v := .pointer (some ⟨q, 4, none⟩)) rfl (by kernel_rfl) (by kernel_rfl) (by kernel_rfl) (fun _ _ _ h => h) (Or.inl ⟨by rfl, ?_⟩) hS ?_
            · intro U hU
              go_simp
            simp only [Act.put, List.setIfInBounds_toArray, List.set_cons_zero, List.set_cons_succ]
            refine wpAnyH_ready (rs := [9]) (by kernel_rfl) (by simp) ?_
            refine AllReadyH.cons (by simp only [List.getElem?_toArray, List.getElem?_cons_succ, List.getElem?_cons_zero]; rfl) (fun K' hK' => ?_) AllReadyH.nil
            have xm := (sg.cells ⟨q, 4, none⟩ hqs (own.ne_block gm (by decide))).trans m4
            have hq5 : U15.heap[q]? = some (.cells #[.int .i64 20, .int .i64 20, .int .i64 3, .int .i64 3, .slice (some ⟨g, off, none⟩) j cx] 25 (0, 0)) := (sg.blocks q hqs (own.ne_block gm (by decide))).trans gm
            have fm := frozen_of_row _ _ 4 _ _ hq5
            go_simp
            refine hK'.out _ _ trivial (fun _ => ?_)
            clear hK' K'
            try simp only [Act.put, List.setIfInBounds_toArray, List.set_cons_zero, List.set_cons_succ]
            refine wpAnyH_done (by kernel_rfl) ?_ _
            simp only [OnlyN]
            have gm6 := heap_set_same (j := 4) hq5 (.slice (some ⟨g1, 0, none⟩) (j + 1) cap)
            have gp6 := (Below.heap_setCell U15 ⟨q, 4, none⟩ (.slice (some ⟨g1, 0, none⟩) (j + 1) cap) (q + 1) (by simp only; omega)).trans ((sg.blocks (q + 1) hqp (own.ne_block gp (by decide))).trans gp)
            have og6 := og.other (a := ⟨q, 4, none⟩) (og.ne_block hq5 (by decide)) (.slice (some ⟨g1, 0, none⟩) (j + 1) cap)
            have hb6 := (hbel.trans sg.below).setCell (p := ⟨q, 4, none⟩) hws (.slice (some ⟨g1, 0, none⟩) (j + 1) cap)
            go_wp2_with fail
            go_roundg (gk - 1)
            case measure => omega
            case rel => exact ⟨j + 1, _, cap, by omega, by omega, by omega, gm6, gp6, og6, hb6⟩
          · go_simp
            have bu17 := below_alloc bV (.cells #[.int .i64 8, .bool false, .int .i64 1, .int .i64 1, .slice none 0 0] 34)
            refine hK'.out _ _ trivial (fun _ => ?_)
            obtain ⟨h0, hh0⟩ : ∃ h0, V0.heap.size = h0 := ⟨_, rfl⟩
            try rw [hh0]
            have hcel : ∀ (i : Nat) (u : Value), (compL comp8)[i]? = some u → (V0.alloc (.cells #[.int .i64 8, .bool false, .int .i64 1, .int .i64 1, .slice none 0 0] 34)).cell? ⟨h0, i, none⟩ = some u := fun i u hi => by
              rw [← hh0, cell_of_row _ _ _ _ _ (0, 0) (heap_alloc_new V0 _)]
              rw [← hi, List.getElem?_toArray]; rfl
            generalize V0.alloc (.cells #[.int .i64 8, .bool false, .int .i64 1, .int .i64 1, .slice none 0 0] 34) = U17 at *
            clear hh0
            clear hK' K'
            try simp only [Act.put, List.setIfInBounds_toArray, List.set_cons_zero, List.set_cons_succ]
            refine wpAnyH_ready (rs := [1]) (by kernel_rfl) (by simp) ?_
            refine AllReadyH.cons (by simp only [List.getElem?_toArray, List.getElem?_cons_succ, List.getElem?_cons_zero]; rfl) (fun K' hK' => ?_) AllReadyH.nil
            have xm := (bu17.cell (p := ⟨q, 4, none⟩) hqs).trans m4
            go_simp
            refine hK'.out _ _ trivial (fun _ => ?_)
            clear xm
            clear hK' K'
            try simp only [Act.put, List.setIfInBounds_toArray, List.set_cons_zero, List.set_cons_succ]
            refine wpAnyH_ready (rs := [7]) (by kernel_rfl) (by simp) ?_
            refine AllReadyH.cons (by simp only [List.getElem?_toArray, List.getElem?_cons_succ, List.getElem?_cons_zero]; rfl) (fun K' hK' => ?_) AllReadyH.nil
            refine step_appC wr bu17 (others_of_below bu17) (by rfl) _ _ 23 (by rfl) 34 5 comp_elem w.heap.size _ j _ _ (by rfl) own h0 (by rfl) hcel (fun u hu => by simp [compL, comp8] at hu; rcases hu with rfl | rfl | rfl | rfl | rfl <;> rfl) (by omega) hbel.size ?_
            intro g1 cap U19 og sg hg
            refine hK'.out _ _ trivial (fun _ => ?_)
            clear hcel
            clear hK' K'
            try simp only [Act.put, List.setIfInBounds_toArray, List.set_cons_zero, List.set_cons_succ]
            refine wpAnyH_take (i := 8) (v := .pointer (some ⟨q, 4, none⟩)) rfl (by kernel_rfl) (by kernel_rfl) (by kernel_rfl) (fun _ _ _ h => h) (Or.inl ⟨by rfl, ?_⟩) hS ?_
            · intro U hU
              go_simp
            simp only [Act.put, List.setIfInBounds_toArray, List.set_cons_zero, List.set_cons_succ]
            refine wpAnyH_ready (rs := [9]) (by kernel_rfl) (by simp) ?_
            refine AllReadyH.cons (by simp only [List.getElem?_toArray, List.getElem?_cons_succ, List.getElem?_cons_zero]; rfl) (fun K' hK' => ?_) AllReadyH.nil
            have xm := (sg.cells ⟨q, 4, none⟩ hqs (own.ne_block gm (by decide))).trans m4
            have hq5 : U19.heap[q]? = some (.cells #[.int .i64 20, .int .i64 20, .int .i64 3, .int .i64 3, .slice (some ⟨g, off, none⟩) j cx] 25 (0, 0)) := (sg.blocks q hqs (own.ne_block gm (by decide))).trans gm
            have fm := frozen_of_row _ _ 4 _ _ hq5
            go_simp
            refine hK'.out _ _ trivial (fun _ => ?_)
            clear hK' K'
            try simp only [Act.put, List.setIfInBounds_toArray, List.set_cons_zero, List.set_cons_succ]
            refine wpAnyH_done (by kernel_rfl) ?_ _
            simp only [OnlyN]
            have gm6 := heap_set_same (j := 4) hq5 (.slice (some ⟨g1, 0, none⟩) (j + 1) cap)
            have gp6 := (Below.heap_setCell U19 ⟨q, 4, none⟩ (.slice (some ⟨g1, 0, none⟩) (j + 1) cap) (q + 1) (by simp only; omega)).trans ((sg.blocks (q + 1) hqp (own.ne_block gp (by decide))).trans gp)
            have og6 := og.other (a := ⟨q, 4, none⟩) (og.ne_block hq5 (by decide)) (.slice (some ⟨g1, 0, none⟩) (j + 1) cap)
            have hb6 := (hbel.trans sg.below).setCell (p := ⟨q, 4, none⟩) hws (.slice (some ⟨g1, 0, none⟩) (j + 1) cap)
            go_wp2_with fail
            go_roundg (gk - 1)
            case measure => omega
            case rel => exact ⟨j + 1, _, cap, by omega, by omega, by omega, gm6, gp6, og6, hb6⟩
    · obtain rfl : j = 5 := by omega
      have p := fun i => cell_of_row _ _ i _ _ (0, 0) gp
      have m0 : wr.cell? ⟨q, 0, none⟩ = some (.int .i64 20) := m 0
      have m1 : wr.cell? ⟨q, 1, none⟩ = some (.int .i64 20) := m 1
      have m2 : wr.cell? ⟨q, 2, none⟩ = some (.int .i64 3) := m 2
      have m3 : wr.cell? ⟨q, 3, none⟩ = some (.int .i64 3) := m 3
      have p0 : wr.cell? ⟨q + 1, 0, none⟩ = some (.int .i64 64) := p 0
      have p1 : wr.cell? ⟨q + 1, 1, none⟩ = some (.int .i64 64) := p 1
      have p2 : wr.cell? ⟨q + 1, 2, none⟩ = some (.int .i64 2) := p 2
      have p3 : wr.cell? ⟨q + 1, 3, none⟩ = some (.int .i64 4) := p 3
      have p4 : wr.cell? ⟨q + 1, 4, none⟩ = some (.int .i64 4) := p 4
      have p5 : wr.cell? ⟨q + 1, 5, none⟩ = some (.int .i64 15) := p 5
      have p6 : wr.cell? ⟨q + 1, 6, none⟩ = some (.int .i64 0) := p 6
      have p7 : wr.cell? ⟨q + 1, 7, none⟩ = some (.int .i64 0) := p 7
      have p8 : wr.cell? ⟨q + 1, 8, none⟩ = some (.int .i64 1) := p 8
      have p9 : wr.cell? ⟨q + 1, 9, none⟩ = some (.bool false) := p 9
      have p10 : wr.cell? ⟨q + 1, 10, none⟩ = some (.bool false) := p 10
      have p11 : wr.cell? ⟨q + 1, 11, none⟩ = some (.bool false) := p 11
      have FR := frame_any 20 20 3 3 X 5 cx (fun _ => comp8) 64 64 2 4 4 15 0 0 1 false false false wr (comps_of_cells own.at_) own.cap.1
      have fe : frameE 20 20 3 3 5 (fun _ => comp8) 64 64 2 4 4 15 0 0 1 false = 4 := by decide
      rw [fe] at FR
      unfold imgV parV at FR
      have FR := Lib.hid FR
      clear fe m p own gm gp
      go_wp2_with fail
      refine FR.out.mono ?_
      rintro e w5 ⟨rfl, hb5⟩
      go_wp2_with fail
      go_ret
      exact ⟨rfl, below_trans hbel hb5⟩
theorem rows_15_f (which : Int) (hk : which % 16 = 15) (w : World) : Calls Try.prog 3 #[.int .i64 which, .bool false] w fun e w' => e = .returned (.bool true) ∧ Below w.heap.size w w' := by
  have W0 := Lib.hid (fun (v : World) => by have := within12 which 16 (by omega) (by omega) v; rw [hk] at this; exact this)
  go_enter Try.func3, Try.ntmps3
  go_wp2_with fail
  refine (known12 _).mono ?_
  rintro e w1 ⟨rfl, hb1⟩
  go_wp2_with fail
  refine (one_any 20 20 3 3 _).mono ?_
  rintro e w2 ⟨b, rfl, gb, hbb, hb2⟩
  unfold parV
  have hbl := below_trans hb1 hb2
  have hlt : b < w2.heap.size := (Array.getElem?_eq_some_iff.1 gb).1
  have hws := hbl.size
  have hwb := Nat.le_trans hb1.size hbb
  clear hb1 hb2 hbb
  go_wp2_with fail
  generalize hw3 : World.alloc (World.alloc w2 _) _ = W3
  have gb3 : W3.heap[b]? = some (.cells #[.int .i64 8, .bool false, .int .i64 1, .int .i64 1, .slice none 0 0] 34 (0, 0)) := by rw [← hw3]; exact (Below.heap_alloc _ _ _ (by simp; omega)).trans ((Below.heap_alloc _ _ _ (by omega)).trans gb)
  have gm3 : W3.heap[w2.heap.size]? = some (.cells #[.int .i64 20, .int .i64 20, .int .i64 3, .int .i64 3, .slice (some ⟨b, 0, none⟩) 1 1] 25 (0, 0)) := by rw [← hw3]; exact (Below.heap_alloc _ _ _ (by simp)).trans (heap_alloc_new w2 _)
  have gp3 : W3.heap[w2.heap.size + 1]? = some (.cells #[.int .i64 64, .int .i64 64, .int .i64 2, .int .i64 4, .int .i64 4, .int .i64 15, .int .i64 0, .int .i64 0, .int .i64 1, .bool false, .bool false, .bool false] 27 (0, 0)) := by rw [← hw3]; exact heap_alloc_new2 w2 _ _
  have m0 : W3.cell? ⟨w2.heap.size, 0, none⟩ = some (.int .i64 20) := by rw [← hw3]; simp [go_sem]
  have m1 : W3.cell? ⟨w2.heap.size, 1, none⟩ = some (.int .i64 20) := by rw [← hw3]; simp [go_sem]
  have m2 : W3.cell? ⟨w2.heap.size, 2, none⟩ = some (.int .i64 3) := by rw [← hw3]; simp [go_sem]
  have m3 : W3.cell? ⟨w2.heap.size, 3, none⟩ = some (.int .i64 3) := by rw [← hw3]; simp [go_sem]
  have m4 : W3.cell? ⟨w2.heap.size, 4, none⟩ = some (.slice (some ⟨b, 0, none⟩) 1 1) := by rw [← hw3]; simp [go_sem]
  have p0 : W3.cell? ⟨w2.heap.size + 1, 0, none⟩ = some (.int .i64 64) := by rw [← hw3]; simp [go_sem]
  have p1 : W3.cell? ⟨w2.heap.size + 1, 1, none⟩ = some (.int .i64 64) := by rw [← hw3]; simp [go_sem]
  have p2 : W3.cell? ⟨w2.heap.size + 1, 2, none⟩ = some (.int .i64 2) := by rw [← hw3]; simp [go_sem]
  have p3 : W3.cell? ⟨w2.heap.size + 1, 3, none⟩ = some (.int .i64 4) := by rw [← hw3]; simp [go_sem]
  have p4 : W3.cell? ⟨w2.heap.size + 1, 4, none⟩ = some (.int .i64 4) := by rw [← hw3]; simp [go_sem]
  have p5 : W3.cell? ⟨w2.heap.size + 1, 5, none⟩ = some (.int .i64 15) := by rw [← hw3]; simp [go_sem]
  have p6 : W3.cell? ⟨w2.heap.size + 1, 6, none⟩ = some (.int .i64 0) := by rw [← hw3]; simp [go_sem]
  have p7 : W3.cell? ⟨w2.heap.size + 1, 7, none⟩ = some (.int .i64 0) := by rw [← hw3]; simp [go_sem]
  have p8 : W3.cell? ⟨w2.heap.size + 1, 8, none⟩ = some (.int .i64 1) := by rw [← hw3]; simp [go_sem]
  have p9 : W3.cell? ⟨w2.heap.size + 1, 9, none⟩ = some (.bool false) := by rw [← hw3]; simp [go_sem]
  have p10 : W3.cell? ⟨w2.heap.size + 1, 10, none⟩ = some (.bool false) := by rw [← hw3]; simp [go_sem]
  have p11 : W3.cell? ⟨w2.heap.size + 1, 11, none⟩ = some (.bool false) := by rw [← hw3]; simp [go_sem]
  have fm : ∀ j, W3.frozen? ⟨w2.heap.size, j, none⟩ = false := fun j => by rw [← hw3]; exact (World.frozen?_of_block (a := ⟨w2.heap.size, j, none⟩) (Below.heap_alloc _ _ _ (by simp))).trans (frozen_of_row _ _ j _ _ (heap_alloc_new w2 _))
  have fp : ∀ j, W3.frozen? ⟨w2.heap.size + 1, j, none⟩ = false := fun j => by rw [← hw3]; exact frozen_of_row _ _ j _ _ (heap_alloc_new2 w2 _ _)
  have c0 : W3.cell? ⟨b, 0, none⟩ = some (.int .i64 8) := (cell_of_row _ _ _ _ _ (0, 0) gb3).trans rfl
  have c1 : W3.cell? ⟨b, 1, none⟩ = some (.bool false) := (cell_of_row _ _ _ _ _ (0, 0) gb3).trans rfl
  have c2 : W3.cell? ⟨b, 2, none⟩ = some (.int .i64 1) := (cell_of_row _ _ _ _ _ (0, 0) gb3).trans rfl
  have c3 : W3.cell? ⟨b, 3, none⟩ = some (.int .i64 1) := (cell_of_row _ _ _ _ _ (0, 0) gb3).trans rfl
  have c4 : W3.cell? ⟨b, 4, none⟩ = some (.slice none 0 0) := (cell_of_row _ _ _ _ _ (0, 0) gb3).trans rfl
  have fb : ∀ j, W3.frozen? ⟨b, j, none⟩ = false := fun j => frozen_of_row _ _ j _ _ gb3
  have hs3 : W3.heap.size = w2.heap.size + 2 := by rw [← hw3]; simp
  have hbl3 : Below w.heap.size w W3 := by rw [← hw3]; exact below_alloc (below_alloc hbl _) _
  clear hw3 gb hbl
  refine (W0.out _).mono ?_
  rintro e w4 ⟨rfl, rfl⟩
  clear W0
  have o0 : OwnC W3 w.heap.size 34 5 (.slice (some ⟨b, 0, none⟩) 1 1) 1 (fun _ => compL comp8) := OwnC.of_block gb3 hwb (fun _ => rfl) (by unfold maxLen; omega) rfl
  clear gb3 c0 c1 c2 c3 c4 fb m0 m1 m2 m3 p0 p1 p2 p3 p4 p5 p6 p7 p8 p9 p10 p11 fm fp
  obtain ⟨q, hq⟩ : ∃ q, w2.heap.size = q := ⟨_, rfl⟩
  rw [hq] at gm3 gp3 hs3 hws m4
  rw [hq]
  clear hq hlt hwb
  go_wp2_with fail
  clear m4
  go_loopg [] 3 (fun k wr => ∃ (j : Nat) (X : Option Addr) (cx : Nat), 1 ≤ j ∧ j ≤ 4 ∧ k + j = 4 ∧ wr.heap[q]? = some (.cells #[.int .i64 20, .int .i64 20, .int .i64 3, .int .i64 3, .slice X j cx] 25 (0, 0)) ∧ wr.heap[q + 1]? = some (.cells #[.int .i64 64, .int .i64 64, .int .i64 2, .int .i64 4, .int .i64 4, .int .i64 15, .int .i64 0, .int .i64 0, .int .i64 1, .bool false, .bool false, .bool false] 27 (0, 0)) ∧ OwnC wr w.heap.size 34 5 (.slice X j cx) j (fun _ => compL comp8) ∧ Below w.heap.size w wr)
  case atStart => exact ⟨1, _, 1, by omega, by omega, rfl, gm3, gp3, o0, hbl3⟩
  case round =>
    obtain ⟨j, X, cx, h1, h2, hkj, gm, gp, own, hbel⟩ := hrel
    have m := fun i => cell_of_row _ _ i _ _ (0, 0) gm
    have m4 : wr.cell? ⟨q, 4, none⟩ = some (.slice X j cx) := m 4
    have hqp := (Array.getElem?_eq_some_iff.1 gp).1
    have hqs := (Array.getElem?_eq_some_iff.1 gm).1
    by_cases hlt : j < 4
    · obtain ⟨A0, cc0, e, hjc, _, hat, _⟩ := own.form
      injection e with e1 _ e2
      subst e1 e2
      obtain ⟨g, off, rfl, hgl, hc⟩ := hat.at_ (k := 0) (by omega)
      rw [Nat.zero_mul, Nat.add_zero] at hc
      have k0 : wr.cell? ⟨g, off + 0, none⟩ = some (.int .i64 8) := hc 0 _ rfl
      have k1 : wr.cell? ⟨g, off + 1, none⟩ = some (.bool false) := hc 1 _ rfl
      have k2 : wr.cell? ⟨g, off + 2, none⟩ = some (.int .i64 1) := hc 2 _ rfl
      have k3 : wr.cell? ⟨g, off + 3, none⟩ = some (.int .i64 1) := hc 3 _ rfl
      have k4 : wr.cell? ⟨g, off + 4, none⟩ = some (.slice none 0 0) := hc 4 _ rfl
      rw [Nat.add_zero] at k0
      have l0 : (0 : Int) < j := by omega
      clear hc m hat
      go_wp2_with fail
      refine held_region (by kernel_rfl) (fun _ => True) (fun _ _ h => h) (fun hS => ?_) trivial
      have bV : Below wr.heap.size wr wr.drew := (Below.refl _ _).drew
      generalize wr.drew = V0 at *
      refine wpAnyH_take (i := 0) (v := .pointer (some ⟨q, 4, none⟩)) rfl (by kernel_rfl) (by kernel_rfl) (by kernel_rfl) (fun _ _ _ h => h) (Or.inl ⟨by rfl, ?_⟩) hS ?_
      · intro U hU
        go_simp
      simp only [Act.put, List.setIfInBounds_toArray, List.set_cons_zero, List.set_cons_succ]
      refine wpAnyH_take (i := 2) (v := .pointer (some ⟨q, 4, none⟩)) rfl (by kernel_rfl) (by kernel_rfl) (by kernel_rfl) (fun _ _ _ h => h) (Or.inl ⟨by rfl, ?_⟩) hS ?_
      · intro U hU
        go_simp
      simp only [Act.put, List.setIfInBounds_toArray, List.set_cons_zero, List.set_cons_succ]
      refine wpAnyH_ready (rs := [1, 3]) (by kernel_rfl) (by simp) ?_
      refine AllReadyH.cons (by simp only [List.getElem?_toArray, List.getElem?_cons_succ, List.getElem?_cons_zero]; rfl) (fun K' hK' => ?_) (AllReadyH.cons (by simp only [List.getElem?_toArray, List.getElem?_cons_succ, List.getElem?_cons_zero]; rfl) (fun K' hK' => ?_) AllReadyH.nil)
      · have xm := (bV.cell (p := ⟨q, 4, none⟩) hqs).trans m4
        go_simp
        refine hK'.out _ _ trivial (fun _ => ?_)
        clear xm
        clear hK' K'
        try simp only [Act.put, List.setIfInBounds_toArray, List.set_cons_zero, List.set_cons_succ]
        refine wpAnyH_ready (rs := [3]) (by kernel_rfl) (by simp) ?_
        refine AllReadyH.cons (by simp only [List.getElem?_toArray, List.getElem?_cons_succ, List.getElem?_cons_zero]; rfl) (fun K' hK' => ?_) AllReadyH.nil
        have xm := (bV.cell (p := ⟨q, 4, none⟩) hqs).trans m4
        go_simp
        refine hK'.out _ _ trivial (fun _ => ?_)
        clear xm
        clear hK' K'
        try simp only [Act.put, List.setIfInBounds_toArray, List.set_cons_zero, List.set_cons_succ]
        refine wpAnyH_take (i := 4) (v := .pointer (some ⟨g, off, none⟩)) rfl (by kernel_rfl) (by kernel_rfl) (by kernel_rfl) (fun _ _ _ h => h) (Or.inl ⟨by rfl, ?_⟩) hS ?_
        · intro U hU
          go_simp
          intro h
          exact absurd h (by omega)
        simp only [Act.put, List.setIfInBounds_toArray, List.set_cons_zero, List.set_cons_succ]
        refine wpAnyH_ready (rs := [5]) (by kernel_rfl) (by simp) ?_
        refine AllReadyH.cons (by simp only [List.getElem?_toArray, List.getElem?_cons_succ, List.getElem?_cons_zero]; rfl) (fun K' hK' => ?_) AllReadyH.nil
        have x0 := (bV.cell (p := ⟨g, off, none⟩) hgl).trans k0
        have x1 := (bV.cell (p := ⟨g, off + 1, none⟩) hgl).trans k1
        have x2 := (bV.cell (p := ⟨g, off + 2, none⟩) hgl).trans k2
        have x3 := (bV.cell (p := ⟨g, off + 3, none⟩) hgl).trans k3
        have x4 := (bV.cell (p := ⟨g, off + 4, none⟩) hgl).trans k4
        go_simp
        refine hK'.out _ _ trivial (fun _ => ?_)
        clear x0 x1 x2 x3 x4
        clear hK' K'
        try simp only [Act.put, List.setIfInBounds_toArray, List.set_cons_zero, List.set_cons_succ]
        refine wpAnyH_ready (rs := [6]) (by kernel_rfl) (by simp) ?_
        refine AllReadyH.cons (by simp only [List.getElem?_toArray, List.getElem?_cons_succ, List.getElem?_cons_zero]; rfl) (fun K' hK' => ?_) AllReadyH.nil
        go_simp
        have bu3 := below_alloc bV (.cells #[.int .i64 8, .bool false, .int .i64 1, .int .i64 1, .slice none 0 0] 34)
        refine hK'.out _ _ trivial (fun _ => ?_)
        obtain ⟨h0, hh0⟩ : ∃ h0, V0.heap.size = h0 := ⟨_, rfl⟩
        try rw [hh0]
        have hcel : ∀ (i : Nat) (u : Value), (compL comp8)[i]? = some u → (V0.alloc (.cells #[.int .i64 8, .bool false, .int .i64 1, .int .i64 1, .slice none 0 0] 34)).cell? ⟨h0, i, none⟩ = some u := fun i u hi => by
          rw [← hh0, cell_of_row _ _ _ _ _ (0, 0) (heap_alloc_new V0 _)]
          rw [← hi, List.getElem?_toArray]; rfl
        generalize V0.alloc (.cells #[.int .i64 8, .bool false, .int .i64 1, .int .i64 1, .slice none 0 0] 34) = U3 at *
        clear hh0
        clear hK' K'
        try simp only [Act.put, List.setIfInBounds_toArray, List.set_cons_zero, List.set_cons_succ]
        refine wpAnyH_ready (rs := [7]) (by kernel_rfl) (by simp) ?_
        refine AllReadyH.cons (by simp only [List.getElem?_toArray, List.getElem?_cons_succ, List.getElem?_cons_zero]; rfl) (fun K' hK' => ?_) AllReadyH.nil
        refine step_appC wr bu3 (others_of_below bu3) (by rfl) _ _ 23 (by rfl) 34 5 comp_elem w.heap.size _ j _ _ (by rfl) own h0 (by rfl) hcel (fun u hu => by simp [compL, comp8] at hu; rcases hu with rfl | rfl | rfl | rfl | rfl <;> rfl) (by omega) hbel.size ?_
        intro g1 cap U4 og sg hg
        refine hK'.out _ _ trivial (fun _ => ?_)
        clear hcel
        clear hK' K'
        try simp only [Act.put, List.setIfInBounds_toArray, List.set_cons_zero, List.set_cons_succ]
        refine wpAnyH_take (i := 8) (v := .pointer (some ⟨q, 4, none⟩)) rfl (by kernel_rfl) (by kernel_rfl) (by kernel_rfl) (fun _ _ _ h => h) (Or.inl ⟨by rfl, ?_⟩) hS ?_
        · intro U hU
          go_simp
        simp only [Act.put, List.setIfInBounds_toArray, List.set_cons_zero, List.set_cons_succ]
        refine wpAnyH_ready (rs := [9]) (by kernel_rfl) (by simp) ?_
        refine AllReadyH.cons (by simp only [List.getElem?_toArray, List.getElem?_cons_succ, List.getElem?_cons_zero]; rfl) (fun K' hK' => ?_) AllReadyH.nil
        have xm := (sg.cells ⟨q, 4, none⟩ hqs (own.ne_block gm (by decide))).trans m4
        have hq5 : U4.heap[q]? = some (.cells #[.int .i64 20, .int .i64 20, .int .i64 3, .int .i64 3, .slice (some ⟨g, off, none⟩) j cx] 25 (0, 0)) := (sg.blocks q hqs (own.ne_block gm (by decide))).trans gm
        have fm := frozen_of_row _ _ 4 _ _ hq5
        go_simp
        refine hK'.out _ _ trivial (fun _ => ?_)
        clear hK' K'
        try simp only [Act.put, List.setIfInBounds_toArray, List.set_cons_zero, List.set_cons_succ]
        refine wpAnyH_done (by kernel_rfl) ?_ _
        simp only [OnlyN]
        have gm6 := heap_set_same (j := 4) hq5 (.slice (some ⟨g1, 0, none⟩) (j + 1) cap)
        have gp6 := (Below.heap_setCell U4 ⟨q, 4, none⟩ (.slice (some ⟨g1, 0, none⟩) (j + 1) cap) (q + 1) (by simp only; omega)).trans ((sg.blocks (q + 1) hqp (own.ne_block gp (by decide))).trans gp)
        have og6 := og.other (a := ⟨q, 4, none⟩) (og.ne_block hq5 (by decide)) (.slice (some ⟨g1, 0, none⟩) (j + 1) cap)
        have hb6 := (hbel.trans sg.below).setCell (p := ⟨q, 4, none⟩) hws (.slice (some ⟨g1, 0, none⟩) (j + 1) cap)
        go_wp2_with fail
        go_roundg (gk - 1)
        case measure => omega
        case rel => exact ⟨j + 1, _, cap, by omega, by omega, by omega, gm6, gp6, og6, hb6⟩
      · have xm := (bV.cell (p := ⟨q, 4, none⟩) hqs).trans m4
        go_simp
        refine hK'.out _ _ trivial (fun _ => ?_)
        clear xm
        clear hK' K'
        try simp only [Act.put, List.setIfInBounds_toArray, List.set_cons_zero, List.set_cons_succ]
        refine wpAnyH_take (i := 4) (v := .pointer (some ⟨g, off, none⟩)) rfl (by kernel_rfl) (by kernel_rfl) (by kernel_rfl) (fun _ _ _ h => h) (Or.inl ⟨by rfl, ?_⟩) hS ?_
        · intro U hU
          go_simp
          intro h
          exact absurd h (by omega)
        simp only [Act.put, List.setIfInBounds_toArray, List.set_cons_zero, List.set_cons_succ]
        refine wpAnyH_ready (rs := [1, 5]) (by kernel_rfl) (by simp) ?_
        refine AllReadyH.cons (by simp only [List.getElem?_toArray, List.getElem?_cons_succ, List.getElem?_cons_zero]; rfl) (fun K' hK' => ?_) (AllReadyH.cons (by simp only [List.getElem?_toArray, List.getElem?_cons_succ, List.getElem?_cons_zero]; rfl) (fun K' hK' => ?_) AllReadyH.nil)
        · have xm := (bV.cell (p := ⟨q, 4, none⟩) hqs).trans m4
          go_simp
          refine hK'.out _ _ trivial (fun _ => ?_)
          clear xm
          clear hK' K'
          try simp only [Act.put, List.setIfInBounds_toArray, List.set_cons_zero, List.set_cons_succ]
          refine wpAnyH_ready (rs := [5]) (by kernel_rfl) (by simp) ?_
          refine AllReadyH.cons (by simp only [List.getElem?_toArray, List.getElem?_cons_succ, List.getElem?_cons_zero]; rfl) (fun K' hK' => ?_) AllReadyH.nil
          have x0 := (bV.cell (p := ⟨g, off, none⟩) hgl).trans k0
          have x1 := (bV.cell (p := ⟨g, off + 1, none⟩) hgl).trans k1
          have x2 := (bV.cell (p := ⟨g, off + 2, none⟩) hgl).trans k2
          have x3 := (bV.cell (p := ⟨g, off + 3, none⟩) hgl).trans k3
          have x4 := (bV.cell (p := ⟨g, off + 4, none⟩) hgl).trans k4
          go_simp
          refine hK'.out _ _ trivial (fun _ => ?_)
          clear x0 x1 x2 x3 x4
          clear hK' K'
          try simp only [Act.put, List.setIfInBounds_toArray, List.set_cons_zero, List.set_cons_succ]
          refine wpAnyH_ready (rs := [6]) (by kernel_rfl) (by simp) ?_
          refine AllReadyH.cons (by simp only [List.getElem?_toArray, List.getElem?_cons_succ, List.getElem?_cons_zero]; rfl) (fun K' hK' => ?_) AllReadyH.nil
          go_simp
          have bu9 := below_alloc bV (.cells #[.int .i64 8, .bool false, .int .i64 1, .int .i64 1, .slice none 0 0] 34)
          refine hK'.out _ _ trivial (fun _ => ?_)
          obtain ⟨h0, hh0⟩ : ∃ h0, V0.heap.size = h0 := ⟨_, rfl⟩
          try rw [hh0]
          have hcel : ∀ (i : Nat) (u : Value), (compL comp8)[i]? = some u → (V0.alloc (.cells #[.int .i64 8, .bool false, .int .i64 1, .int .i64 1, .slice none 0 0] 34)).cell? ⟨h0, i, none⟩ = some u := fun i u hi => by
            rw [← hh0, cell_of_row _ _ _ _ _ (0, 0) (heap_alloc_new V0 _)]
            rw [← hi, List.getElem?_toArray]; rfl
          generalize V0.alloc (.cells #[.int .i64 8, .bool false, .int .i64 1, .int .i64 1, .slice none 0 0] 34) = U9 at *
          clear hh0
          clear hK' K'
          try simp only [Act.put, List.setIfInBounds_toArray, List.set_cons_zero, List.set_cons_succ]
          refine wpAnyH_ready (rs := [7]) (by kernel_rfl) (by simp) ?_
          refine AllReadyH.cons (by simp only [List.getElem?_toArray, List.getElem?_cons_succ, List.getElem?_cons_zero]; rfl) (fun K' hK' => ?_) AllReadyH.nil
          refine step_appC wr bu9 (others_of_below bu9) (by rfl) _ _ 23 (by rfl) 34 5 comp_elem w.heap.size _ j _ _ (by rfl) own h0 (by rfl) hcel (fun u hu => by simp [compL, comp8] at hu; rcases hu with rfl | rfl | rfl | rfl | rfl <;> rfl) (by omega) hbel.size ?_
          intro g1 cap U10 og sg hg
          refine hK'.out _ _ trivial (fun _ => ?_)
          clear hcel
          clear hK' K'
          try simp only [Act.put, List.setIfInBounds_toArray, List.set_cons_zero, List.set_cons_succ]
          refine wpAnyH_take (i := 8) (v := .pointer (some ⟨q, 4, none⟩)) rfl (by kernel_rfl) (by kernel_rfl) (by kernel_rfl) (fun _ _ _ h => h) (Or.inl ⟨by rfl, ?_⟩) hS ?_
          · intro U hU
            go_simp
          simp only [Act.put, List.setIfInBounds_toArray, List.set_cons_zero, List.set_cons_succ]
          refine wpAnyH_ready (rs := [9]) (by kernel_rfl) (by simp) ?_
          refine AllReadyH.cons (by simp only [List.getElem?_toArray, List.getElem?_cons_succ, List.getElem?_cons_zero]; rfl) (fun K' hK' => ?_) AllReadyH.nil
          have xm := (sg.cells ⟨q, 4, none⟩ hqs (own.ne_block gm (by decide))).trans m4
          have hq5 : U10.heap[q]? = some (.cells #[.int .i64 20, .int .i64 20, .int .i64 3, .int .i64 3, .slice (some ⟨g, off, none⟩) j cx] 25 (0, 0)) := (sg.blocks q hqs (own.ne_block gm (by decide))).trans gm
          have fm := frozen_of_row _ _ 4 _ _ hq5
          go_simp
          refine hK'.out _ _ trivial (fun _ => ?_)
          clear hK' K'
          try simp only [Act.put, List.setIfInBounds_toArray, List.set_cons_zero, List.set_cons_succ]
          refine wpAnyH_done (by kernel_rfl) ?_ _
          simp only [OnlyN]
          have gm6 := heap_set_same (j := 4) hq5 (.slice (some ⟨g1, 0, none⟩) (j + 1) cap)
          have gp6 := (Below.heap_setCell U10 ⟨q, 4, none⟩ (.slice (some ⟨g1, 0, none⟩) (j + 1) cap) (q + 1) (by simp only; omega)).trans ((sg.blocks (q + 1) hqp (own.ne_block gp (by decide))).trans gp)
          have og6 := og.other (a := ⟨q, 4, none⟩) (og.ne_block hq5 (by decide)) (.slice (some ⟨g1, 0, none⟩) (j + 1) cap)
          have hb6 := (hbel.trans sg.below).setCell (p := ⟨q, 4, none⟩) hws (.slice (some ⟨g1, 0, none⟩) (j + 1) cap)
          go_wp2_with fail
          go_roundg (gk - 1)
          case measure => omega
          case rel => exact ⟨j + 1, _, cap, by omega, by omega, by omega, gm6, gp6, og6, hb6⟩
        · have x0 := (bV.cell (p := ⟨g, off, none⟩) hgl).trans k0
          have x1 := (bV.cell (p := ⟨g, off + 1, none⟩) hgl).trans k1
          have x2 := (bV.cell (p := ⟨g, off + 2, none⟩) hgl).trans k2
          have x3 := (bV.cell (p := ⟨g, off + 3, none⟩) hgl).trans k3
          have x4 := (bV.cell (p := ⟨g, off + 4, none⟩) hgl).trans k4
          go_simp
          refine hK'.out _ _ trivial (fun _ => ?_)
          clear x0 x1 x2 x3 x4
          clear hK' K'
          try simp only [Act.put, List.setIfInBounds_toArray, List.set_cons_zero, List.set_cons_succ]
          refine wpAnyH_ready (rs := [1, 6]) (by kernel_rfl) (by simp) ?_
          refine AllReadyH.cons (by simp only [List.getElem?_toArray, List.getElem?_cons_succ, List.getElem?_cons_zero]; rfl) (fun K' hK' => ?_) (AllReadyH.cons (by simp only [List.getElem?_toArray, List.getElem?_cons_succ, List.getElem?_cons_zero]; rfl) (fun K' hK' => ?_) AllReadyH.nil)
          · have xm := (bV.cell (p := ⟨q, 4, none⟩) hqs).trans m4
            go_simp
            refine hK'.out _ _ trivial (fun _ => ?_)
            clear xm
            clear hK' K'
            try simp only [Act.put, List.setIfInBounds_toArray, List.set_cons_zero, List.set_cons_succ]
            refine wpAnyH_ready (rs := [6]) (by kernel_rfl) (by simp) ?_
            refine AllReadyH.cons (by simp only [List.getElem?_toArray, List.getElem?_cons_succ, List.getElem?_cons_zero]; rfl) (fun K' hK' => ?_) AllReadyH.nil
            go_simp
            have bu14 := below_alloc bV (.cells #[.int .i64 8, .bool false, .int .i64 1, .int .i64 1, .slice none 0 0] 34)
            refine hK'.out _ _ trivial (fun _ => ?_)
            obtain ⟨h0, hh0⟩ : ∃ h0, V0.heap.size = h0 := ⟨_, rfl⟩
            try rw [hh0]
            have hcel : ∀ (i : Nat) (u : Value), (compL comp8)[i]? = some u → (V0.alloc (.cells #[.int .i64 8, .bool false, .int .i64 1, .int .i64 1, .slice none 0 0] 34)).cell? ⟨h0, i, none⟩ = some u := fun i u hi => by
              rw [← hh0, cell_of_row _ _ _ _ _ (0, 0) (heap_alloc_new V0 _)]
              rw [← hi, List.getElem?_toArray]; rfl
            generalize V0.alloc (.cells #[.int .i64 8, .bool false, .int .i64 1, .int .i64 1, .slice none 0 0] 34) = U14 at *
            clear hh0
            clear hK' K'
            try simp only [Act.put, List.setIfInBounds_toArray, List.set_cons_zero, List.set_cons_succ]
            refine wpAnyH_ready (rs := [7]) (by kernel_rfl) (by simp) ?_
            refine AllReadyH.cons (by simp only [List.getElem?_toArray, List.getElem?_cons_succ, List.getElem?_cons_zero]; rfl) (fun K' hK' => ?_) AllReadyH.nil
            refine step_appC wr bu14 (others_of_below bu14) (by rfl) _ _ 23 (by rfl) 34 5 comp_elem w.heap.size _ j _ _ (by rfl) own h0 (by rfl) hcel (fun u hu => by simp [compL, comp8] at hu; rcases hu with rfl | rfl | rfl | rfl | rfl <;> rfl) (by omega) hbel.size ?_
            intro g1 cap U15 og sg hg
            refine hK'.out _ _ trivial (fun _ => ?_)
            clear hcel
            clear hK' K'
            try simp only [Act.put, List.setIfInBounds_toArray, List.set_cons_zero, List.set_cons_succ]
            refine wpAnyH_take (i := 8) (v := .pointer (some ⟨q, 4, none⟩)) rfl (by kernel_rfl) (by kernel_rfl) (by kernel_rfl) (fun _ _ _ h => h) (Or.inl ⟨by rfl, ?_⟩) hS ?_
            · intro U hU
              go_simp
            simp only [Act.put, List.setIfInBounds_toArray, List.set_cons_zero, List.set_cons_succ]
            refine wpAnyH_ready (rs := [9]) (by kernel_rfl) (by simp) ?_
            refine AllReadyH.cons (by simp only [List.getElem?_toArray, List.getElem?_cons_succ, List.getElem?_cons_zero]; rfl) (fun K' hK' => ?_) AllReadyH.nil
            have xm := (sg.cells ⟨q, 4, none⟩ hqs (own.ne_block gm (by decide))).trans m4
            have hq5 : U15.heap[q]? = some (.cells #[.int .i64 20, .int .i64 20, .int .i64 3, .int .i64 3, .slice (some ⟨g, off, none⟩) j cx] 25 (0, 0)) := (sg.blocks q hqs (own.ne_block gm (by decide))).trans gm
            have fm := frozen_of_row _ _ 4 _ _ hq5
            go_simp
            refine hK'.out _ _ trivial (fun _ => ?_)
            clear hK' K'
            try simp only [Act.put, List.setIfInBounds_toArray, List.set_cons_zero, List.set_cons_succ]
            refine wpAnyH_done (by kernel_rfl) ?_ _
            simp only [OnlyN]
            have gm6 := heap_set_same (j := 4) hq5 (.slice (some ⟨g1, 0, none⟩) (j + 1) cap)
            have gp6 := (Below.heap_setCell U15 ⟨q, 4, none⟩ (.slice (some ⟨g1, 0, none⟩) (j + 1) cap) (q + 1) (by simp only; omega)).trans ((sg.blocks (q + 1) hqp (own.ne_block gp (by decide))).trans gp)
            have og6 := og.other (a := ⟨q, 4, none⟩) (og.ne_block hq5 (by decide)) (.slice (some ⟨g1, 0, none⟩) (j + 1) cap)
            have hb6 := (hbel.trans sg.below).setCell (p := ⟨q, 4, none⟩) hws (.slice (some ⟨g1, 0, none⟩) (j + 1) cap)
            go_wp2_with fail
            go_roundg (gk - 1)
            case measure => omega
            case rel => exact ⟨j + 1, _, cap, by omega, by omega, by omega, gm6, gp6, og6, hb6⟩
          · go_simp
            have bu17 := below_alloc bV (.cells #[.int .i64 8, .bool false, .int .i64 1, .int .i64 1, .slice none 0 0] 34)
            refine hK'.out _ _ trivial (fun _ => ?_)
            obtain ⟨h0, hh0⟩ : ∃ h0, V0.heap.size = h0 := ⟨_, rfl⟩
            try rw [hh0]
            have hcel : ∀ (i : Nat) (u : Value), (compL comp8)[i]? = some u → (V0.alloc (.cells #[.int .i64 8, .bool false, .int .i64 1, .int .i64 1, .slice none 0 0] 34)).cell? ⟨h0, i, none⟩ = some u := fun i u hi => by
              rw [← hh0, cell_of_row _ _ _ _ _ (0, 0) (heap_alloc_new V0 _)]
              rw [← hi, List.getElem?_toArray]; rfl
            generalize V0.alloc (.cells #[.int .i64 8, .bool false, .int .i64 1, .int .i64 1, .slice none 0 0] 34) = U17 at *
            clear hh0
            clear hK' K'
            try simp only [Act.put, List.setIfInBounds_toArray, List.set_cons_zero, List.set_cons_succ]
            refine wpAnyH_ready (rs := [1]) (by kernel_rfl) (by simp) ?_
            refine AllReadyH.cons (by simp only [List.getElem?_toArray, List.getElem?_cons_succ, List.getElem?_cons_zero]; rfl) (fun K' hK' => ?_) AllReadyH.nil
            have xm := (bu17.cell (p := ⟨q, 4, none⟩) hqs).trans m4
            go_simp
            refine hK'.out _ _ trivial (fun _ => ?_)
            clear xm
            clear hK' K'
            try simp only [Act.put, List.setIfInBounds_toArray, List.set_cons_zero, List.set_cons_succ]
            refine wpAnyH_ready (rs := [7]) (by kernel_rfl) (by simp) ?_
            refine AllReadyH.cons (by simp only [List.getElem?_toArray, List.getElem?_cons_succ, List.getElem?_cons_zero]; rfl) (fun K' hK' => ?_) AllReadyH.nil
            refine step_appC wr bu17 (others_of_below bu17) (by rfl) _ _ 23 (by rfl) 34 5 comp_elem w.heap.size _ j _ _ (by rfl) own h0 (by rfl) hcel (fun u hu => by simp [compL, comp8] at hu; rcases hu with rfl | rfl | rfl | rfl | rfl <;> rfl) (by omega) hbel.size ?_
            intro g1 cap U19 og sg hg
            refine hK'.out _ _ trivial (fun _ => ?_)
            clear hcel
            clear hK' K'
            try simp only [Act.put, List.setIfInBounds_toArray, List.set_cons_zero, List.set_cons_succ]
            refine wpAnyH_take (i := 8) (v := .pointer (some ⟨q, 4, none⟩)) rfl (by kernel_rfl) (by kernel_rfl) (by kernel_rfl) (fun _ _ _ h => h) (Or.inl ⟨by rfl, ?_⟩) hS ?_
            · intro U hU
              go_simp
            simp only [Act.put, List.setIfInBounds_toArray, List.set_cons_zero, List.set_cons_succ]
            refine wpAnyH_ready (rs := [9]) (by kernel_rfl) (by simp) ?_
            refine AllReadyH.cons (by simp only [List.getElem?_toArray, List.getElem?_cons_succ, List.getElem?_cons_zero]; rfl) (fun K' hK' => ?_) AllReadyH.nil
            have xm := (sg.cells ⟨q, 4, none⟩ hqs (own.ne_block gm (by decide))).trans m4
            have hq5 : U19.heap[q]? = some (.cells #[.int .i64 20, .int .i64 20, .int .i64 3, .int .i64 3, .slice (some ⟨g, off, none⟩) j cx] 25 (0, 0)) := (sg.blocks q hqs (own.ne_block gm (by decide))).trans gm
            have fm := frozen_of_row _ _ 4 _ _ hq5
            go_simp
            refine hK'.out _ _ trivial (fun _ => ?_)
            clear hK' K'
            try simp only [Act.put, List.setIfInBounds_toArray, List.set_cons_zero, List.set_cons_succ]
            refine wpAnyH_done (by kernel_rfl) ?_ _
            simp only [OnlyN]
            have gm6 := heap_set_same (j := 4) hq5 (.slice (some ⟨g1, 0, none⟩) (j + 1) cap)
            have gp6 := (Below.heap_setCell U19 ⟨q, 4, none⟩ (.slice (some ⟨g1, 0, none⟩) (j + 1) cap) (q + 1) (by simp only; omega)).trans ((sg.blocks (q + 1) hqp (own.ne_block gp (by decide))).trans gp)
            have og6 := og.other (a := ⟨q, 4, none⟩) (og.ne_block hq5 (by decide)) (.slice (some ⟨g1, 0, none⟩) (j + 1) cap)
            have hb6 := (hbel.trans sg.below).setCell (p := ⟨q, 4, none⟩) hws (.slice (some ⟨g1, 0, none⟩) (j + 1) cap)
            go_wp2_with fail
            go_roundg (gk - 1)
            case measure => omega
            case rel => exact ⟨j + 1, _, cap, by omega, by omega, by omega, gm6, gp6, og6, hb6⟩
    · obtain rfl : j = 4 := by omega
      have p := fun i => cell_of_row _ _ i _ _ (0, 0) gp
      have m0 : wr.cell? ⟨q, 0, none⟩ = some (.int .i64 20) := m 0
      have m1 : wr.cell? ⟨q, 1, none⟩ = some (.int .i64 20) := m 1
      have m2 : wr.cell? ⟨q, 2, none⟩ = some (.int .i64 3) := m 2
      have m3 : wr.cell? ⟨q, 3, none⟩ = some (.int .i64 3) := m 3
      have p0 : wr.cell? ⟨q + 1, 0, none⟩ = some (.int .i64 64) := p 0
      have p1 : wr.cell? ⟨q + 1, 1, none⟩ = some (.int .i64 64) := p 1
      have p2 : wr.cell? ⟨q + 1, 2, none⟩ = some (.int .i64 2) := p 2
      have p3 : wr.cell? ⟨q + 1, 3, none⟩ = some (.int .i64 4) := p 3
      have p4 : wr.cell? ⟨q + 1, 4, none⟩ = some (.int .i64 4) := p 4
      have p5 : wr.cell? ⟨q + 1, 5, none⟩ = some (.int .i64 15) := p 5
      have p6 : wr.cell? ⟨q + 1, 6, none⟩ = some (.int .i64 0) := p 6
      have p7 : wr.cell? ⟨q + 1, 7, none⟩ = some (.int .i64 0) := p 7
      have p8 : wr.cell? ⟨q + 1, 8, none⟩ = some (.int .i64 1) := p 8
      have p9 : wr.cell? ⟨q + 1, 9, none⟩ = some (.bool false) := p 9
      have p10 : wr.cell? ⟨q + 1, 10, none⟩ = some (.bool false) := p 10
      have p11 : wr.cell? ⟨q + 1, 11, none⟩ = some (.bool false) := p 11
      have FR := frame_any 20 20 3 3 X 4 cx (fun _ => comp8) 64 64 2 4 4 15 0 0 1 false false false wr (comps_of_cells own.at_) own.cap.1
      have fe : frameE 20 20 3 3 4 (fun _ => comp8) 64 64 2 4 4 15 0 0 1 false = 0 := by decide
      rw [fe] at FR
      unfold imgV parV at FR
      have FR := Lib.hid FR
      clear fe m p own gm gp
      go_wp2_with fail
      refine FR.out.mono ?_
      rintro e w5 ⟨rfl, hb5⟩
      go_wp2_with fail
      go_ret
      exact ⟨rfl, below_trans hbel hb5⟩
theorem rows_any (which : Int) (above : Bool) (w : World) : Calls Try.prog 3 #[.int .i64 which, .bool above] w fun e w' => e = .returned (.bool true) ∧ Below w.heap.size w w' := by
  have h : which % 16 = 0 ∨ which % 16 = 1 ∨ which % 16 = 2 ∨ which % 16 = 3 ∨ which % 16 = 4 ∨ which % 16 = 5 ∨ which % 16 = 6 ∨ which % 16 = 7 ∨ which % 16 = 8 ∨ which % 16 = 9 ∨ which % 16 = 10 ∨ which % 16 = 11 ∨ which % 16 = 12 ∨ which % 16 = 13 ∨ which % 16 = 14 ∨ which % 16 = 15 := by omega
  cases above
  · rcases h with h | h | h | h | h | h | h | h | h | h | h | h | h | h | h | h
    · exact rows_0_f which h w
    · exact rows_1_f which h w
    · exact rows_2_f which h w
    · exact rows_3_f which h w
    · exact rows_4_f which h w
    · exact rows_5_f which h w
    · exact rows_6_f which h w
    · exact rows_7_f which h w
    · exact rows_8_f which h w
    · exact rows_9_f which h w
    · exact rows_10_f which h w
    · exact rows_11_f which h w
    · exact rows_12_f which h w
    · exact rows_13_f which h w
    · exact rows_14_f which h w
    · exact rows_15_f which h w
  · rcases h with h | h | h | h | h | h | h | h | h | h | h | h | h | h | h | h
    · exact rows_0_t which h w
    · exact rows_1_t which h w
    · exact rows_2_t which h w
    · exact rows_3_t which h w
    · exact rows_4_t which h w
    · exact rows_5_t which h w
    · exact rows_6_t which h w
    · exact rows_7_t which h w
    · exact rows_8_t which h w
    · exact rows_9_t which h w
    · exact rows_10_t which h w
    · exact rows_11_t which h w
    · exact rows_12_t which h w
    · exact rows_13_t which h w
    · exact rows_14_t which h w
    · exact rows_15_t which h w
end Go.Proofs.Ytmieoifagnpbiaa
