/- CONTRACT of waveletlaw12.canvasPart. -/
import Derived.Test.YtpgkdpoehkdhcaaRef12b
import Derived.Test.YtpgkdpoehkdhcaaCheck12
namespace Go.Proofs.Ytpgkdpoehkdhcaa
open Go.RowKit
set_option maxHeartbeats 4000000
set_option linter.unusedVariables false
set_option linter.unusedSimpArgs false
set_option maxRecDepth 100000

theorem areaR_nat (X Y Ox Oy dx dy : Nat) : areaR ⟨(byN Ox dx : Nat), (byN Oy dy : Nat), (byN X dx : Nat), (byN Y dy : Nat)⟩ = areaN X Y Ox Oy dx dy := by
  unfold areaR areaN
  simp only
  congr 1 <;> omega
theorem canvasPart_any (Xn Yn On Pn : Nat) (A : Option Addr) (n c : Nat) (dp : Int) (sg : Bool) (dxn dyn : Nat) (DA : Option Addr) (N dc : Nat) (h0 : Xn ≤ 1048576) (h1 : Yn ≤ 1048576) (h2 : On ≤ 1048576) (h3 : Pn ≤ 1048576) (hx : 1 ≤ dxn ∧ dxn ≤ 1048576) (hy : 1 ≤ dyn ∧ dyn ≤ 1048576) (w : World) :
    Calls Try.prog 23 #[imgV Xn Yn On Pn A n c, .agg #[.int .i64 dp, .bool sg, .int .i64 dxn, .int .i64 dyn, .slice DA N dc]] w fun e w' => e = .returned (.int .i64 (areaN Xn Yn On Pn dxn dyn : Nat)) ∧ Below w.heap.size w w' := by
  have HW := Lib.hid (fun v : World => wholeR_any Xn Yn On Pn A n c v)
  have HP := Lib.hid (fun v : World => by have := partR_any ⟨On, Pn, Xn, Yn⟩ dxn dyn (by simp only; omega) (by simp only; omega) (by simp only; omega) (by simp only; omega) (by omega) (by omega) v; simp only [clI_nat _ _ hx.1, clI_nat _ _ hy.1] at this; exact this)
  have l1 : byN Xn dxn ≤ Xn := byN_le hx.1
  have l2 : byN Yn dyn ≤ Yn := byN_le hy.1
  have l3 : byN On dxn ≤ On := byN_le hx.1
  have l4 : byN Pn dyn ≤ Pn := byN_le hy.1
  have HA := Lib.hid (fun v : World => by have := areaR_any ⟨(byN On dxn : Nat), (byN Pn dyn : Nat), (byN Xn dxn : Nat), (byN Yn dyn : Nat)⟩ (by simp only; omega) (by simp only; omega) (by simp only; omega) (by simp only; omega) v; rw [areaR_nat] at this; exact this)
  unfold imgV rcV at *
  simp only at *
  generalize areaN Xn Yn On Pn dxn dyn = ar at *
  generalize byN Xn dxn = A1 at *
  generalize byN Yn dyn = B1 at *
  generalize byN On dxn = A0 at *
  generalize byN Pn dyn = B0 at *
  go_enter Try.func23, Try.ntmps23
  go_wp2_with fail
  generalize hw2 : World.alloc (World.alloc w _) _ = w2
  have gm : w2.heap[w.heap.size]? = some (.cells #[.int .i64 Xn, .int .i64 Yn, .int .i64 On, .int .i64 Pn, .slice A n c] 28 (0, 0)) := by rw [← hw2]; exact (Below.heap_alloc _ _ _ (by simp)).trans (heap_alloc_new w _)
  have gc : w2.heap[w.heap.size + 1]? = some (.cells #[.int .i64 dp, .bool sg, .int .i64 dxn, .int .i64 dyn, .slice DA N dc] 48 (0, 0)) := by rw [← hw2]; exact heap_alloc_new3 w _ _
  have hs : w2.heap.size = w.heap.size + 2 := by rw [← hw2]; simp
  have bb : Below w.heap.size w w2 := by rw [← hw2]; exact below_alloc (below_alloc (Below.refl _ _) _) _
  clear hw2
  have m := fun i => cell_of_row _ _ i _ _ (0, 0) gm
  have b := fun i => cell_of_row _ _ i _ _ (0, 0) gc
  obtain ⟨q, hq⟩ : ∃ q, w.heap.size = q := ⟨_, rfl⟩
  rw [hq] at hs
  simp only [hq] at m b gm gc
  rw [hq]
  refine held_region (by kernel_rfl) (fun U => U.cell? ⟨q, 0, none⟩ = some (.int .i64 Xn) ∧ U.cell? ⟨q, 1, none⟩ = some (.int .i64 Yn) ∧ U.cell? ⟨q, 2, none⟩ = some (.int .i64 On) ∧ U.cell? ⟨q, 3, none⟩ = some (.int .i64 Pn) ∧ U.cell? ⟨q, 4, none⟩ = some (.slice A n c) ∧ U.cell? ⟨q + 1, 2, none⟩ = some (.int .i64 dxn) ∧ U.cell? ⟨q + 1, 3, none⟩ = some (.int .i64 dyn)) (fun _ _ h => h) (fun hS => ?_) ⟨m 0, m 1, m 2, m 3, m 4, b 2, b 3⟩
  have hSB : ∀ U : World, Below (q + 2) w2 U → U.cell? ⟨q, 0, none⟩ = some (.int .i64 Xn) ∧ U.cell? ⟨q, 1, none⟩ = some (.int .i64 Yn) ∧ U.cell? ⟨q, 2, none⟩ = some (.int .i64 On) ∧ U.cell? ⟨q, 3, none⟩ = some (.int .i64 Pn) ∧ U.cell? ⟨q, 4, none⟩ = some (.slice A n c) ∧ U.cell? ⟨q + 1, 2, none⟩ = some (.int .i64 dxn) ∧ U.cell? ⟨q + 1, 3, none⟩ = some (.int .i64 dyn) := fun U h =>
    have g0 := fun i => h.cell (p := ⟨q, i, none⟩) (by simp only; omega)
    have g1 := fun i => h.cell (p := ⟨q + 1, i, none⟩) (by simp only; omega)
    ⟨(g0 0).trans (m 0), (g0 1).trans (m 1), (g0 2).trans (m 2), (g0 3).trans (m 3), (g0 4).trans (m 4), (g1 2).trans (b 2), (g1 3).trans (b 3)⟩
  have bV : Below (q + 2) w2 w2.drew := (Below.refl _ _).drew
  have sV : q + 2 ≤ w2.drew.heap.size := Nat.le_of_eq hs.symm
  generalize w2.drew = V0 at *
  clear m b
  refine wpAnyH_take (i := 0) (v := .agg #[.int .i64 Xn, .int .i64 Yn, .int .i64 On, .int .i64 Pn, .slice A n c]) rfl (by kernel_rfl) (by kernel_rfl) (by kernel_rfl) (fun _ _ _ h => h) (Or.inl ⟨by rfl, ?_⟩) hS ?_
  · intro U hU
    obtain ⟨q0, q1, q2, q3, q4, q5, q6⟩ := hU
    go_simp
  simp only [Act.put, List.setIfInBounds_toArray, List.set_cons_zero, List.set_cons_succ]
  refine wpAnyH_take (i := 2) (v := .pointer (some ⟨q + 1, 2, none⟩)) rfl (by kernel_rfl) (by kernel_rfl) (by kernel_rfl) (fun _ _ _ h => h) (Or.inl ⟨by rfl, ?_⟩) hS ?_
  · intro U hU
    obtain ⟨q0, q1, q2, q3, q4, q5, q6⟩ := hU
    go_simp
  simp only [Act.put, List.setIfInBounds_toArray, List.set_cons_zero, List.set_cons_succ]
  refine wpAnyH_take (i := 3) (v := .int .i64 dxn) rfl (by kernel_rfl) (by kernel_rfl) (by kernel_rfl) (fun _ _ _ h => h) (Or.inl ⟨by rfl, ?_⟩) hS ?_
  · intro U hU
    obtain ⟨q0, q1, q2, q3, q4, q5, q6⟩ := hU
    go_simp
  simp only [Act.put, List.setIfInBounds_toArray, List.set_cons_zero, List.set_cons_succ]
  refine wpAnyH_take (i := 4) (v := .pointer (some ⟨q + 1, 3, none⟩)) rfl (by kernel_rfl) (by kernel_rfl) (by kernel_rfl) (fun _ _ _ h => h) (Or.inl ⟨by rfl, ?_⟩) hS ?_
  · intro U hU
    obtain ⟨q0, q1, q2, q3, q4, q5, q6⟩ := hU
    go_simp
  simp only [Act.put, List.setIfInBounds_toArray, List.set_cons_zero, List.set_cons_succ]
  refine wpAnyH_take (i := 5) (v := .int .i64 dyn) rfl (by kernel_rfl) (by kernel_rfl) (by kernel_rfl) (fun _ _ _ h => h) (Or.inl ⟨by rfl, ?_⟩) hS ?_
  · intro U hU
    obtain ⟨q0, q1, q2, q3, q4, q5, q6⟩ := hU
    go_simp
  simp only [Act.put, List.setIfInBounds_toArray, List.set_cons_zero, List.set_cons_succ]
  refine wpAnyH_ready (rs := [1]) (by kernel_rfl) (by simp) ?_
  refine AllReadyH.cons (by simp only [List.getElem?_toArray, List.getElem?_cons_succ, List.getElem?_cons_zero]; rfl) (fun K' hK' => ?_) AllReadyH.nil
  go_simp
  go_at_call 37
  refine (HW.out _).mono ?_
  rintro e U0 ⟨rfl, hbu0⟩
  have bu0 := bV.trans (hbu0.mono sV)
  have sV := Nat.le_trans sV hbu0.size
  have hS := hSB _ bu0
  dsimp only
  refine hK'.out _ _ hS (fun _ => ?_)
  clear hbu0
  clear hK' K'
  try simp only [Act.put, List.setIfInBounds_toArray, List.set_cons_zero, List.set_cons_succ]
  refine wpAnyH_ready (rs := [6]) (by kernel_rfl) (by simp) ?_
  refine AllReadyH.cons (by simp only [List.getElem?_toArray, List.getElem?_cons_succ, List.getElem?_cons_zero]; rfl) (fun K' hK' => ?_) AllReadyH.nil
  go_simp
  go_at_call 16
  refine (HP.out _).mono ?_
  rintro e U1 ⟨rfl, hbu1⟩
  have bu1 := bu0.trans (hbu1.mono sV)
  have sV := Nat.le_trans sV hbu1.size
  have hS := hSB _ bu1
  dsimp only
  refine hK'.out _ _ hS (fun _ => ?_)
  clear hbu1
  clear hK' K'
  try simp only [Act.put, List.setIfInBounds_toArray, List.set_cons_zero, List.set_cons_succ]
  refine wpAnyH_ready (rs := [7]) (by kernel_rfl) (by simp) ?_
  refine AllReadyH.cons (by simp only [List.getElem?_toArray, List.getElem?_cons_succ, List.getElem?_cons_zero]; rfl) (fun K' hK' => ?_) AllReadyH.nil
  go_simp
  go_at_call 19
  refine (HA.out _).mono ?_
  rintro e U2 ⟨rfl, hbu2⟩
  have bu2 := bu1.trans (hbu2.mono sV)
  have sV := Nat.le_trans sV hbu2.size
  have hS := hSB _ bu2
  dsimp only
  refine hK'.out _ _ hS (fun _ => ?_)
  clear hbu2
  clear hK' K'
  try simp only [Act.put, List.setIfInBounds_toArray, List.set_cons_zero, List.set_cons_succ]
  refine wpAnyH_take (i := 8) (v := .int .i64 ar) rfl (by kernel_rfl) (by kernel_rfl) (by kernel_rfl) (fun _ _ _ h => h) (Or.inl ⟨by rfl, ?_⟩) hS ?_
  · intro U hU
    obtain ⟨q0, q1, q2, q3, q4, q5, q6⟩ := hU
    go_simp
  simp only [Act.put, List.setIfInBounds_toArray, List.set_cons_zero, List.set_cons_succ]
  refine wpAnyH_done (by kernel_rfl) ?_ _
  simp only [OnlyN]
  try simp only [Act.put, List.getElem_toArray, List.getElem_cons_succ, List.getElem_cons_zero, List.setIfInBounds_toArray, List.set_cons_zero, List.set_cons_succ]
  have hz := bb.trans (bu2.mono (by omega))
  go_wp2_with fail
  go_ret
  exact ⟨rfl, by rw [← hq] at *; exact hz⟩
end Go.Proofs.Ytpgkdpoehkdhcaa
