/- order.spots: the packets of one resolution of a component. -/
import Derived.Test.YtpgkdpoehkdhcaaOrdR
import Derived.Test.YtpgkdpoehkdhcaaStI
import Derived.Test.YtpgkdpoehkdhcaaMadeLaw
import Derived.Deep.LoopGhost
import Derived.Deep.CutBlock
namespace Go.Proofs.Ytpgkdpoehkdhcaa
open Go.RowKit
attribute [local go_sem] opv opnd
set_option maxHeartbeats 40000000
set_option linter.unusedVariables false
set_option linter.unusedSimpArgs false
set_option maxRecDepth 1000000

/-- a precinct's place on the grid, in one way -/
def placeI (t0 q0 pr side dx k : Nat) : Int := mxI (t0 : Int) (((q0 / 2 ^ pr + k) * 2 ^ side * dx : Nat) : Int)
/-- the k-th packet of a resolution -/
def spotK (tx0 ty0 R0 R1 W pr side dx dy r cm k : Nat) : Spot := ⟨0, r, cm, k, placeI tx0 R0 pr side dx (k % W), placeI ty0 R1 pr side dy (k / W), 0, 0, 0, 0, 0, 0⟩
theorem spot_elem : ElemC Try.prog 61 65 12 := elemC_of (.agg #[.int .i64 0, .int .i64 0, .int .i64 0, .int .i64 0, .int .i64 0, .int .i64 0, .int .i64 0, .int .i64 0, .int .i64 0, .int .i64 0, .int .i64 0, .int .i64 0]) 96 (by kernel_rfl) rfl (by omega) (by omega) Try.underlying61
/-- a resolution's numbers, as naturals -/
structure ResN (tx0 ty0 tx1 ty1 dx dy lv r pr R0 R1 R2 R3 W H : Nat) : Prop where
  rs : resR ⟨(byN tx0 dx : Nat), (byN ty0 dy : Nat), (byN tx1 dx : Nat), (byN ty1 dy : Nat)⟩ (lv - r) = ⟨(R0 : Nat), (R1 : Nat), (R2 : Nat), (R3 : Nat)⟩
  bd : R0 ≤ 64 ∧ R1 ≤ 64 ∧ R2 ≤ 64 ∧ R3 ≤ 64
  w : preW ⟨(R0 : Nat), (R1 : Nat), (R2 : Nat), (R3 : Nat)⟩ pr = (W : Int)
  h : preH ⟨(R0 : Nat), (R1 : Nat), (R2 : Nat), (R3 : Nat)⟩ pr = (H : Int)
  wb : W ≤ 65 ∧ H ≤ 65
theorem spots_any (tx0 ty0 tx1 ty1 dx dy lv r pr R0 R1 R2 R3 W H cm : Nat) (dp : Int) (sg : Bool) (DA : Option Addr) (dn dc : Nat) (Tx Ty Cw Ch St Od Ly : Int) (rct sop eph : Bool)
    (ht : tx0 ≤ 64 ∧ ty0 ≤ 64 ∧ tx1 ≤ 64 ∧ ty1 ≤ 64) (hd : 1 ≤ dx ∧ dx ≤ 3 ∧ 1 ≤ dy ∧ dy ≤ 3) (hr : r ≤ lv) (hlv : lv ≤ 10) (hpr : pr ≤ 15) (hcm : cm ≤ 1024) (hR : ResN tx0 ty0 tx1 ty1 dx dy lv r pr R0 R1 R2 R3 W H) (w : World) :
    Calls Try.prog 27 #[.agg #[.int .i64 (tx0 : Int), .int .i64 (ty0 : Int), .int .i64 (tx1 : Int), .int .i64 (ty1 : Int)], .agg #[.int .i64 dp, .bool sg, .int .i64 (dx : Int), .int .i64 (dy : Int), .slice DA dn dc], .agg #[.int .i64 Tx, .int .i64 Ty, .int .i64 (lv : Int), .int .i64 Cw, .int .i64 Ch, .int .i64 (pr : Int), .int .i64 St, .int .i64 Od, .int .i64 Ly, .bool rct, .bool sop, .bool eph], .int .i64 cm, .int .i64 r] w fun e w' => ∃ A c, e = .returned (.slice A (W * H) c) ∧ OwnC w' w.heap.size 65 12 (.slice A (W * H) c) (W * H) (fun k => spotL (spotK tx0 ty0 R0 R1 W pr (pr + lv - r) dx dy r cm k)) ∧ Below w.heap.size w w' := by
  obtain ⟨hrs, hbd, hw, hh, hwb⟩ := hR
  have HPt := Lib.hid (part_any tx0 ty0 tx1 ty1 dx dy (by omega) (by omega) (by omega) (by omega) hd.1 (by omega) hd.2.2.1 (by omega))
  have hb1 : byN tx0 dx ≤ 64 := by have := byN_le (n := tx0) hd.1; omega
  have hb2 : byN ty0 dy ≤ 64 := by have := byN_le (n := ty0) hd.2.2.1; omega
  have hb3 : byN tx1 dx ≤ 64 := by have := byN_le (n := tx1) hd.1; omega
  have hb4 : byN ty1 dy ≤ 64 := by have := byN_le (n := ty1) hd.2.2.1; omega
  have HRs := Lib.hid (resolution_any ⟨(byN tx0 dx : Nat), (byN ty0 dy : Nat), (byN tx1 dx : Nat), (byN ty1 dy : Nat)⟩ lv r (lv - r) (by omega) (by omega) (by omega) (by unfold okR; simp only; omega))
  rw [hrs] at HRs
  have HPc := Lib.hid (precincts_any ⟨(R0 : Nat), (R1 : Nat), (R2 : Nat), (R3 : Nat)⟩ pr (by omega) (by unfold okR; simp only; omega))
  rw [hw, hh] at HPc
  unfold rcV at HPt HRs HPc
  simp only at HPt HRs HPc
  generalize byN tx0 dx = P0 at *
  generalize byN ty0 dy = P1 at *
  generalize byN tx1 dx = P2 at *
  generalize byN ty1 dy = P3 at *
  clear hrs hw hh
  obtain ⟨pl, hpl⟩ : ∃ z, pr + lv = z := ⟨_, rfl⟩
  obtain ⟨side, hsd⟩ : ∃ z, z + r = pl := ⟨pl - r, by omega⟩
  rw [show pr + lv - r = side by omega]
  obtain ⟨N, hN⟩ : ∃ z, W * H = z := ⟨_, rfl⟩
  rw [hN]
  have hNb : N ≤ 4225 := by rw [← hN]; exact Nat.mul_le_mul hwb.1 hwb.2
  obtain ⟨f, hf⟩ : ∃ f : Nat → List Value, (fun k => spotL (spotK tx0 ty0 R0 R1 W pr side dx dy r cm k)) = f := ⟨_, rfl⟩
  rw [hf]
  have HF := Lib.hid hf
  have V3 := Lib.hid (show IntKind.i64.wrap ((W : Int) * (H : Int)) = (N : Int) by rw [← Int.natCast_mul, hN, IntKind.wrap_i64]; omega)
  have hN2 := Lib.hid hN
  clear hf hN
  obtain ⟨q, hq⟩ : ∃ q, w.heap.size = q := ⟨_, rfl⟩
  go_enter Try.func27, Try.ntmps27
  go_upto_region 1 with fail
  generalize hW0 : World.alloc (World.alloc (World.alloc w _) _) _ = W0
  have rt0 : W0.heap[q]? = some (.cells #[.int .i64 (tx0 : Int), .int .i64 (ty0 : Int), .int .i64 (tx1 : Int), .int .i64 (ty1 : Int)] 38 (0, 0)) := by rw [← hW0, ← hq]; exact (Below.heap_alloc _ _ _ (by simp; omega)).trans ((Below.heap_alloc _ _ _ (by simp)).trans (heap_alloc_new w _))
  have rc0 : W0.heap[q + 1]? = some (.cells #[.int .i64 dp, .bool sg, .int .i64 (dx : Int), .int .i64 (dy : Int), .slice DA dn dc] 48 (0, 0)) := by rw [← hW0, ← hq]; exact (Below.heap_alloc _ _ _ (by simp)).trans (heap_alloc_new2 w _ _)
  have rp0 : W0.heap[q + 2]? = some (.cells #[.int .i64 Tx, .int .i64 Ty, .int .i64 (lv : Int), .int .i64 Cw, .int .i64 Ch, .int .i64 (pr : Int), .int .i64 St, .int .i64 Od, .int .i64 Ly, .bool rct, .bool sop, .bool eph] 30 (0, 0)) := by rw [← hW0, ← hq]; exact (by simpa using heap_alloc_new (World.alloc (World.alloc w _) _) _)
  have z0 : W0.heap.size = q + 3 := by rw [← hW0, ← hq]; simp
  have b_0 : Below q w W0 := by rw [← hW0, ← hq]; exact below_alloc (below_alloc (below_alloc (Below.refl _ _) _) _) _
  clear hW0
  refine last_cut (by kernel_rfl) (fun U => U.heap[q]? = some (.cells #[.int .i64 (tx0 : Int), .int .i64 (ty0 : Int), .int .i64 (tx1 : Int), .int .i64 (ty1 : Int)] 38 (0, 0)) ∧ U.heap[q + 1]? = some (.cells #[.int .i64 dp, .bool sg, .int .i64 (dx : Int), .int .i64 (dy : Int), .slice DA dn dc] 48 (0, 0)) ∧ U.heap[q + 2]? = some (.cells #[.int .i64 Tx, .int .i64 Ty, .int .i64 (lv : Int), .int .i64 Cw, .int .i64 Ch, .int .i64 (pr : Int), .int .i64 St, .int .i64 Od, .int .i64 Ly, .bool rct, .bool sop, .bool eph] 30 (0, 0))) (fun aF a' W' => ∃ g9, a' = (((((((((((aF.put (some 19) (.agg #[.int .i64 (tx0 : Int), .int .i64 (ty0 : Int), .int .i64 (tx1 : Int), .int .i64 (ty1 : Int)])).put (some 20) (.pointer (some ⟨q + 1, 2, none⟩))).put (some 21) (.int .i64 (dx : Int))).put (some 22) (.pointer (some ⟨q + 1, 3, none⟩))).put (some 23) (.int .i64 (dy : Int))).put (some 24) (.agg #[.int .i64 (P0 : Int), .int .i64 (P1 : Int), .int .i64 (P2 : Int), .int .i64 (P3 : Int)])).put (some 25) (.pointer (some ⟨q + 2, 2, none⟩))).put (some 26) (.int .i64 (lv : Int))).put (some 27) (.int .i64 (r : Int))).put (some 28) (.agg #[.int .i64 (R0 : Int), .int .i64 (R1 : Int), .int .i64 (R2 : Int), .int .i64 (R3 : Int)])).put (some 11) (.pointer (some ⟨g9, 0, none⟩))) ∧ W'.heap[g9]? = some (.cells #[.int .i64 (R0 : Int), .int .i64 (R1 : Int), .int .i64 (R2 : Int), .int .i64 (R3 : Int)] 38 (0, 0)) ∧ W0.heap.size ≤ g9 ∧ g9 < W'.heap.size ∧ Below W0.heap.size W0 W') ⟨rt0, rc0, rp0⟩ (fun hS => ?_) ?_
  · skip
    have hSB : ∀ U : World, Below (W0.heap.size) W0 U → U.heap[q]? = some (.cells #[.int .i64 (tx0 : Int), .int .i64 (ty0 : Int), .int .i64 (tx1 : Int), .int .i64 (ty1 : Int)] 38 (0, 0)) ∧ U.heap[q + 1]? = some (.cells #[.int .i64 dp, .bool sg, .int .i64 (dx : Int), .int .i64 (dy : Int), .slice DA dn dc] 48 (0, 0)) ∧ U.heap[q + 2]? = some (.cells #[.int .i64 Tx, .int .i64 Ty, .int .i64 (lv : Int), .int .i64 Cw, .int .i64 Ch, .int .i64 (pr : Int), .int .i64 St, .int .i64 Od, .int .i64 Ly, .bool rct, .bool sop, .bool eph] 30 (0, 0)) := fun U h => ⟨(h.block (q) (by omega)).trans (rt0), (h.block (q + 1) (by omega)).trans (rc0), (h.block (q + 2) (by omega)).trans (rp0)⟩
    have bV : Below W0.heap.size W0 W0.drew := (Below.refl _ _).drew
    generalize W0.drew = V0 at *
    change wpAnyL _ _ _ _ _ 12 #[false, false, false, false, false, false, false, false, false, false, false, false] _ _
    refine wpAnyL_take (i := 0) (v := .agg #[.int .i64 (tx0 : Int), .int .i64 (ty0 : Int), .int .i64 (tx1 : Int), .int .i64 (ty1 : Int)]) (by simp only [List.getElem?_toArray, List.getElem?_cons_succ, List.getElem?_cons_zero]; rfl) (by as_aux_lemma => kernel_rfl) (by as_aux_lemma => kernel_rfl) (by as_aux_lemma => kernel_rfl) (fun _ _ _ h => h) (Or.inl ⟨by rfl, ?_⟩) hS ?_
    · intro U hU
      obtain ⟨s0, s1, s2⟩ := hU
      exact exec_loadRow (cs := [.int .i64 (tx0 : Int), .int .i64 (ty0 : Int), .int .i64 (tx1 : Int), .int .i64 (ty1 : Int)]) rfl rfl s0 (by kernel_rfl) (by kernel_rfl)
    simp only [Act.put, List.setIfInBounds_toArray, List.set_cons_zero, List.set_cons_succ]
    refine wpAnyL_take (i := 1) (v := .pointer (some ⟨q + 1, 2, none⟩)) (by simp only [List.getElem?_toArray, List.getElem?_cons_succ, List.getElem?_cons_zero]; rfl) (by as_aux_lemma => kernel_rfl) (by as_aux_lemma => kernel_rfl) (by as_aux_lemma => kernel_rfl) (fun _ _ _ h => h) (Or.inl ⟨by rfl, ?_⟩) hS ?_
    · intro U hU
      obtain ⟨s0, s1, s2⟩ := hU
      kernel_rfl
    simp only [Act.put, List.setIfInBounds_toArray, List.set_cons_zero, List.set_cons_succ]
    refine wpAnyL_take (i := 2) (v := .int .i64 (dx : Int)) (by simp only [List.getElem?_toArray, List.getElem?_cons_succ, List.getElem?_cons_zero]; rfl) (by as_aux_lemma => kernel_rfl) (by as_aux_lemma => kernel_rfl) (by as_aux_lemma => kernel_rfl) (fun _ _ _ h => h) (Or.inl ⟨by rfl, ?_⟩) hS ?_
    · intro U hU
      obtain ⟨s0, s1, s2⟩ := hU
      have r1_2 : U.cell? ⟨q + 1, 2, none⟩ = some (.int .i64 (dx : Int)) := cell_of_row _ _ 2 _ _ (0, 0) s1
      exact exec_loadCell rfl rfl r1_2 (by kernel_rfl)
    simp only [Act.put, List.setIfInBounds_toArray, List.set_cons_zero, List.set_cons_succ]
    refine wpAnyL_take (i := 3) (v := .pointer (some ⟨q + 1, 3, none⟩)) (by simp only [List.getElem?_toArray, List.getElem?_cons_succ, List.getElem?_cons_zero]; rfl) (by as_aux_lemma => kernel_rfl) (by as_aux_lemma => kernel_rfl) (by as_aux_lemma => kernel_rfl) (fun _ _ _ h => h) (Or.inl ⟨by rfl, ?_⟩) hS ?_
    · intro U hU
      obtain ⟨s0, s1, s2⟩ := hU
      kernel_rfl
    simp only [Act.put, List.setIfInBounds_toArray, List.set_cons_zero, List.set_cons_succ]
    refine wpAnyL_take (i := 4) (v := .int .i64 (dy : Int)) (by simp only [List.getElem?_toArray, List.getElem?_cons_succ, List.getElem?_cons_zero]; rfl) (by as_aux_lemma => kernel_rfl) (by as_aux_lemma => kernel_rfl) (by as_aux_lemma => kernel_rfl) (fun _ _ _ h => h) (Or.inl ⟨by rfl, ?_⟩) hS ?_
    · intro U hU
      obtain ⟨s0, s1, s2⟩ := hU
      have r1_3 : U.cell? ⟨q + 1, 3, none⟩ = some (.int .i64 (dy : Int)) := cell_of_row _ _ 3 _ _ (0, 0) s1
      exact exec_loadCell rfl rfl r1_3 (by kernel_rfl)
    simp only [Act.put, List.setIfInBounds_toArray, List.set_cons_zero, List.set_cons_succ]
    refine wpAnyL_take (i := 6) (v := .pointer (some ⟨q + 2, 2, none⟩)) (by simp only [List.getElem?_toArray, List.getElem?_cons_succ, List.getElem?_cons_zero]; rfl) (by as_aux_lemma => kernel_rfl) (by as_aux_lemma => kernel_rfl) (by as_aux_lemma => kernel_rfl) (fun _ _ _ h => h) (Or.inl ⟨by rfl, ?_⟩) hS ?_
    · intro U hU
      obtain ⟨s0, s1, s2⟩ := hU
      kernel_rfl
    simp only [Act.put, List.setIfInBounds_toArray, List.set_cons_zero, List.set_cons_succ]
    refine wpAnyL_take (i := 7) (v := .int .i64 (lv : Int)) (by simp only [List.getElem?_toArray, List.getElem?_cons_succ, List.getElem?_cons_zero]; rfl) (by as_aux_lemma => kernel_rfl) (by as_aux_lemma => kernel_rfl) (by as_aux_lemma => kernel_rfl) (fun _ _ _ h => h) (Or.inl ⟨by rfl, ?_⟩) hS ?_
    · intro U hU
      obtain ⟨s0, s1, s2⟩ := hU
      have r2_2 : U.cell? ⟨q + 2, 2, none⟩ = some (.int .i64 (lv : Int)) := cell_of_row _ _ 2 _ _ (0, 0) s2
      exact exec_loadCell rfl rfl r2_2 (by kernel_rfl)
    simp only [Act.put, List.setIfInBounds_toArray, List.set_cons_zero, List.set_cons_succ]
    refine wpAnyL_take (i := 8) (v := .int .i64 (r : Int)) (by simp only [List.getElem?_toArray, List.getElem?_cons_succ, List.getElem?_cons_zero]; rfl) (by as_aux_lemma => kernel_rfl) (by as_aux_lemma => kernel_rfl) (by as_aux_lemma => kernel_rfl) (fun _ _ _ h => h) (Or.inl ⟨by rfl, ?_⟩) hS ?_
    · intro U hU
      obtain ⟨s0, s1, s2⟩ := hU
      kernel_rfl
    simp only [Act.put, List.setIfInBounds_toArray, List.set_cons_zero, List.set_cons_succ]
    refine wpAnyL_ready (rs := [5, 10]) (by as_aux_lemma => kernel_rfl) (by simp) ?_
    refine AllReadyL.cons (by simp only [List.getElem?_toArray, List.getElem?_cons_succ, List.getElem?_cons_zero]; rfl) (fun K' hK' => ?_) (AllReadyL.cons (by simp only [List.getElem?_toArray, List.getElem?_cons_succ, List.getElem?_cons_zero]; rfl) (fun K' hK' => ?_) AllReadyL.nil)
    · go_simp
      go_at_call 44
      refine (HPt.out _).mono ?_
      rintro e' U5 ⟨rfl, hb5⟩
      have b5 := below_trans bV hb5
      have hS := hSB _ b5
      dsimp only
      refine hK'.out _ _ hS (fun _ => ?_)
      clear hb5 bV
      clear hK' K'
      try simp only [Act.put, List.setIfInBounds_toArray, List.set_cons_zero, List.set_cons_succ]
      refine wpAnyL_ready (rs := [9, 10]) (by as_aux_lemma => kernel_rfl) (by simp) ?_
      refine AllReadyL.cons (by simp only [List.getElem?_toArray, List.getElem?_cons_succ, List.getElem?_cons_zero]; rfl) (fun K' hK' => ?_) (AllReadyL.cons (by simp only [List.getElem?_toArray, List.getElem?_cons_succ, List.getElem?_cons_zero]; rfl) (fun K' hK' => ?_) AllReadyL.nil)
      · go_simp
        go_at_call 43
        refine (HRs.out _).mono ?_
        rintro e' U9 ⟨rfl, hb9⟩
        have b9 := below_trans b5 hb9
        have hS := hSB _ b9
        dsimp only
        refine hK'.out _ _ hS (fun _ => ?_)
        clear hb9 b5
        clear hK' K'
        try simp only [Act.put, List.setIfInBounds_toArray, List.set_cons_zero, List.set_cons_succ]
        refine wpAnyL_ready (rs := [10]) (by as_aux_lemma => kernel_rfl) (by simp) ?_
        refine AllReadyL.cons (by simp only [List.getElem?_toArray, List.getElem?_cons_succ, List.getElem?_cons_zero]; rfl) (fun K' hK' => ?_) AllReadyL.nil
        go_simp
        have hb10 := below_alloc (Below.refl U9.heap.size U9) (.cells #[.int .i64 0, .int .i64 0, .int .i64 0, .int .i64 0] 38)
        obtain ⟨g9, hg9⟩ : ∃ g, U9.heap.size = g := ⟨_, rfl⟩
        have x9 := heap_alloc_new U9 (.cells #[.int .i64 0, .int .i64 0, .int .i64 0, .int .i64 0] 38)
        have l9 : U9.heap.size < (U9.alloc (.cells #[.int .i64 0, .int .i64 0, .int .i64 0, .int .i64 0] 38)).heap.size := by simp
        have y9 : W0.heap.size ≤ U9.heap.size := b9.size
        have b10 := below_alloc b9 (.cells #[.int .i64 0, .int .i64 0, .int .i64 0, .int .i64 0] 38)
        generalize U9.alloc (.cells #[.int .i64 0, .int .i64 0, .int .i64 0, .int .i64 0] 38) = U10 at *
        rw [hg9] at x9 l9 y9 ⊢
        clear hg9 hb10 b9
        have hS := hSB _ b10
        refine hK'.out _ _ hS (fun _ => ?_)
        clear hK' K'
        try simp only [Act.put, List.setIfInBounds_toArray, List.set_cons_zero, List.set_cons_succ]
        refine wpAnyL_ready (rs := [11]) (by as_aux_lemma => kernel_rfl) (by simp) ?_
        refine AllReadyL.last (by simp only [List.getElem?_toArray, List.getElem?_cons_succ, List.getElem?_cons_zero]; rfl) (by as_aux_lemma => kernel_rfl) (fun K' hK' => ?_)
        have d0 : U10.cell? ⟨g9, 0, none⟩ = some (.int .i64 0) := cell_of_row _ _ 0 _ _ (0, 0) x9
        have d1 : U10.cell? ⟨g9, 1, none⟩ = some (.int .i64 0) := cell_of_row _ _ 1 _ _ (0, 0) x9
        have d2 : U10.cell? ⟨g9, 2, none⟩ = some (.int .i64 0) := cell_of_row _ _ 2 _ _ (0, 0) x9
        have d3 : U10.cell? ⟨g9, 3, none⟩ = some (.int .i64 0) := cell_of_row _ _ 3 _ _ (0, 0) x9
        have dz : ∀ i, U10.frozen? ⟨g9, i, none⟩ = false := fun i => frozen_of_row _ _ i _ _ x9
        go_simp
        obtain ⟨U11, hV, x9', b11⟩ : ∃ V, ((((U10.setCell ⟨g9, 0, none⟩ (.int .i64 (R0 : Int))).setCell ⟨g9, 1, none⟩ (.int .i64 (R1 : Int))).setCell ⟨g9, 2, none⟩ (.int .i64 (R2 : Int))).setCell ⟨g9, 3, none⟩ (.int .i64 (R3 : Int))) = V ∧ V.heap[g9]? = some (.cells #[.int .i64 (R0 : Int), .int .i64 (R1 : Int), .int .i64 (R2 : Int), .int .i64 (R3 : Int)] 38 (0, 0)) ∧ Below W0.heap.size W0 V := ⟨_, rfl, setRow_at (old := [.int .i64 0, .int .i64 0, .int .i64 0, .int .i64 0]) [.int .i64 (R0 : Int), .int .i64 (R1 : Int), .int .i64 (R2 : Int), .int .i64 (R3 : Int)] rfl x9, setRow_below y9 [.int .i64 (R0 : Int), .int .i64 (R1 : Int), .int .i64 (R2 : Int), .int .i64 (R3 : Int)] 0 _ b10⟩
        have l9' : g9 < U11.heap.size := (Array.getElem?_eq_some_iff.1 x9').1
        rw [hV]
        clear hV
        refine hK'.out _ _ (?_)
        clear d0 d1 d2 d3 dz
        clear hK' K'
        try simp only [Act.put, List.setIfInBounds_toArray, List.set_cons_zero, List.set_cons_succ]
        refine wpAnyL_done (by as_aux_lemma => kernel_rfl) ?_ _
        simp only [OnlyN]
        refine ⟨g9, ?_, x9', y9, l9', b11⟩
        (try simp only [Act.put, List.setIfInBounds_toArray, List.set_cons_zero, List.set_cons_succ])
      · go_simp
        have hb10 := below_alloc (Below.refl U5.heap.size U5) (.cells #[.int .i64 0, .int .i64 0, .int .i64 0, .int .i64 0] 38)
        obtain ⟨g9, hg9⟩ : ∃ g, U5.heap.size = g := ⟨_, rfl⟩
        have x9 := heap_alloc_new U5 (.cells #[.int .i64 0, .int .i64 0, .int .i64 0, .int .i64 0] 38)
        have l9 : U5.heap.size < (U5.alloc (.cells #[.int .i64 0, .int .i64 0, .int .i64 0, .int .i64 0] 38)).heap.size := by simp
        have y9 : W0.heap.size ≤ U5.heap.size := b5.size
        have b10 := below_alloc b5 (.cells #[.int .i64 0, .int .i64 0, .int .i64 0, .int .i64 0] 38)
        generalize U5.alloc (.cells #[.int .i64 0, .int .i64 0, .int .i64 0, .int .i64 0] 38) = U10 at *
        rw [hg9] at x9 l9 y9 ⊢
        clear hg9 hb10 b5
        have hS := hSB _ b10
        refine hK'.out _ _ hS (fun _ => ?_)
        clear hK' K'
        try simp only [Act.put, List.setIfInBounds_toArray, List.set_cons_zero, List.set_cons_succ]
        refine wpAnyL_ready (rs := [9]) (by as_aux_lemma => kernel_rfl) (by simp) ?_
        refine AllReadyL.cons (by simp only [List.getElem?_toArray, List.getElem?_cons_succ, List.getElem?_cons_zero]; rfl) (fun K' hK' => ?_) AllReadyL.nil
        go_simp
        go_at_call 43
        refine (HRs.out _).mono ?_
        rintro e' U9 ⟨rfl, hb9⟩
        replace x9 := (hb9.block g9 l9).trans x9
        replace l9 := Nat.lt_of_lt_of_le l9 hb9.size
        have b9 := below_trans b10 hb9
        have hS := hSB _ b9
        dsimp only
        refine hK'.out _ _ hS (fun _ => ?_)
        clear hb9 b10
        clear hK' K'
        try simp only [Act.put, List.setIfInBounds_toArray, List.set_cons_zero, List.set_cons_succ]
        refine wpAnyL_ready (rs := [11]) (by as_aux_lemma => kernel_rfl) (by simp) ?_
        refine AllReadyL.last (by simp only [List.getElem?_toArray, List.getElem?_cons_succ, List.getElem?_cons_zero]; rfl) (by as_aux_lemma => kernel_rfl) (fun K' hK' => ?_)
        have d0 : U9.cell? ⟨g9, 0, none⟩ = some (.int .i64 0) := cell_of_row _ _ 0 _ _ (0, 0) x9
        have d1 : U9.cell? ⟨g9, 1, none⟩ = some (.int .i64 0) := cell_of_row _ _ 1 _ _ (0, 0) x9
        have d2 : U9.cell? ⟨g9, 2, none⟩ = some (.int .i64 0) := cell_of_row _ _ 2 _ _ (0, 0) x9
        have d3 : U9.cell? ⟨g9, 3, none⟩ = some (.int .i64 0) := cell_of_row _ _ 3 _ _ (0, 0) x9
        have dz : ∀ i, U9.frozen? ⟨g9, i, none⟩ = false := fun i => frozen_of_row _ _ i _ _ x9
        go_simp
        obtain ⟨U11, hV, x9', b11⟩ : ∃ V, ((((U9.setCell ⟨g9, 0, none⟩ (.int .i64 (R0 : Int))).setCell ⟨g9, 1, none⟩ (.int .i64 (R1 : Int))).setCell ⟨g9, 2, none⟩ (.int .i64 (R2 : Int))).setCell ⟨g9, 3, none⟩ (.int .i64 (R3 : Int))) = V ∧ V.heap[g9]? = some (.cells #[.int .i64 (R0 : Int), .int .i64 (R1 : Int), .int .i64 (R2 : Int), .int .i64 (R3 : Int)] 38 (0, 0)) ∧ Below W0.heap.size W0 V := ⟨_, rfl, setRow_at (old := [.int .i64 0, .int .i64 0, .int .i64 0, .int .i64 0]) [.int .i64 (R0 : Int), .int .i64 (R1 : Int), .int .i64 (R2 : Int), .int .i64 (R3 : Int)] rfl x9, setRow_below y9 [.int .i64 (R0 : Int), .int .i64 (R1 : Int), .int .i64 (R2 : Int), .int .i64 (R3 : Int)] 0 _ b9⟩
        have l9' : g9 < U11.heap.size := (Array.getElem?_eq_some_iff.1 x9').1
        rw [hV]
        clear hV
        refine hK'.out _ _ (?_)
        clear d0 d1 d2 d3 dz
        clear hK' K'
        try simp only [Act.put, List.setIfInBounds_toArray, List.set_cons_zero, List.set_cons_succ]
        refine wpAnyL_done (by as_aux_lemma => kernel_rfl) ?_ _
        simp only [OnlyN]
        refine ⟨g9, ?_, x9', y9, l9', b11⟩
        (try simp only [Act.put, List.setIfInBounds_toArray, List.set_cons_zero, List.set_cons_succ])
    · go_simp
      have hb10 := below_alloc (Below.refl V0.heap.size V0) (.cells #[.int .i64 0, .int .i64 0, .int .i64 0, .int .i64 0] 38)
      obtain ⟨g9, hg9⟩ : ∃ g, V0.heap.size = g := ⟨_, rfl⟩
      have x9 := heap_alloc_new V0 (.cells #[.int .i64 0, .int .i64 0, .int .i64 0, .int .i64 0] 38)
      have l9 : V0.heap.size < (V0.alloc (.cells #[.int .i64 0, .int .i64 0, .int .i64 0, .int .i64 0] 38)).heap.size := by simp
      have y9 : W0.heap.size ≤ V0.heap.size := bV.size
      have b10 := below_alloc bV (.cells #[.int .i64 0, .int .i64 0, .int .i64 0, .int .i64 0] 38)
      generalize V0.alloc (.cells #[.int .i64 0, .int .i64 0, .int .i64 0, .int .i64 0] 38) = U10 at *
      rw [hg9] at x9 l9 y9 ⊢
      clear hg9 hb10 bV
      have hS := hSB _ b10
      refine hK'.out _ _ hS (fun _ => ?_)
      clear hK' K'
      try simp only [Act.put, List.setIfInBounds_toArray, List.set_cons_zero, List.set_cons_succ]
      refine wpAnyL_ready (rs := [5]) (by as_aux_lemma => kernel_rfl) (by simp) ?_
      refine AllReadyL.cons (by simp only [List.getElem?_toArray, List.getElem?_cons_succ, List.getElem?_cons_zero]; rfl) (fun K' hK' => ?_) AllReadyL.nil
      go_simp
      go_at_call 44
      refine (HPt.out _).mono ?_
      rintro e' U5 ⟨rfl, hb5⟩
      replace x9 := (hb5.block g9 l9).trans x9
      replace l9 := Nat.lt_of_lt_of_le l9 hb5.size
      have b5 := below_trans b10 hb5
      have hS := hSB _ b5
      dsimp only
      refine hK'.out _ _ hS (fun _ => ?_)
      clear hb5 b10
      clear hK' K'
      try simp only [Act.put, List.setIfInBounds_toArray, List.set_cons_zero, List.set_cons_succ]
      refine wpAnyL_ready (rs := [9]) (by as_aux_lemma => kernel_rfl) (by simp) ?_
      refine AllReadyL.cons (by simp only [List.getElem?_toArray, List.getElem?_cons_succ, List.getElem?_cons_zero]; rfl) (fun K' hK' => ?_) AllReadyL.nil
      go_simp
      go_at_call 43
      refine (HRs.out _).mono ?_
      rintro e' U9 ⟨rfl, hb9⟩
      replace x9 := (hb9.block g9 l9).trans x9
      replace l9 := Nat.lt_of_lt_of_le l9 hb9.size
      have b9 := below_trans b5 hb9
      have hS := hSB _ b9
      dsimp only
      refine hK'.out _ _ hS (fun _ => ?_)
      clear hb9 b5
      clear hK' K'
      try simp only [Act.put, List.setIfInBounds_toArray, List.set_cons_zero, List.set_cons_succ]
      refine wpAnyL_ready (rs := [11]) (by as_aux_lemma => kernel_rfl) (by simp) ?_
      refine AllReadyL.last (by simp only [List.getElem?_toArray, List.getElem?_cons_succ, List.getElem?_cons_zero]; rfl) (by as_aux_lemma => kernel_rfl) (fun K' hK' => ?_)
      have d0 : U9.cell? ⟨g9, 0, none⟩ = some (.int .i64 0) := cell_of_row _ _ 0 _ _ (0, 0) x9
      have d1 : U9.cell? ⟨g9, 1, none⟩ = some (.int .i64 0) := cell_of_row _ _ 1 _ _ (0, 0) x9
      have d2 : U9.cell? ⟨g9, 2, none⟩ = some (.int .i64 0) := cell_of_row _ _ 2 _ _ (0, 0) x9
      have d3 : U9.cell? ⟨g9, 3, none⟩ = some (.int .i64 0) := cell_of_row _ _ 3 _ _ (0, 0) x9
      have dz : ∀ i, U9.frozen? ⟨g9, i, none⟩ = false := fun i => frozen_of_row _ _ i _ _ x9
      go_simp
      obtain ⟨U11, hV, x9', b11⟩ : ∃ V, ((((U9.setCell ⟨g9, 0, none⟩ (.int .i64 (R0 : Int))).setCell ⟨g9, 1, none⟩ (.int .i64 (R1 : Int))).setCell ⟨g9, 2, none⟩ (.int .i64 (R2 : Int))).setCell ⟨g9, 3, none⟩ (.int .i64 (R3 : Int))) = V ∧ V.heap[g9]? = some (.cells #[.int .i64 (R0 : Int), .int .i64 (R1 : Int), .int .i64 (R2 : Int), .int .i64 (R3 : Int)] 38 (0, 0)) ∧ Below W0.heap.size W0 V := ⟨_, rfl, setRow_at (old := [.int .i64 0, .int .i64 0, .int .i64 0, .int .i64 0]) [.int .i64 (R0 : Int), .int .i64 (R1 : Int), .int .i64 (R2 : Int), .int .i64 (R3 : Int)] rfl x9, setRow_below y9 [.int .i64 (R0 : Int), .int .i64 (R1 : Int), .int .i64 (R2 : Int), .int .i64 (R3 : Int)] 0 _ b9⟩
      have l9' : g9 < U11.heap.size := (Array.getElem?_eq_some_iff.1 x9').1
      rw [hV]
      clear hV
      refine hK'.out _ _ (?_)
      clear d0 d1 d2 d3 dz
      clear hK' K'
      try simp only [Act.put, List.setIfInBounds_toArray, List.set_cons_zero, List.set_cons_succ]
      refine wpAnyL_done (by as_aux_lemma => kernel_rfl) ?_ _
      simp only [OnlyN]
      refine ⟨g9, ?_, x9', y9, l9', b11⟩
      (try simp only [Act.put, List.setIfInBounds_toArray, List.set_cons_zero, List.set_cons_succ])
  rintro a' W1 ⟨g, rfl, rg1, y9, l9, h1⟩
  simp only [Act.put, List.setIfInBounds_toArray, List.set_cons_zero, List.set_cons_succ]
  have rt1 := (h1.block q (by omega)).trans rt0
  have rc1 := (h1.block (q + 1) (by omega)).trans rc0
  have rp1 := (h1.block (q + 2) (by omega)).trans rp0
  have b_1 := b_0.trans (h1.mono (by omega))
  have z1 : q + 3 ≤ g := by omega
  clear h1 rt0 rc0 rp0 b_0 z0 y9 HPt HRs
  have gc0 : W1.cell? ⟨g, 0, none⟩ = some (.int .i64 (R0 : Int)) := cell_of_row _ _ 0 _ _ (0, 0) rg1
  have gc1 : W1.cell? ⟨g, 1, none⟩ = some (.int .i64 (R1 : Int)) := cell_of_row _ _ 1 _ _ (0, 0) rg1
  have gc2 : W1.cell? ⟨g, 2, none⟩ = some (.int .i64 (R2 : Int)) := cell_of_row _ _ 2 _ _ (0, 0) rg1
  have gc3 : W1.cell? ⟨g, 3, none⟩ = some (.int .i64 (R3 : Int)) := cell_of_row _ _ 3 _ _ (0, 0) rg1
  have pc5 : W1.cell? ⟨q + 2, 5, none⟩ = some (.int .i64 (pr : Int)) := cell_of_row _ _ 5 _ _ (0, 0) rp1
  have pc2 : W1.cell? ⟨q + 2, 2, none⟩ = some (.int .i64 (lv : Int)) := cell_of_row _ _ 2 _ _ (0, 0) rp1
  go_wp2_with fail
  refine (HPc.out W1).mono ?_
  rintro e' W2 ⟨rfl, h2⟩
  have rt2 := (h2.block q (by omega)).trans rt1
  have rc2 := (h2.block (q + 1) (by omega)).trans rc1
  have rp2 := (h2.block (q + 2) (by omega)).trans rp1
  have rg2 := (h2.block g (by omega)).trans rg1
  have b_2 := b_1.trans (h2.mono (by omega))
  have l2 : g < W2.heap.size := Nat.lt_of_lt_of_le l9 h2.size
  clear h2 rt1 rc1 rp1 rg1 b_1 l9 HPc gc0 gc1 gc2 gc3 pc5 pc2
  have V1 := wrap_add hpl (by omega)
  have V2 := wrap_sub hsd (by omega)
  have V3 := V3.out
  have pc5 : W2.cell? ⟨q + 2, 5, none⟩ = some (.int .i64 (pr : Int)) := cell_of_row _ _ 5 _ _ (0, 0) rp2
  have pc2 : W2.cell? ⟨q + 2, 2, none⟩ = some (.int .i64 (lv : Int)) := cell_of_row _ _ 2 _ _ (0, 0) rp2
  obtain ⟨B, hB⟩ : ∃ z, W2.heap.size = z := ⟨_, rfl⟩
  rw [hB] at l2
  go_wp2_with fail
  clear V1 V2 V3 pc5 pc2
  go_loopg [15, 46] N (fun kx s15 s46 wr => ∃ (k : Nat) (A : Option Addr) (c : Nat), s15 = .slice A k c ∧ s46 = .int .i64 (k : Int) ∧ k ≤ N ∧ N - k ≤ kx ∧ Hid (OwnC wr B 65 12 (.slice A k c) k f) ∧ Hid (Below B W2 wr))
  case atStart => exact ⟨0, none, 0, rfl, rfl, by omega, by omega, Lib.hid (OwnC.nil_ _ _ _ _ _ (fun k => by rw [← HF.out]; rfl)), Lib.hid (Below.refl _ _)⟩
  case round =>
    obtain ⟨k, A, c, rfl, rfl, hkN, hk, HO, HB⟩ := hrel
    by_cases hlt : k < N
    · have hltz : (k : Int) < (N : Int) := by omega
      have hW0 : 0 < W := by
        have h := hN2.out
        rcases Nat.eq_zero_or_pos W with h0 | h0
        · rw [h0, Nat.zero_mul] at h; omega
        · exact h0
      obtain ⟨fx, hfx⟩ : ∃ z, R0 / 2 ^ pr = z := ⟨_, rfl⟩
      obtain ⟨fy, hfy⟩ : ∃ z, R1 / 2 ^ pr = z := ⟨_, rfl⟩
      obtain ⟨km, hkm⟩ : ∃ z, k % W = z := ⟨_, rfl⟩
      obtain ⟨kd, hkd⟩ : ∃ z, k / W = z := ⟨_, rfl⟩
      obtain ⟨xq, hxq⟩ : ∃ z, fx + km = z := ⟨_, rfl⟩
      obtain ⟨yq, hyq⟩ : ∃ z, fy + kd = z := ⟨_, rfl⟩
      have b1 : fx ≤ 64 := by rw [← hfx]; exact Nat.le_trans (Nat.div_le_self _ _) hbd.1
      have b2 : fy ≤ 64 := by rw [← hfy]; exact Nat.le_trans (Nat.div_le_self _ _) hbd.2.1
      have b3 : km < W := by rw [← hkm]; exact Nat.mod_lt _ hW0
      have b4 : kd ≤ 4225 := by rw [← hkd]; exact Nat.le_trans (Nat.div_le_self _ _) (by omega)
      have Z1 := Lib.hid (show (R0 : Int) / 2 ^ pr = (fx : Int) by rw [← hfx, Int.natCast_ediv, Int.natCast_pow]; rfl)
      have Z2 := Lib.hid (show (R1 : Int) / 2 ^ pr = (fy : Int) by rw [← hfy, Int.natCast_ediv, Int.natCast_pow]; rfl)
      have Z3 := Lib.hid (show Int.tmod (k : Int) (W : Int) = (km : Int) by rw [← hkm]; rfl)
      have Z4 := Lib.hid (show Int.tdiv (k : Int) (W : Int) = (kd : Int) by rw [← hkd]; rfl)
      have Z5 := Lib.hid (wrap_add hxq (by omega))
      have Z6 := Lib.hid (wrap_add hyq (by omega))
      have Z7 := Lib.hid (show (pr : Int) ≤ 64 by omega)
      have Z8 := Lib.hid (show ¬ W = 0 by omega)
      have Z16 := Lib.hid (show IntKind.i64.wrap (kd : Int) = (kd : Int) by rw [IntKind.wrap_i64]; omega)
      obtain ⟨xs, hxs⟩ : ∃ z, xq * 2 ^ side = z := ⟨_, rfl⟩
      obtain ⟨ys, hys⟩ : ∃ z, yq * 2 ^ side = z := ⟨_, rfl⟩
      have hp2 : 2 ^ side ≤ 2 ^ 25 := Nat.pow_le_pow_right (by omega) (by omega)
      have b5 : xs ≤ 129 * 2 ^ 25 := by rw [← hxs]; exact Nat.mul_le_mul (by omega) hp2
      have b6 : ys ≤ 4289 * 2 ^ 25 := by rw [← hys]; exact Nat.mul_le_mul (by omega) hp2
      clear hp2
      have b5' : xs ≤ 4328521728 := by omega
      have b6' : ys ≤ 143914958848 := by omega
      clear b5 b6
      obtain ⟨xm, hxm⟩ : ∃ z, xs * dx = z := ⟨_, rfl⟩
      obtain ⟨ym, hym⟩ : ∃ z, ys * dy = z := ⟨_, rfl⟩
      have b7 : xm ≤ 4328521728 * 3 := by rw [← hxm]; exact Nat.mul_le_mul b5' hd.2.1
      have b8 : ym ≤ 143914958848 * 3 := by rw [← hym]; exact Nat.mul_le_mul b6' hd.2.2.2
      have Z9 := Lib.hid (show IntKind.i64.wrap ((xq : Int) * 2 ^ side) = (xs : Int) by rw [show (xq : Int) * 2 ^ side = ((xq * 2 ^ side : Nat) : Int) by rw [Int.natCast_mul, Int.natCast_pow]; rfl, hxs, IntKind.wrap_i64]; omega)
      have Z10 := Lib.hid (show IntKind.i64.wrap ((yq : Int) * 2 ^ side) = (ys : Int) by rw [show (yq : Int) * 2 ^ side = ((yq * 2 ^ side : Nat) : Int) by rw [Int.natCast_mul, Int.natCast_pow]; rfl, hys, IntKind.wrap_i64]; omega)
      have Z11 := Lib.hid (show IntKind.i64.wrap ((xs : Int) * (dx : Int)) = (xm : Int) by rw [← Int.natCast_mul, hxm, IntKind.wrap_i64]; omega)
      have Z12 := Lib.hid (show IntKind.i64.wrap ((ys : Int) * (dy : Int)) = (ym : Int) by rw [← Int.natCast_mul, hym, IntKind.wrap_i64]; omega)
      have Z13 := Lib.hid (show (side : Int) ≤ 64 by omega)
      obtain ⟨mx, hmx⟩ : ∃ z, (if tx0 < xm then (xm : Int) else (tx0 : Int)) = z := ⟨_, rfl⟩
      obtain ⟨my, hmy⟩ : ∃ z, (if ty0 < ym then (ym : Int) else (ty0 : Int)) = z := ⟨_, rfl⟩
      have Z14 := Lib.hid hmx
      have Z15 := Lib.hid hmy
      have ZF := Lib.hid (show f k = spotL ⟨0, r, cm, k, mx, my, 0, 0, 0, 0, 0, 0⟩ by
        rw [← HF.out]; show spotL (spotK tx0 ty0 R0 R1 W pr side dx dy r cm k) = _; unfold spotK placeI; rw [hfx, hfy, hkm, hkd, hxq, hyq, hxs, hys, hxm, hym]; unfold mxI; simp only [Int.ofNat_lt]; rw [hmx, hmy])
      clear hfx hfy hkm hkd hxq hyq hxs hys hxm hym hmx hmy b1 b2 b3 b4 b5' b6' b7 b8
      have rt3 := (HB.out.block q (by omega)).trans rt2
      have rc3 := (HB.out.block (q + 1) (by omega)).trans rc2
      have rp3 := (HB.out.block (q + 2) (by omega)).trans rp2
      have rg3 := (HB.out.block g (by omega)).trans rg2
      have zr : B ≤ wr.heap.size := by have := HB.out.size; omega
      have HRW := Lib.hid (And.intro rt3 rc3)
      clear rt3 rc3
      go_wp2_with fail
      refine last_cut (by kernel_rfl) (fun U => U.heap[g]? = some (.cells #[.int .i64 (R0 : Int), .int .i64 (R1 : Int), .int .i64 (R2 : Int), .int .i64 (R3 : Int)] 38 (0, 0)) ∧ U.heap[q + 2]? = some (.cells #[.int .i64 Tx, .int .i64 Ty, .int .i64 (lv : Int), .int .i64 Cw, .int .i64 Ch, .int .i64 (pr : Int), .int .i64 St, .int .i64 Od, .int .i64 Ly, .bool rct, .bool sop, .bool eph] 30 (0, 0))) (fun aF a' W' => a' = ((((((((((((((((((((aF.put (some 49) (.pointer (some ⟨g, 0, none⟩))).put (some 50) (.int .i64 (R0 : Int))).put (some 51) (.pointer (some ⟨q + 2, 5, none⟩))).put (some 52) (.int .i64 (pr : Int))).put (some 53) (.int .i64 (fx : Int))).put (some 54) (.int .i64 (k : Int))).put (some 55) (.int .i64 (W : Int))).put (some 56) (.int .i64 (km : Int))).put (some 57) (.int .i64 (xq : Int))).put (some 58) (.pointer (some ⟨g, 1, none⟩))).put (some 59) (.int .i64 (R1 : Int))).put (some 60) (.pointer (some ⟨q + 2, 5, none⟩))).put (some 61) (.int .i64 (pr : Int))).put (some 62) (.int .i64 (fy : Int))).put (some 63) (.int .i64 (k : Int))).put (some 64) (.int .i64 (W : Int))).put (some 65) (.int .i64 (kd : Int))).put (some 66) (.int .i64 (yq : Int))).put (some 17) (.int .i64 (xq : Int))).put (some 18) (.int .i64 (yq : Int))) ∧ Below wr.heap.size wr W') ⟨rg3, rp3⟩ (fun hS => ?_) ?_
      · skip
        have hSB : ∀ U : World, Below (wr.heap.size) wr U → U.heap[g]? = some (.cells #[.int .i64 (R0 : Int), .int .i64 (R1 : Int), .int .i64 (R2 : Int), .int .i64 (R3 : Int)] 38 (0, 0)) ∧ U.heap[q + 2]? = some (.cells #[.int .i64 Tx, .int .i64 Ty, .int .i64 (lv : Int), .int .i64 Cw, .int .i64 Ch, .int .i64 (pr : Int), .int .i64 St, .int .i64 Od, .int .i64 Ly, .bool rct, .bool sop, .bool eph] 30 (0, 0)) := fun U h => ⟨(h.block (g) (by omega)).trans (rg3), (h.block (q + 2) (by omega)).trans (rp3)⟩
        have bV : Below wr.heap.size wr wr.drew := (Below.refl _ _).drew
        generalize wr.drew = V0 at *
        change wpAnyL _ _ _ _ _ 20 #[false, false, false, false, false, false, false, false, false, false, false, false, false, false, false, false, false, false, false, false] _ _
        refine wpAnyL_take (i := 0) (v := .pointer (some ⟨g, 0, none⟩)) (by simp only [List.getElem?_toArray, List.getElem?_cons_succ, List.getElem?_cons_zero]; rfl) (by as_aux_lemma => kernel_rfl) (by as_aux_lemma => kernel_rfl) (by as_aux_lemma => kernel_rfl) (fun _ _ _ h => h) (Or.inl ⟨by rfl, ?_⟩) hS ?_
        · intro U hU
          obtain ⟨s0, s1⟩ := hU
          kernel_rfl
        simp only [Act.put, List.setIfInBounds_toArray, List.set_cons_zero, List.set_cons_succ]
        refine wpAnyL_take (i := 1) (v := .int .i64 (R0 : Int)) (by simp only [List.getElem?_toArray, List.getElem?_cons_succ, List.getElem?_cons_zero]; rfl) (by as_aux_lemma => kernel_rfl) (by as_aux_lemma => kernel_rfl) (by as_aux_lemma => kernel_rfl) (fun _ _ _ h => h) (Or.inl ⟨by rfl, ?_⟩) hS ?_
        · intro U hU
          obtain ⟨s0, s1⟩ := hU
          have r0_0 : U.cell? ⟨g, 0, none⟩ = some (.int .i64 (R0 : Int)) := cell_of_row _ _ 0 _ _ (0, 0) s0
          exact exec_loadCell rfl rfl r0_0 (by kernel_rfl)
        simp only [Act.put, List.setIfInBounds_toArray, List.set_cons_zero, List.set_cons_succ]
        refine wpAnyL_take (i := 2) (v := .pointer (some ⟨q + 2, 5, none⟩)) (by simp only [List.getElem?_toArray, List.getElem?_cons_succ, List.getElem?_cons_zero]; rfl) (by as_aux_lemma => kernel_rfl) (by as_aux_lemma => kernel_rfl) (by as_aux_lemma => kernel_rfl) (fun _ _ _ h => h) (Or.inl ⟨by rfl, ?_⟩) hS ?_
        · intro U hU
          obtain ⟨s0, s1⟩ := hU
          kernel_rfl
        simp only [Act.put, List.setIfInBounds_toArray, List.set_cons_zero, List.set_cons_succ]
        refine wpAnyL_take (i := 3) (v := .int .i64 (pr : Int)) (by simp only [List.getElem?_toArray, List.getElem?_cons_succ, List.getElem?_cons_zero]; rfl) (by as_aux_lemma => kernel_rfl) (by as_aux_lemma => kernel_rfl) (by as_aux_lemma => kernel_rfl) (fun _ _ _ h => h) (Or.inl ⟨by rfl, ?_⟩) hS ?_
        · intro U hU
          obtain ⟨s0, s1⟩ := hU
          have r1_5 : U.cell? ⟨q + 2, 5, none⟩ = some (.int .i64 (pr : Int)) := cell_of_row _ _ 5 _ _ (0, 0) s1
          exact exec_loadCell rfl rfl r1_5 (by kernel_rfl)
        simp only [Act.put, List.setIfInBounds_toArray, List.set_cons_zero, List.set_cons_succ]
        refine wpAnyL_take (i := 4) (v := .int .i64 (fx : Int)) (by simp only [List.getElem?_toArray, List.getElem?_cons_succ, List.getElem?_cons_zero]; rfl) (by as_aux_lemma => kernel_rfl) (by as_aux_lemma => kernel_rfl) (by as_aux_lemma => kernel_rfl) (fun _ _ _ h => h) (Or.inl ⟨by rfl, ?_⟩) hS ?_
        · intro U hU
          obtain ⟨s0, s1⟩ := hU
          have z1 := Z1.out
          have z7 := Z7.out
          go_simp
        simp only [Act.put, List.setIfInBounds_toArray, List.set_cons_zero, List.set_cons_succ]
        refine wpAnyL_take (i := 5) (v := .int .i64 (k : Int)) (by simp only [List.getElem?_toArray, List.getElem?_cons_succ, List.getElem?_cons_zero]; rfl) (by as_aux_lemma => kernel_rfl) (by as_aux_lemma => kernel_rfl) (by as_aux_lemma => kernel_rfl) (fun _ _ _ h => h) (Or.inl ⟨by rfl, ?_⟩) hS ?_
        · intro U hU
          obtain ⟨s0, s1⟩ := hU
          kernel_rfl
        simp only [Act.put, List.setIfInBounds_toArray, List.set_cons_zero, List.set_cons_succ]
        refine wpAnyL_take (i := 6) (v := .int .i64 (W : Int)) (by simp only [List.getElem?_toArray, List.getElem?_cons_succ, List.getElem?_cons_zero]; rfl) (by as_aux_lemma => kernel_rfl) (by as_aux_lemma => kernel_rfl) (by as_aux_lemma => kernel_rfl) (fun _ _ _ h => h) (Or.inl ⟨by rfl, ?_⟩) hS ?_
        · intro U hU
          obtain ⟨s0, s1⟩ := hU
          kernel_rfl
        simp only [Act.put, List.setIfInBounds_toArray, List.set_cons_zero, List.set_cons_succ]
        refine wpAnyL_take (i := 7) (v := .int .i64 (km : Int)) (by simp only [List.getElem?_toArray, List.getElem?_cons_succ, List.getElem?_cons_zero]; rfl) (by as_aux_lemma => kernel_rfl) (by as_aux_lemma => kernel_rfl) (by as_aux_lemma => kernel_rfl) (fun _ _ _ h => h) (Or.inl ⟨by rfl, ?_⟩) hS ?_
        · intro U hU
          obtain ⟨s0, s1⟩ := hU
          have z1 := Z3.out
          have z7 := Z8.out
          go_simp
        simp only [Act.put, List.setIfInBounds_toArray, List.set_cons_zero, List.set_cons_succ]
        refine wpAnyL_take (i := 8) (v := .int .i64 (xq : Int)) (by simp only [List.getElem?_toArray, List.getElem?_cons_succ, List.getElem?_cons_zero]; rfl) (by as_aux_lemma => kernel_rfl) (by as_aux_lemma => kernel_rfl) (by as_aux_lemma => kernel_rfl) (fun _ _ _ h => h) (Or.inl ⟨by rfl, ?_⟩) hS ?_
        · intro U hU
          obtain ⟨s0, s1⟩ := hU
          have z1 := Z5.out
          go_simp
        simp only [Act.put, List.setIfInBounds_toArray, List.set_cons_zero, List.set_cons_succ]
        refine wpAnyL_take (i := 9) (v := .pointer (some ⟨g, 1, none⟩)) (by simp only [List.getElem?_toArray, List.getElem?_cons_succ, List.getElem?_cons_zero]; rfl) (by as_aux_lemma => kernel_rfl) (by as_aux_lemma => kernel_rfl) (by as_aux_lemma => kernel_rfl) (fun _ _ _ h => h) (Or.inl ⟨by rfl, ?_⟩) hS ?_
        · intro U hU
          obtain ⟨s0, s1⟩ := hU
          kernel_rfl
        simp only [Act.put, List.setIfInBounds_toArray, List.set_cons_zero, List.set_cons_succ]
        refine wpAnyL_take (i := 10) (v := .int .i64 (R1 : Int)) (by simp only [List.getElem?_toArray, List.getElem?_cons_succ, List.getElem?_cons_zero]; rfl) (by as_aux_lemma => kernel_rfl) (by as_aux_lemma => kernel_rfl) (by as_aux_lemma => kernel_rfl) (fun _ _ _ h => h) (Or.inl ⟨by rfl, ?_⟩) hS ?_
        · intro U hU
          obtain ⟨s0, s1⟩ := hU
          have r0_1 : U.cell? ⟨g, 1, none⟩ = some (.int .i64 (R1 : Int)) := cell_of_row _ _ 1 _ _ (0, 0) s0
          exact exec_loadCell rfl rfl r0_1 (by kernel_rfl)
        simp only [Act.put, List.setIfInBounds_toArray, List.set_cons_zero, List.set_cons_succ]
        refine wpAnyL_take (i := 11) (v := .pointer (some ⟨q + 2, 5, none⟩)) (by simp only [List.getElem?_toArray, List.getElem?_cons_succ, List.getElem?_cons_zero]; rfl) (by as_aux_lemma => kernel_rfl) (by as_aux_lemma => kernel_rfl) (by as_aux_lemma => kernel_rfl) (fun _ _ _ h => h) (Or.inl ⟨by rfl, ?_⟩) hS ?_
        · intro U hU
          obtain ⟨s0, s1⟩ := hU
          kernel_rfl
        simp only [Act.put, List.setIfInBounds_toArray, List.set_cons_zero, List.set_cons_succ]
        refine wpAnyL_take (i := 12) (v := .int .i64 (pr : Int)) (by simp only [List.getElem?_toArray, List.getElem?_cons_succ, List.getElem?_cons_zero]; rfl) (by as_aux_lemma => kernel_rfl) (by as_aux_lemma => kernel_rfl) (by as_aux_lemma => kernel_rfl) (fun _ _ _ h => h) (Or.inl ⟨by rfl, ?_⟩) hS ?_
        · intro U hU
          obtain ⟨s0, s1⟩ := hU
          have r1_5 : U.cell? ⟨q + 2, 5, none⟩ = some (.int .i64 (pr : Int)) := cell_of_row _ _ 5 _ _ (0, 0) s1
          exact exec_loadCell rfl rfl r1_5 (by kernel_rfl)
        simp only [Act.put, List.setIfInBounds_toArray, List.set_cons_zero, List.set_cons_succ]
        refine wpAnyL_take (i := 13) (v := .int .i64 (fy : Int)) (by simp only [List.getElem?_toArray, List.getElem?_cons_succ, List.getElem?_cons_zero]; rfl) (by as_aux_lemma => kernel_rfl) (by as_aux_lemma => kernel_rfl) (by as_aux_lemma => kernel_rfl) (fun _ _ _ h => h) (Or.inl ⟨by rfl, ?_⟩) hS ?_
        · intro U hU
          obtain ⟨s0, s1⟩ := hU
          have z1 := Z2.out
          have z7 := Z7.out
          go_simp
        simp only [Act.put, List.setIfInBounds_toArray, List.set_cons_zero, List.set_cons_succ]
        refine wpAnyL_take (i := 14) (v := .int .i64 (k : Int)) (by simp only [List.getElem?_toArray, List.getElem?_cons_succ, List.getElem?_cons_zero]; rfl) (by as_aux_lemma => kernel_rfl) (by as_aux_lemma => kernel_rfl) (by as_aux_lemma => kernel_rfl) (fun _ _ _ h => h) (Or.inl ⟨by rfl, ?_⟩) hS ?_
        · intro U hU
          obtain ⟨s0, s1⟩ := hU
          kernel_rfl
        simp only [Act.put, List.setIfInBounds_toArray, List.set_cons_zero, List.set_cons_succ]
        refine wpAnyL_take (i := 15) (v := .int .i64 (W : Int)) (by simp only [List.getElem?_toArray, List.getElem?_cons_succ, List.getElem?_cons_zero]; rfl) (by as_aux_lemma => kernel_rfl) (by as_aux_lemma => kernel_rfl) (by as_aux_lemma => kernel_rfl) (fun _ _ _ h => h) (Or.inl ⟨by rfl, ?_⟩) hS ?_
        · intro U hU
          obtain ⟨s0, s1⟩ := hU
          kernel_rfl
        simp only [Act.put, List.setIfInBounds_toArray, List.set_cons_zero, List.set_cons_succ]
        refine wpAnyL_take (i := 16) (v := .int .i64 (kd : Int)) (by simp only [List.getElem?_toArray, List.getElem?_cons_succ, List.getElem?_cons_zero]; rfl) (by as_aux_lemma => kernel_rfl) (by as_aux_lemma => kernel_rfl) (by as_aux_lemma => kernel_rfl) (fun _ _ _ h => h) (Or.inl ⟨by rfl, ?_⟩) hS ?_
        · intro U hU
          obtain ⟨s0, s1⟩ := hU
          have z1 := Z4.out
          have z7 := Z8.out
          have z8 := Z16.out
          go_simp
        simp only [Act.put, List.setIfInBounds_toArray, List.set_cons_zero, List.set_cons_succ]
        refine wpAnyL_take (i := 17) (v := .int .i64 (yq : Int)) (by simp only [List.getElem?_toArray, List.getElem?_cons_succ, List.getElem?_cons_zero]; rfl) (by as_aux_lemma => kernel_rfl) (by as_aux_lemma => kernel_rfl) (by as_aux_lemma => kernel_rfl) (fun _ _ _ h => h) (Or.inl ⟨by rfl, ?_⟩) hS ?_
        · intro U hU
          obtain ⟨s0, s1⟩ := hU
          have z1 := Z6.out
          go_simp
        simp only [Act.put, List.setIfInBounds_toArray, List.set_cons_zero, List.set_cons_succ]
        refine wpAnyL_take (i := 18) (v := .int .i64 (xq : Int)) (by simp only [List.getElem?_toArray, List.getElem?_cons_succ, List.getElem?_cons_zero]; rfl) (by as_aux_lemma => kernel_rfl) (by as_aux_lemma => kernel_rfl) (by as_aux_lemma => kernel_rfl) (fun _ _ _ h => h) (Or.inl ⟨by rfl, ?_⟩) hS ?_
        · intro U hU
          obtain ⟨s0, s1⟩ := hU
          kernel_rfl
        simp only [Act.put, List.setIfInBounds_toArray, List.set_cons_zero, List.set_cons_succ]
        refine wpAnyL_take (i := 19) (v := .int .i64 (yq : Int)) (by simp only [List.getElem?_toArray, List.getElem?_cons_succ, List.getElem?_cons_zero]; rfl) (by as_aux_lemma => kernel_rfl) (by as_aux_lemma => kernel_rfl) (by as_aux_lemma => kernel_rfl) (fun _ _ _ h => h) (Or.inl ⟨by rfl, ?_⟩) hS ?_
        · intro U hU
          obtain ⟨s0, s1⟩ := hU
          kernel_rfl
        simp only [Act.put, List.setIfInBounds_toArray, List.set_cons_zero, List.set_cons_succ]
        refine wpAnyL_done (by as_aux_lemma => kernel_rfl) ?_ _
        simp only [OnlyN]
        refine ⟨?_, bV⟩
        (try simp only [Act.put, List.setIfInBounds_toArray, List.set_cons_zero, List.set_cons_succ])
      rintro a' Wa ⟨rfl, h8⟩
      simp only [Act.put, List.setIfInBounds_toArray, List.set_cons_zero, List.set_cons_succ]
      have HO8 := Lib.hid (HO.out.below h8)
      have HB8 := Lib.hid (HB.out.trans (h8.mono zr))
      have rt4 := (h8.block q (by omega)).trans HRW.out.1
      have rc4 := (h8.block (q + 1) (by omega)).trans HRW.out.2
      have zr8 : B ≤ Wa.heap.size := by have := h8.size; omega
      clear h8 HO HB rg3 rp3 zr HRW Z1 Z2 Z3 Z4 Z5 Z6 Z7 Z8 Z16
      go_wp2_with fail
      refine last_cut (by kernel_rfl) (fun U => U.heap[q]? = some (.cells #[.int .i64 (tx0 : Int), .int .i64 (ty0 : Int), .int .i64 (tx1 : Int), .int .i64 (ty1 : Int)] 38 (0, 0)) ∧ U.heap[q + 1]? = some (.cells #[.int .i64 dp, .bool sg, .int .i64 (dx : Int), .int .i64 (dy : Int), .slice DA dn dc] 48 (0, 0))) (fun aF a' W' => ∃ h0 g1 cap, a' = (((((((((((((((((((((((((((aF.put (some 67) (.slice A k c)).put (some 68) (.int .i64 (r : Int))).put (some 69) (.int .i64 (cm : Int))).put (some 70) (.int .i64 (k : Int))).put (some 71) (.agg #[.int .i64 0, .int .i64 (r : Int), .int .i64 (cm : Int), .int .i64 (k : Int)])).put (some 72) (.pointer (some ⟨q, 0, none⟩))).put (some 73) (.int .i64 (tx0 : Int))).put (some 74) (.int .i64 (xq : Int))).put (some 75) (.int .i64 (side : Int))).put (some 76) (.int .i64 (xs : Int))).put (some 77) (.pointer (some ⟨q + 1, 2, none⟩))).put (some 78) (.int .i64 (dx : Int))).put (some 79) (.int .i64 (xm : Int))).put (some 80) (.int .i64 mx)).put (some 81) (.pointer (some ⟨q, 1, none⟩))).put (some 82) (.int .i64 (ty0 : Int))).put (some 83) (.int .i64 (yq : Int))).put (some 84) (.int .i64 (side : Int))).put (some 85) (.int .i64 (ys : Int))).put (some 86) (.pointer (some ⟨q + 1, 3, none⟩))).put (some 87) (.int .i64 (dy : Int))).put (some 88) (.int .i64 (ym : Int))).put (some 89) (.int .i64 my)).put (some 90) (.agg #[.int .i64 0, .int .i64 (r : Int), .int .i64 (cm : Int), .int .i64 (k : Int), .int .i64 mx, .int .i64 my, .int .i64 0, .int .i64 0, .int .i64 0, .int .i64 0, .int .i64 0, .int .i64 0])).put (some 91) (.slice (some ⟨h0, 0, none⟩) 1 1)).put (some 92) (.slice (some ⟨g1, 0, none⟩) (k + 1) cap)).put (some 15) (.slice (some ⟨g1, 0, none⟩) (k + 1) cap)) ∧ OwnC W' B 65 12 (.slice (some ⟨g1, 0, none⟩) (k + 1) cap) (k + 1) f ∧ Below B Wa W') ⟨rt4, rc4⟩ (fun hS => ?_) ?_
      · skip
        have hSB : ∀ U : World, Below (Wa.heap.size) Wa U → U.heap[q]? = some (.cells #[.int .i64 (tx0 : Int), .int .i64 (ty0 : Int), .int .i64 (tx1 : Int), .int .i64 (ty1 : Int)] 38 (0, 0)) ∧ U.heap[q + 1]? = some (.cells #[.int .i64 dp, .bool sg, .int .i64 (dx : Int), .int .i64 (dy : Int), .slice DA dn dc] 48 (0, 0)) := fun U h => ⟨(h.block (q) (by omega)).trans (rt4), (h.block (q + 1) (by omega)).trans (rc4)⟩
        have bV : Below Wa.heap.size Wa Wa.drew := (Below.refl _ _).drew
        generalize Wa.drew = V0 at *
        change wpAnyL _ _ _ _ _ 27 #[false, false, false, false, false, false, false, false, false, false, false, false, false, false, false, false, false, false, false, false, false, false, false, false, false, false, false] _ _
        refine wpAnyL_take (i := 0) (v := .slice A k c) (by simp only [List.getElem?_toArray, List.getElem?_cons_succ, List.getElem?_cons_zero]; rfl) (by as_aux_lemma => kernel_rfl) (by as_aux_lemma => kernel_rfl) (by as_aux_lemma => kernel_rfl) (fun _ _ _ h => h) (Or.inl ⟨by rfl, ?_⟩) hS ?_
        · intro U hU
          obtain ⟨s0, s1⟩ := hU
          kernel_rfl
        simp only [Act.put, List.setIfInBounds_toArray, List.set_cons_zero, List.set_cons_succ]
        refine wpAnyL_take (i := 1) (v := .int .i64 (r : Int)) (by simp only [List.getElem?_toArray, List.getElem?_cons_succ, List.getElem?_cons_zero]; rfl) (by as_aux_lemma => kernel_rfl) (by as_aux_lemma => kernel_rfl) (by as_aux_lemma => kernel_rfl) (fun _ _ _ h => h) (Or.inl ⟨by rfl, ?_⟩) hS ?_
        · intro U hU
          obtain ⟨s0, s1⟩ := hU
          kernel_rfl
        simp only [Act.put, List.setIfInBounds_toArray, List.set_cons_zero, List.set_cons_succ]
        refine wpAnyL_take (i := 2) (v := .int .i64 (cm : Int)) (by simp only [List.getElem?_toArray, List.getElem?_cons_succ, List.getElem?_cons_zero]; rfl) (by as_aux_lemma => kernel_rfl) (by as_aux_lemma => kernel_rfl) (by as_aux_lemma => kernel_rfl) (fun _ _ _ h => h) (Or.inl ⟨by rfl, ?_⟩) hS ?_
        · intro U hU
          obtain ⟨s0, s1⟩ := hU
          kernel_rfl
        simp only [Act.put, List.setIfInBounds_toArray, List.set_cons_zero, List.set_cons_succ]
        refine wpAnyL_take (i := 3) (v := .int .i64 (k : Int)) (by simp only [List.getElem?_toArray, List.getElem?_cons_succ, List.getElem?_cons_zero]; rfl) (by as_aux_lemma => kernel_rfl) (by as_aux_lemma => kernel_rfl) (by as_aux_lemma => kernel_rfl) (fun _ _ _ h => h) (Or.inl ⟨by rfl, ?_⟩) hS ?_
        · intro U hU
          obtain ⟨s0, s1⟩ := hU
          kernel_rfl
        simp only [Act.put, List.setIfInBounds_toArray, List.set_cons_zero, List.set_cons_succ]
        refine wpAnyL_take (i := 4) (v := .agg #[.int .i64 0, .int .i64 (r : Int), .int .i64 (cm : Int), .int .i64 (k : Int)]) (by simp only [List.getElem?_toArray, List.getElem?_cons_succ, List.getElem?_cons_zero]; rfl) (by as_aux_lemma => kernel_rfl) (by as_aux_lemma => kernel_rfl) (by as_aux_lemma => kernel_rfl) (fun _ _ _ h => h) (Or.inl ⟨by rfl, ?_⟩) hS ?_
        · intro U hU
          obtain ⟨s0, s1⟩ := hU
          kernel_rfl
        simp only [Act.put, List.setIfInBounds_toArray, List.set_cons_zero, List.set_cons_succ]
        refine wpAnyL_take (i := 5) (v := .pointer (some ⟨q, 0, none⟩)) (by simp only [List.getElem?_toArray, List.getElem?_cons_succ, List.getElem?_cons_zero]; rfl) (by as_aux_lemma => kernel_rfl) (by as_aux_lemma => kernel_rfl) (by as_aux_lemma => kernel_rfl) (fun _ _ _ h => h) (Or.inl ⟨by rfl, ?_⟩) hS ?_
        · intro U hU
          obtain ⟨s0, s1⟩ := hU
          kernel_rfl
        simp only [Act.put, List.setIfInBounds_toArray, List.set_cons_zero, List.set_cons_succ]
        refine wpAnyL_take (i := 6) (v := .int .i64 (tx0 : Int)) (by simp only [List.getElem?_toArray, List.getElem?_cons_succ, List.getElem?_cons_zero]; rfl) (by as_aux_lemma => kernel_rfl) (by as_aux_lemma => kernel_rfl) (by as_aux_lemma => kernel_rfl) (fun _ _ _ h => h) (Or.inl ⟨by rfl, ?_⟩) hS ?_
        · intro U hU
          obtain ⟨s0, s1⟩ := hU
          have r0_0 : U.cell? ⟨q, 0, none⟩ = some (.int .i64 (tx0 : Int)) := cell_of_row _ _ 0 _ _ (0, 0) s0
          exact exec_loadCell rfl rfl r0_0 (by kernel_rfl)
        simp only [Act.put, List.setIfInBounds_toArray, List.set_cons_zero, List.set_cons_succ]
        refine wpAnyL_take (i := 7) (v := .int .i64 (xq : Int)) (by simp only [List.getElem?_toArray, List.getElem?_cons_succ, List.getElem?_cons_zero]; rfl) (by as_aux_lemma => kernel_rfl) (by as_aux_lemma => kernel_rfl) (by as_aux_lemma => kernel_rfl) (fun _ _ _ h => h) (Or.inl ⟨by rfl, ?_⟩) hS ?_
        · intro U hU
          obtain ⟨s0, s1⟩ := hU
          kernel_rfl
        simp only [Act.put, List.setIfInBounds_toArray, List.set_cons_zero, List.set_cons_succ]
        refine wpAnyL_take (i := 8) (v := .int .i64 (side : Int)) (by simp only [List.getElem?_toArray, List.getElem?_cons_succ, List.getElem?_cons_zero]; rfl) (by as_aux_lemma => kernel_rfl) (by as_aux_lemma => kernel_rfl) (by as_aux_lemma => kernel_rfl) (fun _ _ _ h => h) (Or.inl ⟨by rfl, ?_⟩) hS ?_
        · intro U hU
          obtain ⟨s0, s1⟩ := hU
          kernel_rfl
        simp only [Act.put, List.setIfInBounds_toArray, List.set_cons_zero, List.set_cons_succ]
        refine wpAnyL_take (i := 9) (v := .int .i64 (xs : Int)) (by simp only [List.getElem?_toArray, List.getElem?_cons_succ, List.getElem?_cons_zero]; rfl) (by as_aux_lemma => kernel_rfl) (by as_aux_lemma => kernel_rfl) (by as_aux_lemma => kernel_rfl) (fun _ _ _ h => h) (Or.inl ⟨by rfl, ?_⟩) hS ?_
        · intro U hU
          obtain ⟨s0, s1⟩ := hU
          have z1 := Z9.out
          have z2 := Z13.out
          go_simp
        simp only [Act.put, List.setIfInBounds_toArray, List.set_cons_zero, List.set_cons_succ]
        refine wpAnyL_take (i := 10) (v := .pointer (some ⟨q + 1, 2, none⟩)) (by simp only [List.getElem?_toArray, List.getElem?_cons_succ, List.getElem?_cons_zero]; rfl) (by as_aux_lemma => kernel_rfl) (by as_aux_lemma => kernel_rfl) (by as_aux_lemma => kernel_rfl) (fun _ _ _ h => h) (Or.inl ⟨by rfl, ?_⟩) hS ?_
        · intro U hU
          obtain ⟨s0, s1⟩ := hU
          kernel_rfl
        simp only [Act.put, List.setIfInBounds_toArray, List.set_cons_zero, List.set_cons_succ]
        refine wpAnyL_take (i := 11) (v := .int .i64 (dx : Int)) (by simp only [List.getElem?_toArray, List.getElem?_cons_succ, List.getElem?_cons_zero]; rfl) (by as_aux_lemma => kernel_rfl) (by as_aux_lemma => kernel_rfl) (by as_aux_lemma => kernel_rfl) (fun _ _ _ h => h) (Or.inl ⟨by rfl, ?_⟩) hS ?_
        · intro U hU
          obtain ⟨s0, s1⟩ := hU
          have r1_2 : U.cell? ⟨q + 1, 2, none⟩ = some (.int .i64 (dx : Int)) := cell_of_row _ _ 2 _ _ (0, 0) s1
          exact exec_loadCell rfl rfl r1_2 (by kernel_rfl)
        simp only [Act.put, List.setIfInBounds_toArray, List.set_cons_zero, List.set_cons_succ]
        refine wpAnyL_take (i := 12) (v := .int .i64 (xm : Int)) (by simp only [List.getElem?_toArray, List.getElem?_cons_succ, List.getElem?_cons_zero]; rfl) (by as_aux_lemma => kernel_rfl) (by as_aux_lemma => kernel_rfl) (by as_aux_lemma => kernel_rfl) (fun _ _ _ h => h) (Or.inl ⟨by rfl, ?_⟩) hS ?_
        · intro U hU
          obtain ⟨s0, s1⟩ := hU
          have z1 := Z11.out
          go_simp
        simp only [Act.put, List.setIfInBounds_toArray, List.set_cons_zero, List.set_cons_succ]
        refine wpAnyL_take (i := 13) (v := .int .i64 mx) (by simp only [List.getElem?_toArray, List.getElem?_cons_succ, List.getElem?_cons_zero]; rfl) (by as_aux_lemma => kernel_rfl) (by as_aux_lemma => kernel_rfl) (by as_aux_lemma => kernel_rfl) (fun _ _ _ h => h) (Or.inl ⟨by rfl, ?_⟩) hS ?_
        · intro U hU
          obtain ⟨s0, s1⟩ := hU
          have z1 := Z14.out
          go_simp
        simp only [Act.put, List.setIfInBounds_toArray, List.set_cons_zero, List.set_cons_succ]
        refine wpAnyL_take (i := 14) (v := .pointer (some ⟨q, 1, none⟩)) (by simp only [List.getElem?_toArray, List.getElem?_cons_succ, List.getElem?_cons_zero]; rfl) (by as_aux_lemma => kernel_rfl) (by as_aux_lemma => kernel_rfl) (by as_aux_lemma => kernel_rfl) (fun _ _ _ h => h) (Or.inl ⟨by rfl, ?_⟩) hS ?_
        · intro U hU
          obtain ⟨s0, s1⟩ := hU
          kernel_rfl
        simp only [Act.put, List.setIfInBounds_toArray, List.set_cons_zero, List.set_cons_succ]
        refine wpAnyL_take (i := 15) (v := .int .i64 (ty0 : Int)) (by simp only [List.getElem?_toArray, List.getElem?_cons_succ, List.getElem?_cons_zero]; rfl) (by as_aux_lemma => kernel_rfl) (by as_aux_lemma => kernel_rfl) (by as_aux_lemma => kernel_rfl) (fun _ _ _ h => h) (Or.inl ⟨by rfl, ?_⟩) hS ?_
        · intro U hU
          obtain ⟨s0, s1⟩ := hU
          have r0_1 : U.cell? ⟨q, 1, none⟩ = some (.int .i64 (ty0 : Int)) := cell_of_row _ _ 1 _ _ (0, 0) s0
          exact exec_loadCell rfl rfl r0_1 (by kernel_rfl)
        simp only [Act.put, List.setIfInBounds_toArray, List.set_cons_zero, List.set_cons_succ]
        refine wpAnyL_take (i := 16) (v := .int .i64 (yq : Int)) (by simp only [List.getElem?_toArray, List.getElem?_cons_succ, List.getElem?_cons_zero]; rfl) (by as_aux_lemma => kernel_rfl) (by as_aux_lemma => kernel_rfl) (by as_aux_lemma => kernel_rfl) (fun _ _ _ h => h) (Or.inl ⟨by rfl, ?_⟩) hS ?_
        · intro U hU
          obtain ⟨s0, s1⟩ := hU
          kernel_rfl
        simp only [Act.put, List.setIfInBounds_toArray, List.set_cons_zero, List.set_cons_succ]
        refine wpAnyL_take (i := 17) (v := .int .i64 (side : Int)) (by simp only [List.getElem?_toArray, List.getElem?_cons_succ, List.getElem?_cons_zero]; rfl) (by as_aux_lemma => kernel_rfl) (by as_aux_lemma => kernel_rfl) (by as_aux_lemma => kernel_rfl) (fun _ _ _ h => h) (Or.inl ⟨by rfl, ?_⟩) hS ?_
        · intro U hU
          obtain ⟨s0, s1⟩ := hU
          kernel_rfl
        simp only [Act.put, List.setIfInBounds_toArray, List.set_cons_zero, List.set_cons_succ]
        refine wpAnyL_take (i := 18) (v := .int .i64 (ys : Int)) (by simp only [List.getElem?_toArray, List.getElem?_cons_succ, List.getElem?_cons_zero]; rfl) (by as_aux_lemma => kernel_rfl) (by as_aux_lemma => kernel_rfl) (by as_aux_lemma => kernel_rfl) (fun _ _ _ h => h) (Or.inl ⟨by rfl, ?_⟩) hS ?_
        · intro U hU
          obtain ⟨s0, s1⟩ := hU
          have z1 := Z10.out
          have z2 := Z13.out
          go_simp
        simp only [Act.put, List.setIfInBounds_toArray, List.set_cons_zero, List.set_cons_succ]
        refine wpAnyL_take (i := 19) (v := .pointer (some ⟨q + 1, 3, none⟩)) (by simp only [List.getElem?_toArray, List.getElem?_cons_succ, List.getElem?_cons_zero]; rfl) (by as_aux_lemma => kernel_rfl) (by as_aux_lemma => kernel_rfl) (by as_aux_lemma => kernel_rfl) (fun _ _ _ h => h) (Or.inl ⟨by rfl, ?_⟩) hS ?_
        · intro U hU
          obtain ⟨s0, s1⟩ := hU
          kernel_rfl
        simp only [Act.put, List.setIfInBounds_toArray, List.set_cons_zero, List.set_cons_succ]
        refine wpAnyL_take (i := 20) (v := .int .i64 (dy : Int)) (by simp only [List.getElem?_toArray, List.getElem?_cons_succ, List.getElem?_cons_zero]; rfl) (by as_aux_lemma => kernel_rfl) (by as_aux_lemma => kernel_rfl) (by as_aux_lemma => kernel_rfl) (fun _ _ _ h => h) (Or.inl ⟨by rfl, ?_⟩) hS ?_
        · intro U hU
          obtain ⟨s0, s1⟩ := hU
          have r1_3 : U.cell? ⟨q + 1, 3, none⟩ = some (.int .i64 (dy : Int)) := cell_of_row _ _ 3 _ _ (0, 0) s1
          exact exec_loadCell rfl rfl r1_3 (by kernel_rfl)
        simp only [Act.put, List.setIfInBounds_toArray, List.set_cons_zero, List.set_cons_succ]
        refine wpAnyL_take (i := 21) (v := .int .i64 (ym : Int)) (by simp only [List.getElem?_toArray, List.getElem?_cons_succ, List.getElem?_cons_zero]; rfl) (by as_aux_lemma => kernel_rfl) (by as_aux_lemma => kernel_rfl) (by as_aux_lemma => kernel_rfl) (fun _ _ _ h => h) (Or.inl ⟨by rfl, ?_⟩) hS ?_
        · intro U hU
          obtain ⟨s0, s1⟩ := hU
          have z1 := Z12.out
          go_simp
        simp only [Act.put, List.setIfInBounds_toArray, List.set_cons_zero, List.set_cons_succ]
        refine wpAnyL_take (i := 22) (v := .int .i64 my) (by simp only [List.getElem?_toArray, List.getElem?_cons_succ, List.getElem?_cons_zero]; rfl) (by as_aux_lemma => kernel_rfl) (by as_aux_lemma => kernel_rfl) (by as_aux_lemma => kernel_rfl) (fun _ _ _ h => h) (Or.inl ⟨by rfl, ?_⟩) hS ?_
        · intro U hU
          obtain ⟨s0, s1⟩ := hU
          have z1 := Z15.out
          go_simp
        simp only [Act.put, List.setIfInBounds_toArray, List.set_cons_zero, List.set_cons_succ]
        refine wpAnyL_take (i := 23) (v := .agg #[.int .i64 0, .int .i64 (r : Int), .int .i64 (cm : Int), .int .i64 (k : Int), .int .i64 mx, .int .i64 my, .int .i64 0, .int .i64 0, .int .i64 0, .int .i64 0, .int .i64 0, .int .i64 0]) (by simp only [List.getElem?_toArray, List.getElem?_cons_succ, List.getElem?_cons_zero]; rfl) (by as_aux_lemma => kernel_rfl) (by as_aux_lemma => kernel_rfl) (by as_aux_lemma => kernel_rfl) (fun _ _ _ h => h) (Or.inl ⟨by rfl, ?_⟩) hS ?_
        · intro U hU
          obtain ⟨s0, s1⟩ := hU
          kernel_rfl
        simp only [Act.put, List.setIfInBounds_toArray, List.set_cons_zero, List.set_cons_succ]
        refine wpAnyL_ready (rs := [24]) (by as_aux_lemma => kernel_rfl) (by simp) ?_
        refine AllReadyL.cons (by simp only [List.getElem?_toArray, List.getElem?_cons_succ, List.getElem?_cons_zero]; rfl) (fun K' hK' => ?_) AllReadyL.nil
        go_simp
        have hb24 := below_alloc bV (.cells #[.int .i64 0, .int .i64 (r : Int), .int .i64 (cm : Int), .int .i64 (k : Int), .int .i64 mx, .int .i64 my, .int .i64 0, .int .i64 0, .int .i64 0, .int .i64 0, .int .i64 0, .int .i64 0] 65)
        have xl := heap_alloc_new V0 (.cells #[.int .i64 0, .int .i64 (r : Int), .int .i64 (cm : Int), .int .i64 (k : Int), .int .i64 mx, .int .i64 my, .int .i64 0, .int .i64 0, .int .i64 0, .int .i64 0, .int .i64 0, .int .i64 0] 65)
        obtain ⟨h0, hh0⟩ : ∃ g, V0.heap.size = g := ⟨_, rfl⟩
        generalize V0.alloc (.cells #[.int .i64 0, .int .i64 (r : Int), .int .i64 (cm : Int), .int .i64 (k : Int), .int .i64 mx, .int .i64 my, .int .i64 0, .int .i64 0, .int .i64 0, .int .i64 0, .int .i64 0, .int .i64 0] 65) = U24 at *
        rw [hh0] at xl ⊢
        clear hh0
        have hS := hSB _ hb24
        refine hK'.out _ _ hS (fun _ => ?_)
        clear hK' K'
        try simp only [Act.put, List.setIfInBounds_toArray, List.set_cons_zero, List.set_cons_succ]
        refine wpAnyL_ready (rs := [25]) (by as_aux_lemma => kernel_rfl) (by simp) ?_
        refine AllReadyL.cons (by simp only [List.getElem?_toArray, List.getElem?_cons_succ, List.getElem?_cons_zero]; rfl) (fun K' hK' => ?_) AllReadyL.nil
        have hcel : ∀ (i : Nat) (u : Value), (f k)[i]? = some u → U24.cell? ⟨h0, i, none⟩ = some u := fun i u hi => by
          rw [cell_of_row _ _ _ _ _ (0, 0) xl, ← hi, ZF.out, List.getElem?_toArray]; rfl
        have hone : ∀ u ∈ f k, u.oneCell' = true := by rw [ZF.out]; exact one_spot _
        refine step_appC Wa hb24 (others_of_below hb24) (by rfl) _ _ 61 (by rfl) 65 12 spot_elem B A k c f (by rfl) HO8.out h0 (by rfl) hcel hone (by omega) zr8 ?_
        intro g1 cap U25 og sg hg
        have hS := And.intro ((sg.blocks q (by omega) (HO8.out.ne_block rt4 (by decide))).trans rt4) ((sg.blocks (q + 1) (by omega) (HO8.out.ne_block rc4 (by decide))).trans rc4)
        refine hK'.out _ _ hS (fun _ => ?_)
        clear hcel hone
        clear hK' K'
        try simp only [Act.put, List.setIfInBounds_toArray, List.set_cons_zero, List.set_cons_succ]
        refine wpAnyL_take (i := 26) (v := .slice (some ⟨g1, 0, none⟩) (k + 1) cap) (by simp only [List.getElem?_toArray, List.getElem?_cons_succ, List.getElem?_cons_zero]; rfl) (by as_aux_lemma => kernel_rfl) (by as_aux_lemma => kernel_rfl) (by as_aux_lemma => kernel_rfl) (fun _ _ _ h => h) (Or.inl ⟨by rfl, ?_⟩) hS ?_
        · intro U hU
          obtain ⟨s0, s1⟩ := hU
          kernel_rfl
        simp only [Act.put, List.setIfInBounds_toArray, List.set_cons_zero, List.set_cons_succ]
        refine wpAnyL_done (by as_aux_lemma => kernel_rfl) ?_ _
        simp only [OnlyN]
        refine ⟨h0, g1, cap, ?_, og, sg.below⟩
        (try simp only [Act.put, List.setIfInBounds_toArray, List.set_cons_zero, List.set_cons_succ])
      rintro a' Wb ⟨h0, g1, cap, rfl, og, h9⟩
      simp only [Act.put, List.setIfInBounds_toArray, List.set_cons_zero, List.set_cons_succ]
      have HO9 := Lib.hid og
      have HB9 := Lib.hid (HB8.out.trans h9)
      have WK := wrap_add1 (a := k) (c := k + 1) rfl (by omega)
      clear og h9 HO8 HB8 rt4 rc4 zr8
      go_wp2_with fail
      go_roundg (N - (k + 1))
      case measure => omega
      case rel => exact ⟨k + 1, some ⟨g1, 0, none⟩, cap, rfl, by go_num, by omega, Nat.le_refl _, HO9, HB9⟩
    · have hltz : ¬ (k : Int) < (N : Int) := by omega
      have he : k = N := by omega
      subst he
      go_wp2_with fail
      go_ret
      exact ⟨A, c, rfl, HO.out.mono (by omega), b_2.trans (HB.out.mono (by omega))⟩
end Go.Proofs.Ytpgkdpoehkdhcaa
