/- THE WALK OF waveletlaw12.CanvasBlocks. -/
import Derived.Test.YtmieoifagnpbiaaMake
import Derived.Test.YtmieoifagnpbiaaMadeLaw
import Derived.Test.YtmieoifagnpbiaaBlk12b
import Derived.Test.YtmieoifagnpbiaaLoad
import Derived.Test.YtmieoifagnpbiaaBlkLaw
import Derived.Test.YtmieoifagnpbiaaCanBlkI
namespace Go.Proofs.Ytmieoifagnpbiaa
open Go.RowKit
attribute [local go_sem] opv opnd
set_option maxHeartbeats 40000000
set_option linter.unusedVariables false
set_option linter.unusedSimpArgs false
set_option maxRecDepth 100000
theorem byN_pos {n d : Nat} (hn : 1 ≤ n) (hd : 1 ≤ d) : 1 ≤ byN n d := by
  unfold byN
  exact (Nat.le_div_iff_mul_le (by omega)).2 (by omega)
theorem canBlk_walk (fX fY fOx fOy fC fD fS : Int) (fsg frct fsop feph : Bool) (fTx fTy fL fcw fch fP fSt fO fLy : Int) (NA : Option Addr) (nN cN : Nat) (Nf : Nat → Int) (r0 e : Int) (w : World) (hN : IntsAt w w.heap.size NA nN Nf) (hNf : ∀ k, k < nN → -9223372036854775808 ≤ Nf k ∧ Nf k ≤ 9223372036854775807) (hNn : nN ≤ 9223372036854775807) (hSb : -9223372036854775808 ≤ fS ∧ fS ≤ 9223372036854775807) :
    Calls Try.prog 9 #[.agg #[.int .i64 fX, .int .i64 fY, .int .i64 fOx, .int .i64 fOy, .int .i64 fC, .int .i64 fD, .int .i64 fS, .bool fsg, .bool frct, .bool fsop, .bool feph, .int .i64 fTx, .int .i64 fTy, .int .i64 fL, .int .i64 fcw, .int .i64 fch, .int .i64 fP, .int .i64 fSt, .int .i64 fO, .int .i64 fLy, .slice NA nN cN], .int .i64 r0, .int .i64 e] w fun e' w' => e' = .returned (.bool true) ∧ Below w.heap.size w w' := by
  have HMk := Lib.hid (fun (v : World) (h : IntsAt v v.heap.size NA nN Nf) => make_any fX fY fOx fOy fC fD fS fsg frct fsop feph fTx fTy fL fcw fch fP fSt fO fLy NA nN cN Nf 20 (by omega) (by omega) v h hNf hNn hSb)
  rw [show ((20 : Nat) : Int) = 20 from rfl] at HMk
  have HN := Lib.hid hN
  clear hN hNf hNn hSb
  go_enter Try.func9, Try.ntmps9
  go_wp2_with fail
  obtain ⟨q, hq⟩ : ∃ q, w.heap.size = q := ⟨_, rfl⟩
  generalize hw0 : World.alloc w _ = W0
  have f0 : W0.heap[q]? = some (.cells #[.int .i64 fX, .int .i64 fY, .int .i64 fOx, .int .i64 fOy, .int .i64 fC, .int .i64 fD, .int .i64 fS, .bool fsg, .bool frct, .bool fsop, .bool feph, .int .i64 fTx, .int .i64 fTy, .int .i64 fL, .int .i64 fcw, .int .i64 fch, .int .i64 fP, .int .i64 fSt, .int .i64 fO, .int .i64 fLy, .slice NA nN cN] 39 (0, 0)) := by rw [← hw0, ← hq]; exact heap_alloc_new w _
  have z0 : W0.heap.size = q + 1 := by rw [← hw0, ← hq]; simp
  have b0 : Below q w W0 := by rw [← hw0, ← hq]; exact below_alloc (Below.refl _ _) _
  clear hw0
  refine (known12 _).mono ?_
  rintro e' W1 ⟨rfl, h1⟩
  have f1 := (h1.block q (by omega)).trans f0
  have b1 := b0.trans (h1.mono (by omega))
  have z1 : q + 1 ≤ W1.heap.size := by have := h1.size; omega
  clear h1 f0 b0 z0
  go_upto_region 3 with fail
  refine wp_region_lit ?_
  refine wpList_loadRow rfl rfl rfl f1 (by kernel_rfl) (by kernel_rfl) ?_
  go_wp2_with fail
  refine (HMk.out W1 ((HN.out.below (by rw [hq]; exact b1)).more (by have := b1.size; omega))).mono ?_
  rintro e' W2 ⟨Xn, Yn, On, Pn, tx, ty, lv, cw, ch, pr, st, od, ly, n, dn, rct, PL, A, c, F, G, rfl, hP, hI, h2⟩
  have b2 := b1.trans (h2.mono (by omega))
  have z2 : q + 1 ≤ W2.heap.size := by have := h2.size; omega
  have hI := hI.mono z1
  clear h2 b1 f1
  have HP := Lib.hid hP
  have HI := Lib.hid hI
  clear hP hI HMk HN
  unfold imgV parV
  go_upto_region 4 with fail
  obtain ⟨gm, hgm⟩ : ∃ g, W2.heap.size = g := ⟨_, rfl⟩
  generalize hV3 : World.alloc (World.alloc W2 _) _ = V3
  have img : V3.heap[gm]? = some (.cells #[.int .i64 Xn, .int .i64 Yn, .int .i64 On, .int .i64 Pn, .slice A n c] 25 (0, 0)) := by rw [← hV3, ← hgm]; exact (Below.heap_alloc _ _ _ (by simp)).trans (heap_alloc_new W2 _)
  have par : V3.heap[gm + 1]? = some (.cells #[.int .i64 tx, .int .i64 ty, .int .i64 lv, .int .i64 cw, .int .i64 ch, .int .i64 pr, .int .i64 st, .int .i64 od, .int .i64 ly, .bool rct, .bool fsop, .bool feph] 27 (0, 0)) := by rw [← hV3, ← hgm]; exact heap_alloc_new2 W2 _ _
  have h3 : Below gm W2 V3 := by rw [← hV3, ← hgm]; exact below_alloc (below_alloc (Below.refl _ _) _) _
  have z3 : V3.heap.size = gm + 2 := by rw [← hV3, ← hgm]; simp
  rw [hgm] at z2 ⊢
  clear hV3
  have HI3 := Lib.hid (HI.out.below (by rw [hgm]; exact h3))
  have b3 := b2.trans (h3.mono (by omega))
  clear HI b2 h3
  have hP := HP.out
  obtain ⟨o1, o2⟩ := hP.on
  obtain ⟨x1, x2, x3, x4⟩ := hP.xs
  obtain ⟨t1, t2, t3, t4⟩ := hP.ts
  obtain ⟨m1, m2, m3⟩ := hP.num
  obtain ⟨d1, d2, d3, d4, d5, d6, d7, d8, d9, d10, d11⟩ := hP.bds
  have hM0 := HI3.out.good 0 (by omega)
  obtain ⟨dxn, hdx⟩ := Int.eq_ofNat_of_zero_le (show (0 : Int) ≤ (F 0).dx by have := hM0.dx; omega)
  obtain ⟨dyn, hdy⟩ := Int.eq_ofNat_of_zero_le (show (0 : Int) ≤ (F 0).dy by have := hM0.dy; omega)
  have hdx3 : 1 ≤ dxn ∧ dxn ≤ 3 := by have := hM0.dx; omega
  have hdy3 : 1 ≤ dyn ∧ dyn ≤ 3 := by have := hM0.dy; omega
  obtain ⟨hca, hnc⟩ := HI3.out.compsAt
  have HTl := Lib.hid (fun (v : World) (h : CompsAt v v.heap.size A n F) => tiles_any Xn Yn On Pn A n c F tx ty lv cw ch pr st od ly rct fsop feph v h hnc (made_frame hP (by omega) (fun j hj => HI3.out.good j hj)) _ _ rfl rfl)
  simp only [Int.toNat_natCast] at HTl
  obtain ⟨NT, hNTd⟩ : ∃ z, byN Xn tx * byN Yn ty = z := ⟨_, rfl⟩
  have hNT : 0 < NT := by rw [← hNTd]; exact Nat.mul_pos (byN_pos (by omega) (by omega)) (byN_pos (by omega) (by omega))
  rw [hNTd] at HTl
  obtain ⟨Tx1, hTx1⟩ : ∃ z, min Xn tx = z := ⟨_, rfl⟩
  obtain ⟨Ty1, hTy1⟩ : ∃ z, min Yn ty = z := ⟨_, rfl⟩
  have HT0 := Lib.hid (show rcL (tileR Xn Yn On Pn tx ty (gridAt (byN Xn tx) 0)) = [.int .i64 (On : Int), .int .i64 (Pn : Int), .int .i64 (Tx1 : Int), .int .i64 (Ty1 : Int)] by
    rw [show gridAt (byN Xn tx) 0 = (0, 0) by simp [gridAt], tile0 (by omega) (by omega), hTx1, hTy1]; rfl)
  have hTxb : On < Tx1 ∧ Tx1 ≤ 26 := by omega
  have hTyb : Pn < Ty1 ∧ Ty1 ≤ 26 := by omega
  have HPt := Lib.hid (fun v => part_any On Pn Tx1 Ty1 dxn dyn (by omega) (by omega) (by omega) (by omega) (by omega) (by omega) (by omega) (by omega) v)
  obtain ⟨Q0, hQ0⟩ : ∃ z, byN On dxn = z := ⟨_, rfl⟩
  obtain ⟨Q1, hQ1⟩ : ∃ z, byN Pn dyn = z := ⟨_, rfl⟩
  obtain ⟨Q2, hQ2⟩ : ∃ z, byN Tx1 dxn = z := ⟨_, rfl⟩
  obtain ⟨Q3, hQ3⟩ : ∃ z, byN Ty1 dyn = z := ⟨_, rfl⟩
  have hQb : Q0 ≤ 26 ∧ Q1 ≤ 26 ∧ Q2 ≤ 26 ∧ Q3 ≤ 26 := by
    have := byN_le (n := On) hdx3.1
    have := byN_le (n := Pn) hdy3.1
    have := byN_le (n := Tx1) hdx3.1
    have := byN_le (n := Ty1) hdy3.1
    omega
  rw [hQ0, hQ1, hQ2, hQ3] at HPt
  unfold rcV at HPt
  unfold imgV parV at HTl
  obtain ⟨bc, oc, hAe, hbc, k0, k1, k2, k3, k4⟩ := hca.at_ (k := 0) (by omega)
  have HCA := Lib.hid hca
  subst hAe
  rw [hdx] at k2
  rw [hdy] at k3
  simp only [Nat.zero_mul, Nat.add_zero] at k2 k3
  have hway := made_ways hP
  clear hca hM0 hNTd hTx1 hTy1 hQ0 hQ1 hQ2 hQ3 hdx hdy k0 k1 k4 m3
  obtain ⟨rn, hrl, _, HWr0⟩ := within12v r0 (lv + 1) ((lv : Int) + 1) (by omega) (by omega) (by omega)
  have HWr := Lib.hid HWr0
  clear HWr0
  have wl : IntKind.i64.wrap ((lv : Int) + 1) = (lv : Int) + 1 := wr (by omega)
  have p2 : V3.cell? ⟨gm + 1, 2, none⟩ = some (.int .i64 (lv : Int)) := cell_of_row _ _ 2 _ _ (0, 0) par
  go_upto_region 5 with (go_at_call 12; refine (HWr.out _).mono ?_; rintro e' w' ⟨rfl, hw⟩; obtain rfl := hw; dsimp only)
  have hNT0 : ¬ NT = 0 := by omega
  have hn0 : ¬ n = 0 := by omega
  have hsz : gm + 2 ≤ V3.heap.size := by omega
  clear p2 wl
  refine last_cut (by kernel_rfl) (fun U => U.heap[gm]? = some (.cells #[.int .i64 (Xn : Int), .int .i64 (Yn : Int), .int .i64 (On : Int), .int .i64 (Pn : Int), .slice (some ⟨bc, oc, none⟩) n c] 25 (0, 0)) ∧ U.heap[gm + 1]? = some (.cells #[.int .i64 (tx : Int), .int .i64 (ty : Int), .int .i64 (lv : Int), .int .i64 (cw : Int), .int .i64 (ch : Int), .int .i64 (pr : Int), .int .i64 (st : Int), .int .i64 (od : Int), .int .i64 (ly : Int), .bool rct, .bool fsop, .bool feph] 27 (0, 0)) ∧ U.cell? ⟨bc, oc + 2, none⟩ = some (.int .i64 (dxn : Int)) ∧ U.cell? ⟨bc, oc + 3, none⟩ = some (.int .i64 (dyn : Int))) (fun aF a' W' => ∃ bt ot cT g9, a' = (((((((((((((((((aF.put (some 36) (.agg #[.int .i64 (Xn : Int), .int .i64 (Yn : Int), .int .i64 (On : Int), .int .i64 (Pn : Int), .slice (some ⟨bc, oc, none⟩) n c])).put (some 37) (.agg #[.int .i64 (tx : Int), .int .i64 (ty : Int), .int .i64 (lv : Int), .int .i64 (cw : Int), .int .i64 (ch : Int), .int .i64 (pr : Int), .int .i64 (st : Int), .int .i64 (od : Int), .int .i64 (ly : Int), .bool rct, .bool fsop, .bool feph])).put (some 38) (.slice (some ⟨bt, ot, none⟩) NT cT)).put (some 39) (.pointer (some ⟨bt, ot, none⟩))).put (some 40) (.agg #[.int .i64 (On : Int), .int .i64 (Pn : Int), .int .i64 (Tx1 : Int), .int .i64 (Ty1 : Int)])).put (some 41) (.pointer (some ⟨gm, 4, none⟩))).put (some 42) (.slice (some ⟨bc, oc, none⟩) n c)).put (some 43) (.pointer (some ⟨bc, oc, none⟩))).put (some 44) (.pointer (some ⟨bc, oc + 2, none⟩))).put (some 45) (.int .i64 (dxn : Int))).put (some 46) (.pointer (some ⟨gm, 4, none⟩))).put (some 47) (.slice (some ⟨bc, oc, none⟩) n c)).put (some 48) (.pointer (some ⟨bc, oc, none⟩))).put (some 49) (.pointer (some ⟨bc, oc + 3, none⟩))).put (some 50) (.int .i64 (dyn : Int))).put (some 51) (.agg #[.int .i64 (Q0 : Int), .int .i64 (Q1 : Int), .int .i64 (Q2 : Int), .int .i64 (Q3 : Int)])).put (some 9) (.pointer (some ⟨g9, 0, none⟩))) ∧ W'.heap[g9]? = some (.cells #[.int .i64 (Q0 : Int), .int .i64 (Q1 : Int), .int .i64 (Q2 : Int), .int .i64 (Q3 : Int)] 53 (0, 0)) ∧ V3.heap.size ≤ g9 ∧ Below V3.heap.size V3 W') ⟨img, par, k2, k3⟩ (fun hS => ?_) ?_
  · skip
    have hSB : ∀ U : World, Below (gm + 2) V3 U → U.heap[gm]? = some (.cells #[.int .i64 (Xn : Int), .int .i64 (Yn : Int), .int .i64 (On : Int), .int .i64 (Pn : Int), .slice (some ⟨bc, oc, none⟩) n c] 25 (0, 0)) ∧ U.heap[gm + 1]? = some (.cells #[.int .i64 (tx : Int), .int .i64 (ty : Int), .int .i64 (lv : Int), .int .i64 (cw : Int), .int .i64 (ch : Int), .int .i64 (pr : Int), .int .i64 (st : Int), .int .i64 (od : Int), .int .i64 (ly : Int), .bool rct, .bool fsop, .bool feph] 27 (0, 0)) ∧ U.cell? ⟨bc, oc + 2, none⟩ = some (.int .i64 (dxn : Int)) ∧ U.cell? ⟨bc, oc + 3, none⟩ = some (.int .i64 (dyn : Int)) := fun U h => ⟨(h.block (gm) (by omega)).trans (img), (h.block (gm + 1) (by omega)).trans (par), (h.cell (p := ⟨bc, oc + 2, none⟩) (by simp only; omega)).trans (k2), (h.cell (p := ⟨bc, oc + 3, none⟩) (by simp only; omega)).trans (k3)⟩
    have bV : Below V3.heap.size V3 V3.drew := (Below.refl _ _).drew
    generalize V3.drew = V0 at *
    change wpAnyL _ _ _ _ _ 18 #[false, false, false, false, false, false, false, false, false, false, false, false, false, false, false, false, false, false] _ _
    refine wpAnyL_take (i := 0) (v := .agg #[.int .i64 (Xn : Int), .int .i64 (Yn : Int), .int .i64 (On : Int), .int .i64 (Pn : Int), .slice (some ⟨bc, oc, none⟩) n c]) (by simp only [List.getElem?_toArray, List.getElem?_cons_succ, List.getElem?_cons_zero]; rfl) (by as_aux_lemma => kernel_rfl) (by as_aux_lemma => kernel_rfl) (by as_aux_lemma => kernel_rfl) (fun _ _ _ h => h) (Or.inl ⟨by rfl, ?_⟩) hS ?_
    · intro U hU
      obtain ⟨s0, s1, s2, s3⟩ := hU
      exact exec_loadRow (cs := [.int .i64 (Xn : Int), .int .i64 (Yn : Int), .int .i64 (On : Int), .int .i64 (Pn : Int), .slice (some ⟨bc, oc, none⟩) n c]) rfl rfl s0 (by kernel_rfl) (by kernel_rfl)
    simp only [Act.put, List.setIfInBounds_toArray, List.set_cons_zero, List.set_cons_succ]
    refine wpAnyL_take (i := 1) (v := .agg #[.int .i64 (tx : Int), .int .i64 (ty : Int), .int .i64 (lv : Int), .int .i64 (cw : Int), .int .i64 (ch : Int), .int .i64 (pr : Int), .int .i64 (st : Int), .int .i64 (od : Int), .int .i64 (ly : Int), .bool rct, .bool fsop, .bool feph]) (by simp only [List.getElem?_toArray, List.getElem?_cons_succ, List.getElem?_cons_zero]; rfl) (by as_aux_lemma => kernel_rfl) (by as_aux_lemma => kernel_rfl) (by as_aux_lemma => kernel_rfl) (fun _ _ _ h => h) (Or.inl ⟨by rfl, ?_⟩) hS ?_
    · intro U hU
      obtain ⟨s0, s1, s2, s3⟩ := hU
      exact exec_loadRow (cs := [.int .i64 (tx : Int), .int .i64 (ty : Int), .int .i64 (lv : Int), .int .i64 (cw : Int), .int .i64 (ch : Int), .int .i64 (pr : Int), .int .i64 (st : Int), .int .i64 (od : Int), .int .i64 (ly : Int), .bool rct, .bool fsop, .bool feph]) rfl rfl s1 (by kernel_rfl) (by kernel_rfl)
    simp only [Act.put, List.setIfInBounds_toArray, List.set_cons_zero, List.set_cons_succ]
    refine wpAnyL_take (i := 5) (v := .pointer (some ⟨gm, 4, none⟩)) (by simp only [List.getElem?_toArray, List.getElem?_cons_succ, List.getElem?_cons_zero]; rfl) (by as_aux_lemma => kernel_rfl) (by as_aux_lemma => kernel_rfl) (by as_aux_lemma => kernel_rfl) (fun _ _ _ h => h) (Or.inl ⟨by rfl, ?_⟩) hS ?_
    · intro U hU
      obtain ⟨s0, s1, s2, s3⟩ := hU
      kernel_rfl
    simp only [Act.put, List.setIfInBounds_toArray, List.set_cons_zero, List.set_cons_succ]
    refine wpAnyL_take (i := 6) (v := .slice (some ⟨bc, oc, none⟩) n c) (by simp only [List.getElem?_toArray, List.getElem?_cons_succ, List.getElem?_cons_zero]; rfl) (by as_aux_lemma => kernel_rfl) (by as_aux_lemma => kernel_rfl) (by as_aux_lemma => kernel_rfl) (fun _ _ _ h => h) (Or.inl ⟨by rfl, ?_⟩) hS ?_
    · intro U hU
      obtain ⟨s0, s1, s2, s3⟩ := hU
      have r0_4 : U.cell? ⟨gm, 4, none⟩ = some (.slice (some ⟨bc, oc, none⟩) n c) := cell_of_row _ _ 4 _ _ (0, 0) s0
      exact exec_loadCell rfl rfl r0_4 (by kernel_rfl)
    simp only [Act.put, List.setIfInBounds_toArray, List.set_cons_zero, List.set_cons_succ]
    refine wpAnyL_take (i := 7) (v := .pointer (some ⟨bc, oc, none⟩)) (by simp only [List.getElem?_toArray, List.getElem?_cons_succ, List.getElem?_cons_zero]; rfl) (by as_aux_lemma => kernel_rfl) (by as_aux_lemma => kernel_rfl) (by as_aux_lemma => kernel_rfl) (fun _ _ _ h => h) (Or.inl ⟨by rfl, ?_⟩) hS ?_
    · intro U hU
      obtain ⟨s0, s1, s2, s3⟩ := hU
      go_simp
    simp only [Act.put, List.setIfInBounds_toArray, List.set_cons_zero, List.set_cons_succ]
    refine wpAnyL_take (i := 8) (v := .pointer (some ⟨bc, oc + 2, none⟩)) (by simp only [List.getElem?_toArray, List.getElem?_cons_succ, List.getElem?_cons_zero]; rfl) (by as_aux_lemma => kernel_rfl) (by as_aux_lemma => kernel_rfl) (by as_aux_lemma => kernel_rfl) (fun _ _ _ h => h) (Or.inl ⟨by rfl, ?_⟩) hS ?_
    · intro U hU
      obtain ⟨s0, s1, s2, s3⟩ := hU
      kernel_rfl
    simp only [Act.put, List.setIfInBounds_toArray, List.set_cons_zero, List.set_cons_succ]
    refine wpAnyL_take (i := 9) (v := .int .i64 (dxn : Int)) (by simp only [List.getElem?_toArray, List.getElem?_cons_succ, List.getElem?_cons_zero]; rfl) (by as_aux_lemma => kernel_rfl) (by as_aux_lemma => kernel_rfl) (by as_aux_lemma => kernel_rfl) (fun _ _ _ h => h) (Or.inl ⟨by rfl, ?_⟩) hS ?_
    · intro U hU
      obtain ⟨s0, s1, s2, s3⟩ := hU
      exact exec_loadCell rfl rfl s2 (by kernel_rfl)
    simp only [Act.put, List.setIfInBounds_toArray, List.set_cons_zero, List.set_cons_succ]
    refine wpAnyL_take (i := 10) (v := .pointer (some ⟨gm, 4, none⟩)) (by simp only [List.getElem?_toArray, List.getElem?_cons_succ, List.getElem?_cons_zero]; rfl) (by as_aux_lemma => kernel_rfl) (by as_aux_lemma => kernel_rfl) (by as_aux_lemma => kernel_rfl) (fun _ _ _ h => h) (Or.inl ⟨by rfl, ?_⟩) hS ?_
    · intro U hU
      obtain ⟨s0, s1, s2, s3⟩ := hU
      kernel_rfl
    simp only [Act.put, List.setIfInBounds_toArray, List.set_cons_zero, List.set_cons_succ]
    refine wpAnyL_take (i := 11) (v := .slice (some ⟨bc, oc, none⟩) n c) (by simp only [List.getElem?_toArray, List.getElem?_cons_succ, List.getElem?_cons_zero]; rfl) (by as_aux_lemma => kernel_rfl) (by as_aux_lemma => kernel_rfl) (by as_aux_lemma => kernel_rfl) (fun _ _ _ h => h) (Or.inl ⟨by rfl, ?_⟩) hS ?_
    · intro U hU
      obtain ⟨s0, s1, s2, s3⟩ := hU
      have r0_4 : U.cell? ⟨gm, 4, none⟩ = some (.slice (some ⟨bc, oc, none⟩) n c) := cell_of_row _ _ 4 _ _ (0, 0) s0
      exact exec_loadCell rfl rfl r0_4 (by kernel_rfl)
    simp only [Act.put, List.setIfInBounds_toArray, List.set_cons_zero, List.set_cons_succ]
    refine wpAnyL_take (i := 12) (v := .pointer (some ⟨bc, oc, none⟩)) (by simp only [List.getElem?_toArray, List.getElem?_cons_succ, List.getElem?_cons_zero]; rfl) (by as_aux_lemma => kernel_rfl) (by as_aux_lemma => kernel_rfl) (by as_aux_lemma => kernel_rfl) (fun _ _ _ h => h) (Or.inl ⟨by rfl, ?_⟩) hS ?_
    · intro U hU
      obtain ⟨s0, s1, s2, s3⟩ := hU
      go_simp
    simp only [Act.put, List.setIfInBounds_toArray, List.set_cons_zero, List.set_cons_succ]
    refine wpAnyL_take (i := 13) (v := .pointer (some ⟨bc, oc + 3, none⟩)) (by simp only [List.getElem?_toArray, List.getElem?_cons_succ, List.getElem?_cons_zero]; rfl) (by as_aux_lemma => kernel_rfl) (by as_aux_lemma => kernel_rfl) (by as_aux_lemma => kernel_rfl) (fun _ _ _ h => h) (Or.inl ⟨by rfl, ?_⟩) hS ?_
    · intro U hU
      obtain ⟨s0, s1, s2, s3⟩ := hU
      kernel_rfl
    simp only [Act.put, List.setIfInBounds_toArray, List.set_cons_zero, List.set_cons_succ]
    refine wpAnyL_take (i := 14) (v := .int .i64 (dyn : Int)) (by simp only [List.getElem?_toArray, List.getElem?_cons_succ, List.getElem?_cons_zero]; rfl) (by as_aux_lemma => kernel_rfl) (by as_aux_lemma => kernel_rfl) (by as_aux_lemma => kernel_rfl) (fun _ _ _ h => h) (Or.inl ⟨by rfl, ?_⟩) hS ?_
    · intro U hU
      obtain ⟨s0, s1, s2, s3⟩ := hU
      exact exec_loadCell rfl rfl s3 (by kernel_rfl)
    simp only [Act.put, List.setIfInBounds_toArray, List.set_cons_zero, List.set_cons_succ]
    refine wpAnyL_ready (rs := [2, 16]) (by as_aux_lemma => kernel_rfl) (by simp) ?_
    refine AllReadyL.cons (by simp only [List.getElem?_toArray, List.getElem?_cons_succ, List.getElem?_cons_zero]; rfl) (fun K' hK' => ?_) (AllReadyL.cons (by simp only [List.getElem?_toArray, List.getElem?_cons_succ, List.getElem?_cons_zero]; rfl) (fun K' hK' => ?_) AllReadyL.nil)
    · go_simp
      go_at_call 19
      refine (HTl.out _ ((HCA.out.below bV).more bV.size)).mono ?_
      rintro e' U2 ⟨At, cT, rfl, hT, hb2⟩
      obtain ⟨bt, ot, hAt, hlt, ht⟩ := hT.at_.at_ (k := 0) hNT
      subst hAt
      have t0 : U2.cell? ⟨bt, ot, none⟩ = some (.int .i64 (On : Int)) := by have := ht 0 _ (by rw [HT0.out]; rfl); simpa using this
      have t1 : U2.cell? ⟨bt, ot + 1, none⟩ = some (.int .i64 (Pn : Int)) := by have := ht 1 _ (by rw [HT0.out]; rfl); simpa using this
      have t2 : U2.cell? ⟨bt, ot + 2, none⟩ = some (.int .i64 (Tx1 : Int)) := by have := ht 2 _ (by rw [HT0.out]; rfl); simpa using this
      have t3 : U2.cell? ⟨bt, ot + 3, none⟩ = some (.int .i64 (Ty1 : Int)) := by have := ht 3 _ (by rw [HT0.out]; rfl); simpa using this
      clear ht hT
      have b2' := below_trans bV hb2
      have hS := hSB _ (b2'.mono hsz)
      dsimp only
      refine hK'.out _ _ hS (fun _ => ?_)
      clear hb2 bV
      clear hK' K'
      try simp only [Act.put, List.setIfInBounds_toArray, List.set_cons_zero, List.set_cons_succ]
      refine wpAnyL_take (i := 3) (v := .pointer (some ⟨bt, ot, none⟩)) (by simp only [List.getElem?_toArray, List.getElem?_cons_succ, List.getElem?_cons_zero]; rfl) (by as_aux_lemma => kernel_rfl) (by as_aux_lemma => kernel_rfl) (by as_aux_lemma => kernel_rfl) (fun _ _ _ h => h) (Or.inl ⟨by rfl, ?_⟩) hS ?_
      · intro U hU
        obtain ⟨s0, s1, s2, s3⟩ := hU
        go_simp
      simp only [Act.put, List.setIfInBounds_toArray, List.set_cons_zero, List.set_cons_succ]
      refine wpAnyL_ready (rs := [4, 16]) (by as_aux_lemma => kernel_rfl) (by simp) ?_
      refine AllReadyL.cons (by simp only [List.getElem?_toArray, List.getElem?_cons_succ, List.getElem?_cons_zero]; rfl) (fun K' hK' => ?_) (AllReadyL.cons (by simp only [List.getElem?_toArray, List.getElem?_cons_succ, List.getElem?_cons_zero]; rfl) (fun K' hK' => ?_) AllReadyL.nil)
      · go_simp
        refine hK'.out _ _ hS (fun _ => ?_)
        clear hK' K'
        try simp only [Act.put, List.setIfInBounds_toArray, List.set_cons_zero, List.set_cons_succ]
        refine wpAnyL_ready (rs := [15, 16]) (by as_aux_lemma => kernel_rfl) (by simp) ?_
        refine AllReadyL.cons (by simp only [List.getElem?_toArray, List.getElem?_cons_succ, List.getElem?_cons_zero]; rfl) (fun K' hK' => ?_) (AllReadyL.cons (by simp only [List.getElem?_toArray, List.getElem?_cons_succ, List.getElem?_cons_zero]; rfl) (fun K' hK' => ?_) AllReadyL.nil)
        · go_simp
          go_at_call 22
          refine (HPt.out _).mono ?_
          rintro e' U15 ⟨rfl, hb15⟩
          have t0 := (hb15.cell (p := ⟨bt, ot, none⟩) hlt).trans t0
          have t1 := (hb15.cell (p := ⟨bt, ot + 1, none⟩) hlt).trans t1
          have t2 := (hb15.cell (p := ⟨bt, ot + 2, none⟩) hlt).trans t2
          have t3 := (hb15.cell (p := ⟨bt, ot + 3, none⟩) hlt).trans t3
          have hlt := Nat.lt_of_lt_of_le hlt hb15.size
          have b15 := below_trans b2' hb15
          have hS := hSB _ (b15.mono hsz)
          dsimp only
          refine hK'.out _ _ hS (fun _ => ?_)
          clear hb15 b2'
          clear hK' K'
          try simp only [Act.put, List.setIfInBounds_toArray, List.set_cons_zero, List.set_cons_succ]
          refine wpAnyL_ready (rs := [16]) (by as_aux_lemma => kernel_rfl) (by simp) ?_
          refine AllReadyL.cons (by simp only [List.getElem?_toArray, List.getElem?_cons_succ, List.getElem?_cons_zero]; rfl) (fun K' hK' => ?_) AllReadyL.nil
          go_simp
          have hb16 := below_alloc (Below.refl U15.heap.size U15) (.cells #[.int .i64 0, .int .i64 0, .int .i64 0, .int .i64 0] 53)
          obtain ⟨g9, hg9⟩ : ∃ g, U15.heap.size = g := ⟨_, rfl⟩
          have x9 := heap_alloc_new U15 (.cells #[.int .i64 0, .int .i64 0, .int .i64 0, .int .i64 0] 53)
          have l9 : U15.heap.size < (U15.alloc (.cells #[.int .i64 0, .int .i64 0, .int .i64 0, .int .i64 0] 53)).heap.size := by simp
          have y9 : V3.heap.size ≤ U15.heap.size := b15.size
          have t0 := (hb16.cell (p := ⟨bt, ot, none⟩) hlt).trans t0
          have t1 := (hb16.cell (p := ⟨bt, ot + 1, none⟩) hlt).trans t1
          have t2 := (hb16.cell (p := ⟨bt, ot + 2, none⟩) hlt).trans t2
          have t3 := (hb16.cell (p := ⟨bt, ot + 3, none⟩) hlt).trans t3
          have hlt := Nat.lt_of_lt_of_le hlt hb16.size
          have b16 := below_alloc b15 (.cells #[.int .i64 0, .int .i64 0, .int .i64 0, .int .i64 0] 53)
          generalize U15.alloc (.cells #[.int .i64 0, .int .i64 0, .int .i64 0, .int .i64 0] 53) = U16 at *
          rw [hg9] at x9 l9 y9 ⊢
          clear hg9 hb16 b15
          have hS := hSB _ (b16.mono hsz)
          refine hK'.out _ _ hS (fun _ => ?_)
          clear hK' K'
          try simp only [Act.put, List.setIfInBounds_toArray, List.set_cons_zero, List.set_cons_succ]
          refine wpAnyL_ready (rs := [17]) (by as_aux_lemma => kernel_rfl) (by simp) ?_
          refine AllReadyL.last (by simp only [List.getElem?_toArray, List.getElem?_cons_succ, List.getElem?_cons_zero]; rfl) (by as_aux_lemma => kernel_rfl) (fun K' hK' => ?_)
          have d0 : U16.cell? ⟨g9, 0, none⟩ = some (.int .i64 0) := cell_of_row _ _ 0 _ _ (0, 0) x9
          have d1 : U16.cell? ⟨g9, 1, none⟩ = some (.int .i64 0) := cell_of_row _ _ 1 _ _ (0, 0) x9
          have d2 : U16.cell? ⟨g9, 2, none⟩ = some (.int .i64 0) := cell_of_row _ _ 2 _ _ (0, 0) x9
          have d3 : U16.cell? ⟨g9, 3, none⟩ = some (.int .i64 0) := cell_of_row _ _ 3 _ _ (0, 0) x9
          have dz : ∀ i, U16.frozen? ⟨g9, i, none⟩ = false := fun i => frozen_of_row _ _ i _ _ x9
          go_simp
          obtain ⟨U17, hV, x9', b17⟩ : ∃ V, ((((U16.setCell ⟨g9, 0, none⟩ (.int .i64 (Q0 : Int))).setCell ⟨g9, 1, none⟩ (.int .i64 (Q1 : Int))).setCell ⟨g9, 2, none⟩ (.int .i64 (Q2 : Int))).setCell ⟨g9, 3, none⟩ (.int .i64 (Q3 : Int))) = V ∧ V.heap[g9]? = some (.cells #[.int .i64 (Q0 : Int), .int .i64 (Q1 : Int), .int .i64 (Q2 : Int), .int .i64 (Q3 : Int)] 53 (0, 0)) ∧ Below V3.heap.size V3 V := ⟨_, rfl, setRow_at (old := [.int .i64 0, .int .i64 0, .int .i64 0, .int .i64 0]) [.int .i64 (Q0 : Int), .int .i64 (Q1 : Int), .int .i64 (Q2 : Int), .int .i64 (Q3 : Int)] rfl x9, setRow_below y9 [.int .i64 (Q0 : Int), .int .i64 (Q1 : Int), .int .i64 (Q2 : Int), .int .i64 (Q3 : Int)] 0 _ b16⟩
          rw [hV]
          clear hV
          refine hK'.out _ _ (?_)
          clear d0 d1 d2 d3 dz
          clear hK' K'
          try simp only [Act.put, List.setIfInBounds_toArray, List.set_cons_zero, List.set_cons_succ]
          refine wpAnyL_done (by as_aux_lemma => kernel_rfl) ?_ _
          simp only [OnlyN]
          refine ⟨bt, ot, cT, g9, ?_, x9', y9, b17⟩
          (try simp only [Act.put, List.setIfInBounds_toArray, List.set_cons_zero, List.set_cons_succ])
        · go_simp
          have hb16 := below_alloc (Below.refl U2.heap.size U2) (.cells #[.int .i64 0, .int .i64 0, .int .i64 0, .int .i64 0] 53)
          obtain ⟨g9, hg9⟩ : ∃ g, U2.heap.size = g := ⟨_, rfl⟩
          have x9 := heap_alloc_new U2 (.cells #[.int .i64 0, .int .i64 0, .int .i64 0, .int .i64 0] 53)
          have l9 : U2.heap.size < (U2.alloc (.cells #[.int .i64 0, .int .i64 0, .int .i64 0, .int .i64 0] 53)).heap.size := by simp
          have y9 : V3.heap.size ≤ U2.heap.size := b2'.size
          have t0 := (hb16.cell (p := ⟨bt, ot, none⟩) hlt).trans t0
          have t1 := (hb16.cell (p := ⟨bt, ot + 1, none⟩) hlt).trans t1
          have t2 := (hb16.cell (p := ⟨bt, ot + 2, none⟩) hlt).trans t2
          have t3 := (hb16.cell (p := ⟨bt, ot + 3, none⟩) hlt).trans t3
          have hlt := Nat.lt_of_lt_of_le hlt hb16.size
          have b16 := below_alloc b2' (.cells #[.int .i64 0, .int .i64 0, .int .i64 0, .int .i64 0] 53)
          generalize U2.alloc (.cells #[.int .i64 0, .int .i64 0, .int .i64 0, .int .i64 0] 53) = U16 at *
          rw [hg9] at x9 l9 y9 ⊢
          clear hg9 hb16 b2'
          have hS := hSB _ (b16.mono hsz)
          refine hK'.out _ _ hS (fun _ => ?_)
          clear hK' K'
          try simp only [Act.put, List.setIfInBounds_toArray, List.set_cons_zero, List.set_cons_succ]
          refine wpAnyL_ready (rs := [15]) (by as_aux_lemma => kernel_rfl) (by simp) ?_
          refine AllReadyL.cons (by simp only [List.getElem?_toArray, List.getElem?_cons_succ, List.getElem?_cons_zero]; rfl) (fun K' hK' => ?_) AllReadyL.nil
          go_simp
          go_at_call 22
          refine (HPt.out _).mono ?_
          rintro e' U15 ⟨rfl, hb15⟩
          have t0 := (hb15.cell (p := ⟨bt, ot, none⟩) hlt).trans t0
          have t1 := (hb15.cell (p := ⟨bt, ot + 1, none⟩) hlt).trans t1
          have t2 := (hb15.cell (p := ⟨bt, ot + 2, none⟩) hlt).trans t2
          have t3 := (hb15.cell (p := ⟨bt, ot + 3, none⟩) hlt).trans t3
          have hlt := Nat.lt_of_lt_of_le hlt hb15.size
          have x9 := (hb15.block g9 l9).trans x9
          have l9 := Nat.lt_of_lt_of_le l9 hb15.size
          have b15 := below_trans b16 hb15
          have hS := hSB _ (b15.mono hsz)
          dsimp only
          refine hK'.out _ _ hS (fun _ => ?_)
          clear hb15 b16
          clear hK' K'
          try simp only [Act.put, List.setIfInBounds_toArray, List.set_cons_zero, List.set_cons_succ]
          refine wpAnyL_ready (rs := [17]) (by as_aux_lemma => kernel_rfl) (by simp) ?_
          refine AllReadyL.last (by simp only [List.getElem?_toArray, List.getElem?_cons_succ, List.getElem?_cons_zero]; rfl) (by as_aux_lemma => kernel_rfl) (fun K' hK' => ?_)
          have d0 : U15.cell? ⟨g9, 0, none⟩ = some (.int .i64 0) := cell_of_row _ _ 0 _ _ (0, 0) x9
          have d1 : U15.cell? ⟨g9, 1, none⟩ = some (.int .i64 0) := cell_of_row _ _ 1 _ _ (0, 0) x9
          have d2 : U15.cell? ⟨g9, 2, none⟩ = some (.int .i64 0) := cell_of_row _ _ 2 _ _ (0, 0) x9
          have d3 : U15.cell? ⟨g9, 3, none⟩ = some (.int .i64 0) := cell_of_row _ _ 3 _ _ (0, 0) x9
          have dz : ∀ i, U15.frozen? ⟨g9, i, none⟩ = false := fun i => frozen_of_row _ _ i _ _ x9
          go_simp
          obtain ⟨U17, hV, x9', b17⟩ : ∃ V, ((((U15.setCell ⟨g9, 0, none⟩ (.int .i64 (Q0 : Int))).setCell ⟨g9, 1, none⟩ (.int .i64 (Q1 : Int))).setCell ⟨g9, 2, none⟩ (.int .i64 (Q2 : Int))).setCell ⟨g9, 3, none⟩ (.int .i64 (Q3 : Int))) = V ∧ V.heap[g9]? = some (.cells #[.int .i64 (Q0 : Int), .int .i64 (Q1 : Int), .int .i64 (Q2 : Int), .int .i64 (Q3 : Int)] 53 (0, 0)) ∧ Below V3.heap.size V3 V := ⟨_, rfl, setRow_at (old := [.int .i64 0, .int .i64 0, .int .i64 0, .int .i64 0]) [.int .i64 (Q0 : Int), .int .i64 (Q1 : Int), .int .i64 (Q2 : Int), .int .i64 (Q3 : Int)] rfl x9, setRow_below y9 [.int .i64 (Q0 : Int), .int .i64 (Q1 : Int), .int .i64 (Q2 : Int), .int .i64 (Q3 : Int)] 0 _ b15⟩
          rw [hV]
          clear hV
          refine hK'.out _ _ (?_)
          clear d0 d1 d2 d3 dz
          clear hK' K'
          try simp only [Act.put, List.setIfInBounds_toArray, List.set_cons_zero, List.set_cons_succ]
          refine wpAnyL_done (by as_aux_lemma => kernel_rfl) ?_ _
          simp only [OnlyN]
          refine ⟨bt, ot, cT, g9, ?_, x9', y9, b17⟩
          (try simp only [Act.put, List.setIfInBounds_toArray, List.set_cons_zero, List.set_cons_succ])
      · go_simp
        have hb16 := below_alloc (Below.refl U2.heap.size U2) (.cells #[.int .i64 0, .int .i64 0, .int .i64 0, .int .i64 0] 53)
        obtain ⟨g9, hg9⟩ : ∃ g, U2.heap.size = g := ⟨_, rfl⟩
        have x9 := heap_alloc_new U2 (.cells #[.int .i64 0, .int .i64 0, .int .i64 0, .int .i64 0] 53)
        have l9 : U2.heap.size < (U2.alloc (.cells #[.int .i64 0, .int .i64 0, .int .i64 0, .int .i64 0] 53)).heap.size := by simp
        have y9 : V3.heap.size ≤ U2.heap.size := b2'.size
        have t0 := (hb16.cell (p := ⟨bt, ot, none⟩) hlt).trans t0
        have t1 := (hb16.cell (p := ⟨bt, ot + 1, none⟩) hlt).trans t1
        have t2 := (hb16.cell (p := ⟨bt, ot + 2, none⟩) hlt).trans t2
        have t3 := (hb16.cell (p := ⟨bt, ot + 3, none⟩) hlt).trans t3
        have hlt := Nat.lt_of_lt_of_le hlt hb16.size
        have b16 := below_alloc b2' (.cells #[.int .i64 0, .int .i64 0, .int .i64 0, .int .i64 0] 53)
        generalize U2.alloc (.cells #[.int .i64 0, .int .i64 0, .int .i64 0, .int .i64 0] 53) = U16 at *
        rw [hg9] at x9 l9 y9 ⊢
        clear hg9 hb16 b2'
        have hS := hSB _ (b16.mono hsz)
        refine hK'.out _ _ hS (fun _ => ?_)
        clear hK' K'
        try simp only [Act.put, List.setIfInBounds_toArray, List.set_cons_zero, List.set_cons_succ]
        refine wpAnyL_ready (rs := [4]) (by as_aux_lemma => kernel_rfl) (by simp) ?_
        refine AllReadyL.cons (by simp only [List.getElem?_toArray, List.getElem?_cons_succ, List.getElem?_cons_zero]; rfl) (fun K' hK' => ?_) AllReadyL.nil
        go_simp
        refine hK'.out _ _ hS (fun _ => ?_)
        clear hK' K'
        try simp only [Act.put, List.setIfInBounds_toArray, List.set_cons_zero, List.set_cons_succ]
        refine wpAnyL_ready (rs := [15]) (by as_aux_lemma => kernel_rfl) (by simp) ?_
        refine AllReadyL.cons (by simp only [List.getElem?_toArray, List.getElem?_cons_succ, List.getElem?_cons_zero]; rfl) (fun K' hK' => ?_) AllReadyL.nil
        go_simp
        go_at_call 22
        refine (HPt.out _).mono ?_
        rintro e' U15 ⟨rfl, hb15⟩
        have t0 := (hb15.cell (p := ⟨bt, ot, none⟩) hlt).trans t0
        have t1 := (hb15.cell (p := ⟨bt, ot + 1, none⟩) hlt).trans t1
        have t2 := (hb15.cell (p := ⟨bt, ot + 2, none⟩) hlt).trans t2
        have t3 := (hb15.cell (p := ⟨bt, ot + 3, none⟩) hlt).trans t3
        have hlt := Nat.lt_of_lt_of_le hlt hb15.size
        have x9 := (hb15.block g9 l9).trans x9
        have l9 := Nat.lt_of_lt_of_le l9 hb15.size
        have b15 := below_trans b16 hb15
        have hS := hSB _ (b15.mono hsz)
        dsimp only
        refine hK'.out _ _ hS (fun _ => ?_)
        clear hb15 b16
        clear hK' K'
        try simp only [Act.put, List.setIfInBounds_toArray, List.set_cons_zero, List.set_cons_succ]
        refine wpAnyL_ready (rs := [17]) (by as_aux_lemma => kernel_rfl) (by simp) ?_
        refine AllReadyL.last (by simp only [List.getElem?_toArray, List.getElem?_cons_succ, List.getElem?_cons_zero]; rfl) (by as_aux_lemma => kernel_rfl) (fun K' hK' => ?_)
        have d0 : U15.cell? ⟨g9, 0, none⟩ = some (.int .i64 0) := cell_of_row _ _ 0 _ _ (0, 0) x9
        have d1 : U15.cell? ⟨g9, 1, none⟩ = some (.int .i64 0) := cell_of_row _ _ 1 _ _ (0, 0) x9
        have d2 : U15.cell? ⟨g9, 2, none⟩ = some (.int .i64 0) := cell_of_row _ _ 2 _ _ (0, 0) x9
        have d3 : U15.cell? ⟨g9, 3, none⟩ = some (.int .i64 0) := cell_of_row _ _ 3 _ _ (0, 0) x9
        have dz : ∀ i, U15.frozen? ⟨g9, i, none⟩ = false := fun i => frozen_of_row _ _ i _ _ x9
        go_simp
        obtain ⟨U17, hV, x9', b17⟩ : ∃ V, ((((U15.setCell ⟨g9, 0, none⟩ (.int .i64 (Q0 : Int))).setCell ⟨g9, 1, none⟩ (.int .i64 (Q1 : Int))).setCell ⟨g9, 2, none⟩ (.int .i64 (Q2 : Int))).setCell ⟨g9, 3, none⟩ (.int .i64 (Q3 : Int))) = V ∧ V.heap[g9]? = some (.cells #[.int .i64 (Q0 : Int), .int .i64 (Q1 : Int), .int .i64 (Q2 : Int), .int .i64 (Q3 : Int)] 53 (0, 0)) ∧ Below V3.heap.size V3 V := ⟨_, rfl, setRow_at (old := [.int .i64 0, .int .i64 0, .int .i64 0, .int .i64 0]) [.int .i64 (Q0 : Int), .int .i64 (Q1 : Int), .int .i64 (Q2 : Int), .int .i64 (Q3 : Int)] rfl x9, setRow_below y9 [.int .i64 (Q0 : Int), .int .i64 (Q1 : Int), .int .i64 (Q2 : Int), .int .i64 (Q3 : Int)] 0 _ b15⟩
        rw [hV]
        clear hV
        refine hK'.out _ _ (?_)
        clear d0 d1 d2 d3 dz
        clear hK' K'
        try simp only [Act.put, List.setIfInBounds_toArray, List.set_cons_zero, List.set_cons_succ]
        refine wpAnyL_done (by as_aux_lemma => kernel_rfl) ?_ _
        simp only [OnlyN]
        refine ⟨bt, ot, cT, g9, ?_, x9', y9, b17⟩
        (try simp only [Act.put, List.setIfInBounds_toArray, List.set_cons_zero, List.set_cons_succ])
    · go_simp
      have hb16 := below_alloc (Below.refl V0.heap.size V0) (.cells #[.int .i64 0, .int .i64 0, .int .i64 0, .int .i64 0] 53)
      obtain ⟨g9, hg9⟩ : ∃ g, V0.heap.size = g := ⟨_, rfl⟩
      have x9 := heap_alloc_new V0 (.cells #[.int .i64 0, .int .i64 0, .int .i64 0, .int .i64 0] 53)
      have l9 : V0.heap.size < (V0.alloc (.cells #[.int .i64 0, .int .i64 0, .int .i64 0, .int .i64 0] 53)).heap.size := by simp
      have y9 : V3.heap.size ≤ V0.heap.size := bV.size
      have b16 := below_alloc bV (.cells #[.int .i64 0, .int .i64 0, .int .i64 0, .int .i64 0] 53)
      generalize V0.alloc (.cells #[.int .i64 0, .int .i64 0, .int .i64 0, .int .i64 0] 53) = U16 at *
      rw [hg9] at x9 l9 y9 ⊢
      clear hg9 hb16 bV
      have hS := hSB _ (b16.mono hsz)
      refine hK'.out _ _ hS (fun _ => ?_)
      clear hK' K'
      try simp only [Act.put, List.setIfInBounds_toArray, List.set_cons_zero, List.set_cons_succ]
      refine wpAnyL_ready (rs := [2]) (by as_aux_lemma => kernel_rfl) (by simp) ?_
      refine AllReadyL.cons (by simp only [List.getElem?_toArray, List.getElem?_cons_succ, List.getElem?_cons_zero]; rfl) (fun K' hK' => ?_) AllReadyL.nil
      go_simp
      go_at_call 19
      refine (HTl.out _ ((HCA.out.below b16).more b16.size)).mono ?_
      rintro e' U2 ⟨At, cT, rfl, hT, hb2⟩
      obtain ⟨bt, ot, hAt, hlt, ht⟩ := hT.at_.at_ (k := 0) hNT
      subst hAt
      have t0 : U2.cell? ⟨bt, ot, none⟩ = some (.int .i64 (On : Int)) := by have := ht 0 _ (by rw [HT0.out]; rfl); simpa using this
      have t1 : U2.cell? ⟨bt, ot + 1, none⟩ = some (.int .i64 (Pn : Int)) := by have := ht 1 _ (by rw [HT0.out]; rfl); simpa using this
      have t2 : U2.cell? ⟨bt, ot + 2, none⟩ = some (.int .i64 (Tx1 : Int)) := by have := ht 2 _ (by rw [HT0.out]; rfl); simpa using this
      have t3 : U2.cell? ⟨bt, ot + 3, none⟩ = some (.int .i64 (Ty1 : Int)) := by have := ht 3 _ (by rw [HT0.out]; rfl); simpa using this
      clear ht hT
      have x9 := (hb2.block g9 l9).trans x9
      have l9 := Nat.lt_of_lt_of_le l9 hb2.size
      have b2' := below_trans b16 hb2
      have hS := hSB _ (b2'.mono hsz)
      dsimp only
      refine hK'.out _ _ hS (fun _ => ?_)
      clear hb2 b16
      clear hK' K'
      try simp only [Act.put, List.setIfInBounds_toArray, List.set_cons_zero, List.set_cons_succ]
      refine wpAnyL_take (i := 3) (v := .pointer (some ⟨bt, ot, none⟩)) (by simp only [List.getElem?_toArray, List.getElem?_cons_succ, List.getElem?_cons_zero]; rfl) (by as_aux_lemma => kernel_rfl) (by as_aux_lemma => kernel_rfl) (by as_aux_lemma => kernel_rfl) (fun _ _ _ h => h) (Or.inl ⟨by rfl, ?_⟩) hS ?_
      · intro U hU
        obtain ⟨s0, s1, s2, s3⟩ := hU
        go_simp
      simp only [Act.put, List.setIfInBounds_toArray, List.set_cons_zero, List.set_cons_succ]
      refine wpAnyL_ready (rs := [4]) (by as_aux_lemma => kernel_rfl) (by simp) ?_
      refine AllReadyL.cons (by simp only [List.getElem?_toArray, List.getElem?_cons_succ, List.getElem?_cons_zero]; rfl) (fun K' hK' => ?_) AllReadyL.nil
      go_simp
      refine hK'.out _ _ hS (fun _ => ?_)
      clear hK' K'
      try simp only [Act.put, List.setIfInBounds_toArray, List.set_cons_zero, List.set_cons_succ]
      refine wpAnyL_ready (rs := [15]) (by as_aux_lemma => kernel_rfl) (by simp) ?_
      refine AllReadyL.cons (by simp only [List.getElem?_toArray, List.getElem?_cons_succ, List.getElem?_cons_zero]; rfl) (fun K' hK' => ?_) AllReadyL.nil
      go_simp
      go_at_call 22
      refine (HPt.out _).mono ?_
      rintro e' U15 ⟨rfl, hb15⟩
      have t0 := (hb15.cell (p := ⟨bt, ot, none⟩) hlt).trans t0
      have t1 := (hb15.cell (p := ⟨bt, ot + 1, none⟩) hlt).trans t1
      have t2 := (hb15.cell (p := ⟨bt, ot + 2, none⟩) hlt).trans t2
      have t3 := (hb15.cell (p := ⟨bt, ot + 3, none⟩) hlt).trans t3
      have hlt := Nat.lt_of_lt_of_le hlt hb15.size
      have x9 := (hb15.block g9 l9).trans x9
      have l9 := Nat.lt_of_lt_of_le l9 hb15.size
      have b15 := below_trans b2' hb15
      have hS := hSB _ (b15.mono hsz)
      dsimp only
      refine hK'.out _ _ hS (fun _ => ?_)
      clear hb15 b2'
      clear hK' K'
      try simp only [Act.put, List.setIfInBounds_toArray, List.set_cons_zero, List.set_cons_succ]
      refine wpAnyL_ready (rs := [17]) (by as_aux_lemma => kernel_rfl) (by simp) ?_
      refine AllReadyL.last (by simp only [List.getElem?_toArray, List.getElem?_cons_succ, List.getElem?_cons_zero]; rfl) (by as_aux_lemma => kernel_rfl) (fun K' hK' => ?_)
      have d0 : U15.cell? ⟨g9, 0, none⟩ = some (.int .i64 0) := cell_of_row _ _ 0 _ _ (0, 0) x9
      have d1 : U15.cell? ⟨g9, 1, none⟩ = some (.int .i64 0) := cell_of_row _ _ 1 _ _ (0, 0) x9
      have d2 : U15.cell? ⟨g9, 2, none⟩ = some (.int .i64 0) := cell_of_row _ _ 2 _ _ (0, 0) x9
      have d3 : U15.cell? ⟨g9, 3, none⟩ = some (.int .i64 0) := cell_of_row _ _ 3 _ _ (0, 0) x9
      have dz : ∀ i, U15.frozen? ⟨g9, i, none⟩ = false := fun i => frozen_of_row _ _ i _ _ x9
      go_simp
      obtain ⟨U17, hV, x9', b17⟩ : ∃ V, ((((U15.setCell ⟨g9, 0, none⟩ (.int .i64 (Q0 : Int))).setCell ⟨g9, 1, none⟩ (.int .i64 (Q1 : Int))).setCell ⟨g9, 2, none⟩ (.int .i64 (Q2 : Int))).setCell ⟨g9, 3, none⟩ (.int .i64 (Q3 : Int))) = V ∧ V.heap[g9]? = some (.cells #[.int .i64 (Q0 : Int), .int .i64 (Q1 : Int), .int .i64 (Q2 : Int), .int .i64 (Q3 : Int)] 53 (0, 0)) ∧ Below V3.heap.size V3 V := ⟨_, rfl, setRow_at (old := [.int .i64 0, .int .i64 0, .int .i64 0, .int .i64 0]) [.int .i64 (Q0 : Int), .int .i64 (Q1 : Int), .int .i64 (Q2 : Int), .int .i64 (Q3 : Int)] rfl x9, setRow_below y9 [.int .i64 (Q0 : Int), .int .i64 (Q1 : Int), .int .i64 (Q2 : Int), .int .i64 (Q3 : Int)] 0 _ b15⟩
      rw [hV]
      clear hV
      refine hK'.out _ _ (?_)
      clear d0 d1 d2 d3 dz
      clear hK' K'
      try simp only [Act.put, List.setIfInBounds_toArray, List.set_cons_zero, List.set_cons_succ]
      refine wpAnyL_done (by as_aux_lemma => kernel_rfl) ?_ _
      simp only [OnlyN]
      refine ⟨bt, ot, cT, g9, ?_, x9', y9, b17⟩
      (try simp only [Act.put, List.setIfInBounds_toArray, List.set_cons_zero, List.set_cons_succ])
  rintro a' V4 ⟨bt, ot, cT, g9, rfl, rQ, y9, b4⟩
  simp only [Act.put, List.setIfInBounds_toArray, List.set_cons_zero, List.set_cons_succ]
  replace img := (b4.block gm (by omega)).trans img
  replace par := (b4.block (gm + 1) (by omega)).trans par
  have HI4 := Lib.hid (HI3.out.below b4)
  replace b3 := b3.trans (b4.mono (by omega))
  have lQ : g9 < V4.heap.size := (Array.getElem?_eq_some_iff.1 rQ).1
  clear HI3 b4 k2 k3 hbc HCA HTl HT0 HPt
  have hCb : okR ⟨(Q0 : Int), (Q1 : Int), (Q2 : Int), (Q3 : Int)⟩ := by unfold okR; simp only; omega
  have hRes := fun v => resolution_any ⟨(Q0 : Int), (Q1 : Int), (Q2 : Int), (Q3 : Int)⟩ lv rn (lv - rn) (by omega) (by omega) (by omega) hCb v
  have hBnd := fun v => bands_any ⟨(Q0 : Int), (Q1 : Int), (Q2 : Int), (Q3 : Int)⟩ lv rn (by omega) (by omega) hCb v
  obtain ⟨Z, hZ⟩ : ∃ Z, resR ⟨(Q0 : Int), (Q1 : Int), (Q2 : Int), (Q3 : Int)⟩ (lv - rn) = Z := ⟨_, rfl⟩
  have hZb := res_bd (Q0 := Q0) (Q1 := Q1) (Q2 := Q2) (Q3 := Q3) (k := lv - rn) (by omega) (by omega)
  rw [hZ] at hRes hZb
  have hBb := fun j => band_bd (Q0 := Q0) (Q1 := Q1) (Q2 := Q2) (Q3 := Q3) (lv := lv) (r := rn) j (by omega) (by omega) (by omega)
  obtain ⟨BN, hBN⟩ : ∃ z, bandN rn = z := ⟨_, rfl⟩
  have hBN3 : 1 ≤ BN ∧ BN ≤ 3 := by rw [← hBN]; unfold bandN; split <;> omega
  obtain ⟨B, hB⟩ : ∃ B, bandA ⟨(Q0 : Int), (Q1 : Int), (Q2 : Int), (Q3 : Int)⟩ lv rn = B := ⟨_, rfl⟩
  rw [hBN, hB] at hBnd
  rw [hB] at hBb
  have hPre := fun v => precincts_any Z pr (by omega) (hZb.1) v
  have hpb := pre_bd (by omega : pr ≤ 40) hZb.1 hZb.2
  obtain ⟨PW, hPW⟩ := Int.eq_ofNat_of_zero_le hpb.1
  obtain ⟨PH, hPH⟩ := Int.eq_ofNat_of_zero_le hpb.2.2.1
  have hpW : PW ≤ 1048576 ∧ PH ≤ 1048576 := by omega
  have HPW := Lib.hid hPW
  have HPH := Lib.hid hPH
  rw [hPW, hPH] at hPre
  obtain ⟨Z0, Z1, Z2, Z3⟩ := Z
  unfold rcV at hRes hBnd hPre
  simp only at hRes hBnd hPre
  have HRes := Lib.hid hRes
  have HBnd := Lib.hid hBnd
  have HPre := Lib.hid hPre
  have HBb := Lib.hid hBb
  have HZb := Lib.hid hZb
  clear hRes hBnd hPre hZ hB hBN hPW hPH hpb hBb hZb hCb
  have q0 : V4.cell? ⟨g9, 0, none⟩ = some (.int .i64 (Q0 : Int)) := cell_of_row _ _ 0 _ _ (0, 0) rQ
  have q1 : V4.cell? ⟨g9, 1, none⟩ = some (.int .i64 (Q1 : Int)) := cell_of_row _ _ 1 _ _ (0, 0) rQ
  have q2 : V4.cell? ⟨g9, 2, none⟩ = some (.int .i64 (Q2 : Int)) := cell_of_row _ _ 2 _ _ (0, 0) rQ
  have q3 : V4.cell? ⟨g9, 3, none⟩ = some (.int .i64 (Q3 : Int)) := cell_of_row _ _ 3 _ _ (0, 0) rQ
  have p2 : V4.cell? ⟨gm + 1, 2, none⟩ = some (.int .i64 (lv : Int)) := cell_of_row _ _ 2 _ _ (0, 0) par
  go_wp2_with fail
  refine (HRes.out _).mono ?_
  rintro e' V5 ⟨rfl, h5⟩
  replace img := (h5.block gm (by omega)).trans img
  replace par := (h5.block (gm + 1) (by omega)).trans par
  replace rQ := (h5.block g9 (by omega)).trans rQ
  have HI5 := Lib.hid (HI4.out.below h5)
  replace b3 := b3.trans (h5.mono (by omega))
  replace lQ : g9 < V5.heap.size := Nat.lt_of_lt_of_le lQ h5.size
  clear q0 q1 q2 q3 p2 h5 HI4
  go_upto_region 7 with fail
  obtain ⟨g10, hg10⟩ : ∃ g, V5.heap.size = g := ⟨_, rfl⟩
  generalize hV6 : World.alloc V5 _ = V6
  have h6 : Below g10 V5 V6 := by rw [← hV6, ← hg10]; exact below_alloc (Below.refl _ _) _
  have rZ : V6.heap[g10]? = some (.cells #[.int .i64 Z0, .int .i64 Z1, .int .i64 Z2, .int .i64 Z3] 53 (0, 0)) := by rw [← hV6, ← hg10]; exact heap_alloc_new V5 _
  replace img := (h6.block gm (by omega)).trans img
  replace par := (h6.block (gm + 1) (by omega)).trans par
  replace rQ := (h6.block g9 (by omega)).trans rQ
  have HI6 := Lib.hid (HI5.out.below (by rw [hg10]; exact h6))
  replace b3 := b3.trans (h6.mono (by omega))
  have lZ : g10 < V6.heap.size := (Array.getElem?_eq_some_iff.1 rZ).1
  rw [hg10] at lQ ⊢
  have og : gm + 2 ≤ g10 := by omega
  clear hV6 h6 HI5
  have q0 : V6.cell? ⟨g9, 0, none⟩ = some (.int .i64 (Q0 : Int)) := cell_of_row _ _ 0 _ _ (0, 0) rQ
  have q1 : V6.cell? ⟨g9, 1, none⟩ = some (.int .i64 (Q1 : Int)) := cell_of_row _ _ 1 _ _ (0, 0) rQ
  have q2 : V6.cell? ⟨g9, 2, none⟩ = some (.int .i64 (Q2 : Int)) := cell_of_row _ _ 2 _ _ (0, 0) rQ
  have q3 : V6.cell? ⟨g9, 3, none⟩ = some (.int .i64 (Q3 : Int)) := cell_of_row _ _ 3 _ _ (0, 0) rQ
  have p2 : V6.cell? ⟨gm + 1, 2, none⟩ = some (.int .i64 (lv : Int)) := cell_of_row _ _ 2 _ _ (0, 0) par
  go_wp2_with fail
  refine (HBnd.out _).mono ?_
  rintro e' V7 ⟨KA, cK, XA, cX, rfl, _, oX, h7⟩
  replace img := (h7.block gm (by omega)).trans img
  replace par := (h7.block (gm + 1) (by omega)).trans par
  replace rZ := (h7.block g10 (by omega)).trans rZ
  replace b3 := b3.trans (h7.mono (by omega))
  replace lZ : g10 < V7.heap.size := Nat.lt_of_lt_of_le lZ h7.size
  have hX := oX.at_
  have HX := Lib.hid hX
  clear q0 q1 q2 q3 p2 h7 HI6 rQ lQ oX hX
  have q0 : V7.cell? ⟨g10, 0, none⟩ = some (.int .i64 Z0) := cell_of_row _ _ 0 _ _ (0, 0) rZ
  have q1 : V7.cell? ⟨g10, 1, none⟩ = some (.int .i64 Z1) := cell_of_row _ _ 1 _ _ (0, 0) rZ
  have q2 : V7.cell? ⟨g10, 2, none⟩ = some (.int .i64 Z2) := cell_of_row _ _ 2 _ _ (0, 0) rZ
  have q3 : V7.cell? ⟨g10, 3, none⟩ = some (.int .i64 Z3) := cell_of_row _ _ 3 _ _ (0, 0) rZ
  have p5 : V7.cell? ⟨gm + 1, 5, none⟩ = some (.int .i64 (pr : Int)) := cell_of_row _ _ 5 _ _ (0, 0) par
  go_wp2_with fail
  refine (HPre.out _).mono ?_
  rintro e' V8 ⟨rfl, h8⟩
  replace img := (h8.block gm (by omega)).trans img
  replace par := (h8.block (gm + 1) (by omega)).trans par
  replace rZ := (h8.block g10 (by omega)).trans rZ
  replace b3 := b3.trans (h8.mono (by omega))
  replace lZ : g10 < V8.heap.size := Nat.lt_of_lt_of_le lZ h8.size
  have HX8 := Lib.hid ((HX.out.below h8).more h8.size)
  clear q0 q1 q2 q3 p5 h8 HX
  have p5 : V8.cell? ⟨gm + 1, 5, none⟩ = some (.int .i64 (pr : Int)) := cell_of_row _ _ 5 _ _ (0, 0) par
  go_upto_if 75 with fail
  obtain ⟨sd, hsd⟩ : ∃ z, blkS rn pr = z := ⟨_, rfl⟩
  go_cut [15] from 74 (fun p wc' => p = .int .i64 (sd : Int) ∧ wc' = V8)
  case first =>
    rcases Nat.eq_zero_or_pos rn with h0 | h0
    · have e1 : sd = pr := by rw [← hsd]; unfold blkS; rw [if_pos h0]
      have n0 : ¬ 0 < rn := by omega
      go_wp2_with fail
      go_meet
      case rel => exact ⟨by rw [e1], rfl⟩
    · have e1 : sd = pr - 1 := by rw [← hsd]; unfold blkS; rw [if_neg (by omega)]
      have e2 : IntKind.i64.wrap ((pr : Int) - 1) = (sd : Int) := by rw [show (pr : Int) - 1 = (sd : Int) by omega]; exact wr (by omega)
      clear e1
      go_wp2_with fail
      go_meet
      case rel => exact ⟨rfl, rfl⟩
  case rest =>
  obtain ⟨rfl, rfl⟩ := hcut
  have hsd15 : sd ≤ 15 := by rw [← hsd]; unfold blkS; split <;> omega
  obtain ⟨mw, hmw⟩ : ∃ m, min cw sd = m := ⟨_, rfl⟩
  obtain ⟨mh, hmh⟩ : ∃ m, min ch sd = m := ⟨_, rfl⟩
  have HMW := Lib.hid (show (if sd < cw then (sd : Int) else (cw : Int)) = (mw : Int) by split <;> omega)
  have HMH := Lib.hid (show (if sd < ch then (sd : Int) else (ch : Int)) = (mh : Int) by split <;> omega)
  have mw15 : mw ≤ 15 := by omega
  have mh15 : mh ≤ 15 := by omega
  have HMw := Lib.hid hmw
  have HMh := Lib.hid hmh
  have HSD := Lib.hid hsd
  obtain ⟨SX, hSX⟩ : ∃ z : Int, 2 ^ mw = z := ⟨_, rfl⟩
  obtain ⟨SY, hSY⟩ : ∃ z : Int, 2 ^ mh = z := ⟨_, rfl⟩
  have bSX : 1 ≤ SX ∧ SX ≤ 32768 := by rw [← hSX]; exact pow_bd15 mw15
  have bSY : 1 ≤ SY ∧ SY ≤ 32768 := by rw [← hSY]; exact pow_bd15 mh15
  have HSX := Lib.hid hSX
  have HSY := Lib.hid hSY
  have W1 := Lib.hid (show IntKind.u64.wrap (mw : Int) = (mw : Int) from IntWalk.u64_in _ (by omega))
  have W2 := Lib.hid (show IntKind.u64.wrap (mh : Int) = (mh : Int) from IntWalk.u64_in _ (by omega))
  have E1 := Lib.hid (show IntKind.i64.wrap (2 ^ mw) = SX by rw [hSX]; exact wr (by omega))
  have E2 := Lib.hid (show IntKind.i64.wrap (2 ^ mh) = SY by rw [hSY]; exact wr (by omega))
  clear hsd hmw hmh hSX hSY p5
  go_upto_region 12 with fail
  obtain ⟨Vc, hVc⟩ : ∃ Vc, wc = Vc := ⟨_, rfl⟩
  subst hVc
  refine last_cut (by kernel_rfl) (fun U => U.heap[gm + 1]? = some (.cells #[.int .i64 (tx : Int), .int .i64 (ty : Int), .int .i64 (lv : Int), .int .i64 (cw : Int), .int .i64 (ch : Int), .int .i64 (pr : Int), .int .i64 (st : Int), .int .i64 (od : Int), .int .i64 (ly : Int), .bool rct, .bool fsop, .bool feph] 27 (0, 0))) (fun aF a' W' => a' = ((((((((((((((aF.put (some 78) (.pointer (some ⟨gm + 1, 3, none⟩))).put (some 79) (.int .i64 (cw : Int))).put (some 80) (.int .i64 (sd : Int))).put (some 81) (.int .i64 (mw : Int))).put (some 82) (.int .u64 (mw : Int))).put (some 83) (.int .i64 SX)).put (some 84) (.pointer (some ⟨gm + 1, 4, none⟩))).put (some 85) (.int .i64 (ch : Int))).put (some 86) (.int .i64 (sd : Int))).put (some 87) (.int .i64 (mh : Int))).put (some 88) (.int .u64 (mh : Int))).put (some 89) (.int .i64 SY)).put (some 16) (.int .i64 SX)).put (some 17) (.int .i64 SY)) ∧ Below wc.heap.size wc W') (par) (fun hS => ?_) ?_
  · skip
    have hSB : ∀ U : World, Below (wc.heap.size) wc U → U.heap[gm + 1]? = some (.cells #[.int .i64 (tx : Int), .int .i64 (ty : Int), .int .i64 (lv : Int), .int .i64 (cw : Int), .int .i64 (ch : Int), .int .i64 (pr : Int), .int .i64 (st : Int), .int .i64 (od : Int), .int .i64 (ly : Int), .bool rct, .bool fsop, .bool feph] 27 (0, 0)) := fun U h => ((h.block (gm + 1) (by omega)).trans (par))
    have bV : Below wc.heap.size wc wc.drew := (Below.refl _ _).drew
    generalize wc.drew = V0 at *
    change wpAnyL _ _ _ _ _ 14 #[false, false, false, false, false, false, false, false, false, false, false, false, false, false] _ _
    refine wpAnyL_take (i := 0) (v := .pointer (some ⟨gm + 1, 3, none⟩)) (by simp only [List.getElem?_toArray, List.getElem?_cons_succ, List.getElem?_cons_zero]; rfl) (by as_aux_lemma => kernel_rfl) (by as_aux_lemma => kernel_rfl) (by as_aux_lemma => kernel_rfl) (fun _ _ _ h => h) (Or.inl ⟨by rfl, ?_⟩) hS ?_
    · intro U hU
      have s0 := hU
      show _ = _
      kernel_rfl
    simp only [Act.put, List.setIfInBounds_toArray, List.set_cons_zero, List.set_cons_succ]
    refine wpAnyL_take (i := 1) (v := .int .i64 (cw : Int)) (by simp only [List.getElem?_toArray, List.getElem?_cons_succ, List.getElem?_cons_zero]; rfl) (by as_aux_lemma => kernel_rfl) (by as_aux_lemma => kernel_rfl) (by as_aux_lemma => kernel_rfl) (fun _ _ _ h => h) (Or.inl ⟨by rfl, ?_⟩) hS ?_
    · intro U hU
      have s0 := hU
      show _ = _
      have r0_3 : U.cell? ⟨gm + 1, 3, none⟩ = some (.int .i64 (cw : Int)) := cell_of_row _ _ 3 _ _ (0, 0) s0
      exact exec_loadCell rfl rfl r0_3 (by kernel_rfl)
    simp only [Act.put, List.setIfInBounds_toArray, List.set_cons_zero, List.set_cons_succ]
    refine wpAnyL_take (i := 2) (v := .int .i64 (sd : Int)) (by simp only [List.getElem?_toArray, List.getElem?_cons_succ, List.getElem?_cons_zero]; rfl) (by as_aux_lemma => kernel_rfl) (by as_aux_lemma => kernel_rfl) (by as_aux_lemma => kernel_rfl) (fun _ _ _ h => h) (Or.inl ⟨by rfl, ?_⟩) hS ?_
    · intro U hU
      have s0 := hU
      show _ = _
      kernel_rfl
    simp only [Act.put, List.setIfInBounds_toArray, List.set_cons_zero, List.set_cons_succ]
    refine wpAnyL_take (i := 3) (v := .int .i64 (mw : Int)) (by simp only [List.getElem?_toArray, List.getElem?_cons_succ, List.getElem?_cons_zero]; rfl) (by as_aux_lemma => kernel_rfl) (by as_aux_lemma => kernel_rfl) (by as_aux_lemma => kernel_rfl) (fun _ _ _ h => h) (Or.inl ⟨by rfl, ?_⟩) hS ?_
    · intro U hU
      have s0 := hU
      show _ = _
      have hz := HMW.out
      go_simp
    simp only [Act.put, List.setIfInBounds_toArray, List.set_cons_zero, List.set_cons_succ]
    refine wpAnyL_take (i := 4) (v := .int .u64 (mw : Int)) (by simp only [List.getElem?_toArray, List.getElem?_cons_succ, List.getElem?_cons_zero]; rfl) (by as_aux_lemma => kernel_rfl) (by as_aux_lemma => kernel_rfl) (by as_aux_lemma => kernel_rfl) (fun _ _ _ h => h) (Or.inl ⟨by rfl, ?_⟩) hS ?_
    · intro U hU
      have s0 := hU
      show _ = _
      have hz := W1.out
      go_simp
    simp only [Act.put, List.setIfInBounds_toArray, List.set_cons_zero, List.set_cons_succ]
    refine wpAnyL_take (i := 5) (v := .int .i64 SX) (by simp only [List.getElem?_toArray, List.getElem?_cons_succ, List.getElem?_cons_zero]; rfl) (by as_aux_lemma => kernel_rfl) (by as_aux_lemma => kernel_rfl) (by as_aux_lemma => kernel_rfl) (fun _ _ _ h => h) (Or.inl ⟨by rfl, ?_⟩) hS ?_
    · intro U hU
      have s0 := hU
      show _ = _
      have hz := E1.out
      go_simp
    simp only [Act.put, List.setIfInBounds_toArray, List.set_cons_zero, List.set_cons_succ]
    refine wpAnyL_take (i := 6) (v := .pointer (some ⟨gm + 1, 4, none⟩)) (by simp only [List.getElem?_toArray, List.getElem?_cons_succ, List.getElem?_cons_zero]; rfl) (by as_aux_lemma => kernel_rfl) (by as_aux_lemma => kernel_rfl) (by as_aux_lemma => kernel_rfl) (fun _ _ _ h => h) (Or.inl ⟨by rfl, ?_⟩) hS ?_
    · intro U hU
      have s0 := hU
      show _ = _
      kernel_rfl
    simp only [Act.put, List.setIfInBounds_toArray, List.set_cons_zero, List.set_cons_succ]
    refine wpAnyL_take (i := 7) (v := .int .i64 (ch : Int)) (by simp only [List.getElem?_toArray, List.getElem?_cons_succ, List.getElem?_cons_zero]; rfl) (by as_aux_lemma => kernel_rfl) (by as_aux_lemma => kernel_rfl) (by as_aux_lemma => kernel_rfl) (fun _ _ _ h => h) (Or.inl ⟨by rfl, ?_⟩) hS ?_
    · intro U hU
      have s0 := hU
      show _ = _
      have r0_4 : U.cell? ⟨gm + 1, 4, none⟩ = some (.int .i64 (ch : Int)) := cell_of_row _ _ 4 _ _ (0, 0) s0
      exact exec_loadCell rfl rfl r0_4 (by kernel_rfl)
    simp only [Act.put, List.setIfInBounds_toArray, List.set_cons_zero, List.set_cons_succ]
    refine wpAnyL_take (i := 8) (v := .int .i64 (sd : Int)) (by simp only [List.getElem?_toArray, List.getElem?_cons_succ, List.getElem?_cons_zero]; rfl) (by as_aux_lemma => kernel_rfl) (by as_aux_lemma => kernel_rfl) (by as_aux_lemma => kernel_rfl) (fun _ _ _ h => h) (Or.inl ⟨by rfl, ?_⟩) hS ?_
    · intro U hU
      have s0 := hU
      show _ = _
      kernel_rfl
    simp only [Act.put, List.setIfInBounds_toArray, List.set_cons_zero, List.set_cons_succ]
    refine wpAnyL_take (i := 9) (v := .int .i64 (mh : Int)) (by simp only [List.getElem?_toArray, List.getElem?_cons_succ, List.getElem?_cons_zero]; rfl) (by as_aux_lemma => kernel_rfl) (by as_aux_lemma => kernel_rfl) (by as_aux_lemma => kernel_rfl) (fun _ _ _ h => h) (Or.inl ⟨by rfl, ?_⟩) hS ?_
    · intro U hU
      have s0 := hU
      show _ = _
      have hz := HMH.out
      go_simp
    simp only [Act.put, List.setIfInBounds_toArray, List.set_cons_zero, List.set_cons_succ]
    refine wpAnyL_take (i := 10) (v := .int .u64 (mh : Int)) (by simp only [List.getElem?_toArray, List.getElem?_cons_succ, List.getElem?_cons_zero]; rfl) (by as_aux_lemma => kernel_rfl) (by as_aux_lemma => kernel_rfl) (by as_aux_lemma => kernel_rfl) (fun _ _ _ h => h) (Or.inl ⟨by rfl, ?_⟩) hS ?_
    · intro U hU
      have s0 := hU
      show _ = _
      have hz := W2.out
      go_simp
    simp only [Act.put, List.setIfInBounds_toArray, List.set_cons_zero, List.set_cons_succ]
    refine wpAnyL_take (i := 11) (v := .int .i64 SY) (by simp only [List.getElem?_toArray, List.getElem?_cons_succ, List.getElem?_cons_zero]; rfl) (by as_aux_lemma => kernel_rfl) (by as_aux_lemma => kernel_rfl) (by as_aux_lemma => kernel_rfl) (fun _ _ _ h => h) (Or.inl ⟨by rfl, ?_⟩) hS ?_
    · intro U hU
      have s0 := hU
      show _ = _
      have hz := E2.out
      go_simp
    simp only [Act.put, List.setIfInBounds_toArray, List.set_cons_zero, List.set_cons_succ]
    refine wpAnyL_take (i := 12) (v := .int .i64 SX) (by simp only [List.getElem?_toArray, List.getElem?_cons_succ, List.getElem?_cons_zero]; rfl) (by as_aux_lemma => kernel_rfl) (by as_aux_lemma => kernel_rfl) (by as_aux_lemma => kernel_rfl) (fun _ _ _ h => h) (Or.inl ⟨by rfl, ?_⟩) hS ?_
    · intro U hU
      have s0 := hU
      show _ = _
      kernel_rfl
    simp only [Act.put, List.setIfInBounds_toArray, List.set_cons_zero, List.set_cons_succ]
    refine wpAnyL_take (i := 13) (v := .int .i64 SY) (by simp only [List.getElem?_toArray, List.getElem?_cons_succ, List.getElem?_cons_zero]; rfl) (by as_aux_lemma => kernel_rfl) (by as_aux_lemma => kernel_rfl) (by as_aux_lemma => kernel_rfl) (fun _ _ _ h => h) (Or.inl ⟨by rfl, ?_⟩) hS ?_
    · intro U hU
      have s0 := hU
      show _ = _
      kernel_rfl
    simp only [Act.put, List.setIfInBounds_toArray, List.set_cons_zero, List.set_cons_succ]
    refine wpAnyL_done (by as_aux_lemma => kernel_rfl) ?_ _
    simp only [OnlyN]
    refine ⟨?_, bV⟩
    (try simp only [Act.put, List.setIfInBounds_toArray, List.set_cons_zero, List.set_cons_succ])
  rintro a' Vd ⟨rfl, hd⟩
  simp only [Act.put, List.setIfInBounds_toArray, List.set_cons_zero, List.set_cons_succ]
  replace par := (hd.block (gm + 1) (by omega)).trans par
  replace rZ := (hd.block g10 lZ).trans rZ
  replace b3 := b3.trans (hd.mono (by omega))
  replace lZ : g10 < Vd.heap.size := Nat.lt_of_lt_of_le lZ hd.size
  obtain ⟨en, hen, _, HWe0⟩ := within12v e BN (BN : Int) rfl (by omega) (by omega)
  have HWe := Lib.hid HWe0
  clear HWe0
  have hx0 := (HX8.out.below hd)
  obtain ⟨bx, ox, hXA, hbx, hcx⟩ := hx0.at_ (k := en) hen
  subst hXA
  replace hbx := Nat.lt_of_lt_of_le hbx hd.size
  obtain ⟨bx', ox', hXA', hbx', hcx'⟩ := hx0.at_ (k := 0) (by omega)
  cases hXA'
  obtain ⟨hok, hsm⟩ := HBb.out en
  obtain ⟨hok', hsm'⟩ := HBb.out 0
  have y0 : Vd.cell? ⟨bx, ox + en * 4, none⟩ = some (.int .i64 (B en).x0) := by have := hcx 0 _ rfl; simpa using this
  have y1 : Vd.cell? ⟨bx, ox + en * 4 + 1, none⟩ = some (.int .i64 (B en).y0) := hcx 1 _ rfl
  have y2 : Vd.cell? ⟨bx, ox + en * 4 + 2, none⟩ = some (.int .i64 (B en).x1) := hcx 2 _ rfl
  have y3 : Vd.cell? ⟨bx, ox + en * 4 + 3, none⟩ = some (.int .i64 (B en).y1) := hcx 3 _ rfl
  have v0 : Vd.cell? ⟨bx, ox, none⟩ = some (.int .i64 (B 0).x0) := by have := hcx' 0 _ rfl; simpa using this
  have v1 : Vd.cell? ⟨bx, ox + 1, none⟩ = some (.int .i64 (B 0).y0) := by have := hcx' 1 _ rfl; simpa using this
  have v2 : Vd.cell? ⟨bx, ox + 2, none⟩ = some (.int .i64 (B 0).x1) := by have := hcx' 2 _ rfl; simpa using this
  have v3 : Vd.cell? ⟨bx, ox + 3, none⟩ = some (.int .i64 (B 0).y1) := by have := hcx' 3 _ rfl; simpa using this
  obtain ⟨NK, hNK⟩ : ∃ z : Nat, PW * PH = z := ⟨_, rfl⟩
  have hNKb : NK ≤ 1099511627776 := by
    rw [← hNK]
    exact Nat.mul_le_mul hpW.1 hpW.2
  have wNK : IntKind.i64.wrap ((PW : Int) * PH) = (NK : Int) := by rw [show (PW : Int) * PH = ((PW * PH : Nat) : Int) from (Int.natCast_mul _ _).symm, hNK]; exact wr (by omega)
  have HNK := Lib.hid hNK
  have hBl : ∀ (j : Nat) (v : World) (kn : Nat), kn ≤ NK → _ := fun j v kn hk => blocks_any (B j) ⟨Z0, Z1, Z2, Z3⟩ tx ty lv cw ch pr st od ly rct fsop feph rn kn hway (HBb.out j).1 (by have := (HBb.out j).2; unfold smallB at this; exact this) HZb.out.1 HZb.out.2 (by omega) (by omega) v _ rfl
  rw [HSD.out, HMw.out, HMh.out] at hBl
  unfold rcV parV at hBl
  have HBl := Lib.hid hBl
  clear hNK hBl hcx hcx' hx0 HX8 hd hbx' W1 W2 E1 E2 HMW HMH
  obtain ⟨V0d, hV0d⟩ : ∃ V0d, Vd = V0d := ⟨_, rfl⟩
  subst hV0d
  go_wp2_with fail
  go_loopw [18] (fun kk wr => ∃ kn : Nat, kn ≤ NK ∧ kk = .int .i64 (kn : Int) ∧ Below Vd.heap.size Vd wr) (fun kk _ => NK - (intOf kk).toNat)
  case atStart => exact ⟨0, Nat.zero_le _, rfl, Below.refl _ _⟩
  case round =>
    obtain ⟨kn, hkn, rfl, hbe⟩ := hrel
    have par1 := (hbe.block (gm + 1) (by omega)).trans par
    have rZ1 := (hbe.block g10 (by omega)).trans rZ
    have hle := hbe.size
    obtain ⟨wa, hwa⟩ : ∃ wa, wa = wr := ⟨_, rfl⟩
    subst hwa
    by_cases hlt : kn < NK
    · have y0' := (hbe.cell (p := ⟨bx, ox + en * 4, none⟩) hbx).trans y0
      have y1' := (hbe.cell (p := ⟨bx, ox + en * 4 + 1, none⟩) hbx).trans y1
      have y2' := (hbe.cell (p := ⟨bx, ox + en * 4 + 2, none⟩) hbx).trans y2
      have y3' := (hbe.cell (p := ⟨bx, ox + en * 4 + 3, none⟩) hbx).trans y3
      have hBk := fun v => HBl.out en v kn (by omega)
      obtain ⟨aa, haa⟩ : ∃ aa, partR (B en) ⟨Z0, Z1, Z2, Z3⟩ pr sd kn = aa := ⟨_, rfl⟩
      have hab : emptyB aa = false → _ := fun h => part_bd (band := B en) (res := ⟨Z0, Z1, Z2, Z3⟩) (pr := pr) (sd := sd) (k := kn) (by have := hsm; unfold smallB at this; exact this) (by rw [haa]; exact h)
      rw [haa] at hBk hab
      obtain ⟨NB, hNB⟩ : ∃ z, blksN aa mw mh = z := ⟨_, rfl⟩
      obtain ⟨WB, hWB⟩ : ∃ z, blksW aa mw = z := ⟨_, rfl⟩
      rw [hNB, hWB] at hBk
      have HBk := Lib.hid hBk
      have HNB := Lib.hid hNB
      have HWB := Lib.hid hWB
      have HAB := Lib.hid hab
      clear hBk hNB hWB haa hab
      go_upto_region 16 with fail
      have hszw : Vd.heap.size ≤ wa.heap.size := hle
      refine last_cut (by kernel_rfl) (fun U => U.heap[gm + 1]? = some (.cells #[.int .i64 (tx : Int), .int .i64 (ty : Int), .int .i64 (lv : Int), .int .i64 (cw : Int), .int .i64 (ch : Int), .int .i64 (pr : Int), .int .i64 (st : Int), .int .i64 (od : Int), .int .i64 (ly : Int), .bool rct, .bool fsop, .bool feph] 27 (0, 0)) ∧ U.heap[g10]? = some (.cells #[.int .i64 Z0, .int .i64 Z1, .int .i64 Z2, .int .i64 Z3] 53 (0, 0)) ∧ U.cell? ⟨bx, ox + en * 4, none⟩ = some (.int .i64 (B en).x0) ∧ U.cell? ⟨bx, ox + en * 4 + 1, none⟩ = some (.int .i64 (B en).y0) ∧ U.cell? ⟨bx, ox + en * 4 + 2, none⟩ = some (.int .i64 (B en).x1) ∧ U.cell? ⟨bx, ox + en * 4 + 3, none⟩ = some (.int .i64 (B en).y1)) (fun aF a' W' => ∃ Ab cb, a' = (((((((((((((((((aF.put (some 98) (.slice (some ⟨bx, ox, none⟩) BN cX)).put (some 99) (.int .i64 e)).put (some 100) (.slice (some ⟨bx, ox, none⟩) BN cX)).put (some 101) (.int .i64 (BN : Int))).put (some 102) (.int .i64 (en : Int))).put (some 103) (.pointer (some ⟨bx, ox + en * 4, none⟩))).put (some 104) (.agg #[.int .i64 (B en).x0, .int .i64 (B en).y0, .int .i64 (B en).x1, .int .i64 (B en).y1])).put (some 105) (.agg #[.int .i64 Z0, .int .i64 Z1, .int .i64 Z2, .int .i64 Z3])).put (some 106) (.agg #[.int .i64 (tx : Int), .int .i64 (ty : Int), .int .i64 (lv : Int), .int .i64 (cw : Int), .int .i64 (ch : Int), .int .i64 (pr : Int), .int .i64 (st : Int), .int .i64 (od : Int), .int .i64 (ly : Int), .bool rct, .bool fsop, .bool feph])).put (some 107) (.int .i64 (rn : Int))).put (some 108) (.int .i64 (kn : Int))).put (some 109) (.tuple #[.slice Ab NB cb, .int .i64 (WB : Int)])).put (some 97) (.tuple #[.slice Ab NB cb, .int .i64 (WB : Int)])).put (some 110) (.slice Ab NB cb)).put (some 111) (.int .i64 (WB : Int))).put (some 19) (.slice Ab NB cb)).put (some 20) (.int .i64 (WB : Int))) ∧ OwnC W' wa.heap.size 53 4 (.slice Ab NB cb) NB (fun i => rcL (blkR aa mw mh (gridAt WB i))) ∧ Below wa.heap.size wa W') ⟨par1, rZ1, y0', y1', y2', y3'⟩ (fun hS => ?_) ?_
      · skip
        have hSB : ∀ U : World, Below (Vd.heap.size) wa U → U.heap[gm + 1]? = some (.cells #[.int .i64 (tx : Int), .int .i64 (ty : Int), .int .i64 (lv : Int), .int .i64 (cw : Int), .int .i64 (ch : Int), .int .i64 (pr : Int), .int .i64 (st : Int), .int .i64 (od : Int), .int .i64 (ly : Int), .bool rct, .bool fsop, .bool feph] 27 (0, 0)) ∧ U.heap[g10]? = some (.cells #[.int .i64 Z0, .int .i64 Z1, .int .i64 Z2, .int .i64 Z3] 53 (0, 0)) ∧ U.cell? ⟨bx, ox + en * 4, none⟩ = some (.int .i64 (B en).x0) ∧ U.cell? ⟨bx, ox + en * 4 + 1, none⟩ = some (.int .i64 (B en).y0) ∧ U.cell? ⟨bx, ox + en * 4 + 2, none⟩ = some (.int .i64 (B en).x1) ∧ U.cell? ⟨bx, ox + en * 4 + 3, none⟩ = some (.int .i64 (B en).y1) := fun U h => ⟨(h.block (gm + 1) (by omega)).trans (par1), (h.block (g10) (by omega)).trans (rZ1), (h.cell (p := ⟨bx, ox + en * 4, none⟩) (by simp only; omega)).trans (y0'), (h.cell (p := ⟨bx, ox + en * 4 + 1, none⟩) (by simp only; omega)).trans (y1'), (h.cell (p := ⟨bx, ox + en * 4 + 2, none⟩) (by simp only; omega)).trans (y2'), (h.cell (p := ⟨bx, ox + en * 4 + 3, none⟩) (by simp only; omega)).trans (y3')⟩
        have bV : Below wa.heap.size wa wa.drew := (Below.refl _ _).drew
        generalize wa.drew = V0 at *
        change wpAnyL _ _ _ _ _ 17 #[false, false, false, false, false, false, false, false, false, false, false, false, false, false, false, false, false] _ _
        refine wpAnyL_take (i := 0) (v := .slice (some ⟨bx, ox, none⟩) BN cX) (by simp only [List.getElem?_toArray, List.getElem?_cons_succ, List.getElem?_cons_zero]; rfl) (by as_aux_lemma => kernel_rfl) (by as_aux_lemma => kernel_rfl) (by as_aux_lemma => kernel_rfl) (fun _ _ _ h => h) (Or.inl ⟨by rfl, ?_⟩) hS ?_
        · intro U hU
          obtain ⟨s0, s1, s2, s3, s4, s5⟩ := hU
          kernel_rfl
        simp only [Act.put, List.setIfInBounds_toArray, List.set_cons_zero, List.set_cons_succ]
        refine wpAnyL_take (i := 1) (v := .int .i64 e) (by simp only [List.getElem?_toArray, List.getElem?_cons_succ, List.getElem?_cons_zero]; rfl) (by as_aux_lemma => kernel_rfl) (by as_aux_lemma => kernel_rfl) (by as_aux_lemma => kernel_rfl) (fun _ _ _ h => h) (Or.inl ⟨by rfl, ?_⟩) hS ?_
        · intro U hU
          obtain ⟨s0, s1, s2, s3, s4, s5⟩ := hU
          kernel_rfl
        simp only [Act.put, List.setIfInBounds_toArray, List.set_cons_zero, List.set_cons_succ]
        refine wpAnyL_take (i := 2) (v := .slice (some ⟨bx, ox, none⟩) BN cX) (by simp only [List.getElem?_toArray, List.getElem?_cons_succ, List.getElem?_cons_zero]; rfl) (by as_aux_lemma => kernel_rfl) (by as_aux_lemma => kernel_rfl) (by as_aux_lemma => kernel_rfl) (fun _ _ _ h => h) (Or.inl ⟨by rfl, ?_⟩) hS ?_
        · intro U hU
          obtain ⟨s0, s1, s2, s3, s4, s5⟩ := hU
          kernel_rfl
        simp only [Act.put, List.setIfInBounds_toArray, List.set_cons_zero, List.set_cons_succ]
        refine wpAnyL_take (i := 3) (v := .int .i64 (BN : Int)) (by simp only [List.getElem?_toArray, List.getElem?_cons_succ, List.getElem?_cons_zero]; rfl) (by as_aux_lemma => kernel_rfl) (by as_aux_lemma => kernel_rfl) (by as_aux_lemma => kernel_rfl) (fun _ _ _ h => h) (Or.inl ⟨by rfl, ?_⟩) hS ?_
        · intro U hU
          obtain ⟨s0, s1, s2, s3, s4, s5⟩ := hU
          go_simp
        simp only [Act.put, List.setIfInBounds_toArray, List.set_cons_zero, List.set_cons_succ]
        refine wpAnyL_call (i := 4) (v := .int .i64 (en : Int)) (f := 12) (args := #[.int .i64 e, .int .i64 (BN : Int)]) (by simp only [List.getElem?_toArray, List.getElem?_cons_succ, List.getElem?_cons_zero]; rfl) (by as_aux_lemma => kernel_rfl) (by as_aux_lemma => kernel_rfl) (by as_aux_lemma => kernel_rfl) (fun _ _ _ h => h) (by rfl) (fun w => HWe.out w) ?_ hS ?_
        · intro U hU
          obtain ⟨s0, s1, s2, s3, s4, s5⟩ := hU
          go_simp
        simp only [Act.put, List.setIfInBounds_toArray, List.set_cons_zero, List.set_cons_succ]
        refine wpAnyL_take (i := 5) (v := .pointer (some ⟨bx, ox + en * 4, none⟩)) (by simp only [List.getElem?_toArray, List.getElem?_cons_succ, List.getElem?_cons_zero]; rfl) (by as_aux_lemma => kernel_rfl) (by as_aux_lemma => kernel_rfl) (by as_aux_lemma => kernel_rfl) (fun _ _ _ h => h) (Or.inl ⟨by rfl, ?_⟩) hS ?_
        · intro U hU
          obtain ⟨s0, s1, s2, s3, s4, s5⟩ := hU
          go_simp
        simp only [Act.put, List.setIfInBounds_toArray, List.set_cons_zero, List.set_cons_succ]
        refine wpAnyL_take (i := 6) (v := .agg #[.int .i64 (B en).x0, .int .i64 (B en).y0, .int .i64 (B en).x1, .int .i64 (B en).y1]) (by simp only [List.getElem?_toArray, List.getElem?_cons_succ, List.getElem?_cons_zero]; rfl) (by as_aux_lemma => kernel_rfl) (by as_aux_lemma => kernel_rfl) (by as_aux_lemma => kernel_rfl) (fun _ _ _ h => h) (Or.inl ⟨by rfl, ?_⟩) hS ?_
        · intro U hU
          obtain ⟨s0, s1, s2, s3, s4, s5⟩ := hU
          go_simp
        simp only [Act.put, List.setIfInBounds_toArray, List.set_cons_zero, List.set_cons_succ]
        refine wpAnyL_take (i := 7) (v := .agg #[.int .i64 Z0, .int .i64 Z1, .int .i64 Z2, .int .i64 Z3]) (by simp only [List.getElem?_toArray, List.getElem?_cons_succ, List.getElem?_cons_zero]; rfl) (by as_aux_lemma => kernel_rfl) (by as_aux_lemma => kernel_rfl) (by as_aux_lemma => kernel_rfl) (fun _ _ _ h => h) (Or.inl ⟨by rfl, ?_⟩) hS ?_
        · intro U hU
          obtain ⟨s0, s1, s2, s3, s4, s5⟩ := hU
          exact exec_loadRow (cs := [.int .i64 Z0, .int .i64 Z1, .int .i64 Z2, .int .i64 Z3]) rfl rfl s1 (by kernel_rfl) (by kernel_rfl)
        simp only [Act.put, List.setIfInBounds_toArray, List.set_cons_zero, List.set_cons_succ]
        refine wpAnyL_take (i := 8) (v := .agg #[.int .i64 (tx : Int), .int .i64 (ty : Int), .int .i64 (lv : Int), .int .i64 (cw : Int), .int .i64 (ch : Int), .int .i64 (pr : Int), .int .i64 (st : Int), .int .i64 (od : Int), .int .i64 (ly : Int), .bool rct, .bool fsop, .bool feph]) (by simp only [List.getElem?_toArray, List.getElem?_cons_succ, List.getElem?_cons_zero]; rfl) (by as_aux_lemma => kernel_rfl) (by as_aux_lemma => kernel_rfl) (by as_aux_lemma => kernel_rfl) (fun _ _ _ h => h) (Or.inl ⟨by rfl, ?_⟩) hS ?_
        · intro U hU
          obtain ⟨s0, s1, s2, s3, s4, s5⟩ := hU
          exact exec_loadRow (cs := [.int .i64 (tx : Int), .int .i64 (ty : Int), .int .i64 (lv : Int), .int .i64 (cw : Int), .int .i64 (ch : Int), .int .i64 (pr : Int), .int .i64 (st : Int), .int .i64 (od : Int), .int .i64 (ly : Int), .bool rct, .bool fsop, .bool feph]) rfl rfl s0 (by kernel_rfl) (by kernel_rfl)
        simp only [Act.put, List.setIfInBounds_toArray, List.set_cons_zero, List.set_cons_succ]
        refine wpAnyL_take (i := 9) (v := .int .i64 (rn : Int)) (by simp only [List.getElem?_toArray, List.getElem?_cons_succ, List.getElem?_cons_zero]; rfl) (by as_aux_lemma => kernel_rfl) (by as_aux_lemma => kernel_rfl) (by as_aux_lemma => kernel_rfl) (fun _ _ _ h => h) (Or.inl ⟨by rfl, ?_⟩) hS ?_
        · intro U hU
          obtain ⟨s0, s1, s2, s3, s4, s5⟩ := hU
          kernel_rfl
        simp only [Act.put, List.setIfInBounds_toArray, List.set_cons_zero, List.set_cons_succ]
        refine wpAnyL_take (i := 10) (v := .int .i64 (kn : Int)) (by simp only [List.getElem?_toArray, List.getElem?_cons_succ, List.getElem?_cons_zero]; rfl) (by as_aux_lemma => kernel_rfl) (by as_aux_lemma => kernel_rfl) (by as_aux_lemma => kernel_rfl) (fun _ _ _ h => h) (Or.inl ⟨by rfl, ?_⟩) hS ?_
        · intro U hU
          obtain ⟨s0, s1, s2, s3, s4, s5⟩ := hU
          kernel_rfl
        simp only [Act.put, List.setIfInBounds_toArray, List.set_cons_zero, List.set_cons_succ]
        refine wpAnyL_ready (rs := [11]) (by as_aux_lemma => kernel_rfl) (by simp) ?_
        refine AllReadyL.cons (by simp only [List.getElem?_toArray, List.getElem?_cons_succ, List.getElem?_cons_zero]; rfl) (fun K' hK' => ?_) AllReadyL.nil
        go_simp
        go_at_call 31
        refine (HBk.out _).mono ?_
        rintro e' U11 ⟨Ab, cb, rfl, oB, hb11⟩
        have b11 := below_trans bV hb11
        have hS := hSB _ (b11.mono hszw)
        have oB := oB.mono (bV.size)
        dsimp only
        refine hK'.out _ _ hS (fun _ => ?_)
        clear hb11
        clear hK' K'
        try simp only [Act.put, List.setIfInBounds_toArray, List.set_cons_zero, List.set_cons_succ]
        refine wpAnyL_take (i := 12) (v := .tuple #[.slice Ab NB cb, .int .i64 (WB : Int)]) (by simp only [List.getElem?_toArray, List.getElem?_cons_succ, List.getElem?_cons_zero]; rfl) (by as_aux_lemma => kernel_rfl) (by as_aux_lemma => kernel_rfl) (by as_aux_lemma => kernel_rfl) (fun _ _ _ h => h) (Or.inl ⟨by rfl, ?_⟩) hS ?_
        · intro U hU
          obtain ⟨s0, s1, s2, s3, s4, s5⟩ := hU
          kernel_rfl
        simp only [Act.put, List.setIfInBounds_toArray, List.set_cons_zero, List.set_cons_succ]
        refine wpAnyL_take (i := 13) (v := .slice Ab NB cb) (by simp only [List.getElem?_toArray, List.getElem?_cons_succ, List.getElem?_cons_zero]; rfl) (by as_aux_lemma => kernel_rfl) (by as_aux_lemma => kernel_rfl) (by as_aux_lemma => kernel_rfl) (fun _ _ _ h => h) (Or.inl ⟨by rfl, ?_⟩) hS ?_
        · intro U hU
          obtain ⟨s0, s1, s2, s3, s4, s5⟩ := hU
          kernel_rfl
        simp only [Act.put, List.setIfInBounds_toArray, List.set_cons_zero, List.set_cons_succ]
        refine wpAnyL_take (i := 14) (v := .int .i64 (WB : Int)) (by simp only [List.getElem?_toArray, List.getElem?_cons_succ, List.getElem?_cons_zero]; rfl) (by as_aux_lemma => kernel_rfl) (by as_aux_lemma => kernel_rfl) (by as_aux_lemma => kernel_rfl) (fun _ _ _ h => h) (Or.inl ⟨by rfl, ?_⟩) hS ?_
        · intro U hU
          obtain ⟨s0, s1, s2, s3, s4, s5⟩ := hU
          kernel_rfl
        simp only [Act.put, List.setIfInBounds_toArray, List.set_cons_zero, List.set_cons_succ]
        refine wpAnyL_take (i := 15) (v := .slice Ab NB cb) (by simp only [List.getElem?_toArray, List.getElem?_cons_succ, List.getElem?_cons_zero]; rfl) (by as_aux_lemma => kernel_rfl) (by as_aux_lemma => kernel_rfl) (by as_aux_lemma => kernel_rfl) (fun _ _ _ h => h) (Or.inl ⟨by rfl, ?_⟩) hS ?_
        · intro U hU
          obtain ⟨s0, s1, s2, s3, s4, s5⟩ := hU
          kernel_rfl
        simp only [Act.put, List.setIfInBounds_toArray, List.set_cons_zero, List.set_cons_succ]
        refine wpAnyL_take (i := 16) (v := .int .i64 (WB : Int)) (by simp only [List.getElem?_toArray, List.getElem?_cons_succ, List.getElem?_cons_zero]; rfl) (by as_aux_lemma => kernel_rfl) (by as_aux_lemma => kernel_rfl) (by as_aux_lemma => kernel_rfl) (fun _ _ _ h => h) (Or.inl ⟨by rfl, ?_⟩) hS ?_
        · intro U hU
          obtain ⟨s0, s1, s2, s3, s4, s5⟩ := hU
          kernel_rfl
        simp only [Act.put, List.setIfInBounds_toArray, List.set_cons_zero, List.set_cons_succ]
        refine wpAnyL_done (by as_aux_lemma => kernel_rfl) ?_ _
        simp only [OnlyN]
        refine ⟨Ab, cb, ?_, oB, b11⟩
        (try simp only [Act.put, List.setIfInBounds_toArray, List.set_cons_zero, List.set_cons_succ])
      rintro a' Vb ⟨Ab, cb, rfl, oB, hbb⟩
      simp only [Act.put, List.setIfInBounds_toArray, List.set_cons_zero, List.set_cons_succ]
      have hbv := hbe.trans (hbb.mono hle)
      have szb : wa.heap.size ≤ Vb.heap.size := hbb.size
      cases hE : emptyB aa with
      | true =>
        have n0 : NB = 0 := by rw [← HNB.out]; unfold blksN; rw [hE]; rfl
        have w0 : WB = 0 := by rw [← HWB.out]; unfold blksW; rw [hE]; rfl
        clear oB y0' y1' y2' y3' par1 rZ1 HBk HNB HWB HAB hbb
        subst n0 w0
        go_wp2_with fail
        go_loopw [21] (fun ii wr => ii = .int .i64 0 ∧ wr = Vb) (fun _ _ => 0)
        case atStart => exact ⟨rfl, rfl⟩
        case round =>
          obtain ⟨rfl, rfl⟩ := hrel
          go_wp2_with fail
          go_roundw
          case rel => exact ⟨kn + 1, by omega, by go_num, hbv⟩
          case measure => simp [intOf]; omega
      | false =>
        have hfull : fullR aa := HAB.out hE
        have eN : NB = bW aa mw * bH aa mh := by rw [← HNB.out]; unfold blksN; rw [hE]; rfl
        have eW : bW aa mw = WB := by rw [← HWB.out]; unfold blksW; rw [hE]; rfl
        rw [eW] at eN
        have hWpos : 1 ≤ WB := by
          have := (span_bd (k := mw) hfull.1 hfull.2.1 hfull.2.2.1 (by omega)).2.2.1
          rw [← eW]; unfold bW; omega
        have hHpos : 1 ≤ bH aa mh := by
          have := (span_bd (k := mh) hfull.2.2.2.1 hfull.2.2.2.2.1 hfull.2.2.2.2.2 (by omega)).2.2.1
          unfold bH; omega
        have hWb : WB ≤ 1024 := by
          have := (span_bd (k := mw) hfull.1 hfull.2.1 hfull.2.2.1 (by omega)).2.2.2.1
          rw [← eW]; unfold bW; omega
        have hHb : bH aa mh ≤ 1024 := by
          have := (span_bd (k := mh) hfull.2.2.2.1 hfull.2.2.2.2.1 hfull.2.2.2.2.2 (by omega)).2.2.2.1
          unfold bH; omega
        have hNb : NB ≤ 1048576 := by rw [eN]; exact Nat.mul_le_mul hWb hHb
        have hNpos : 1 ≤ NB := by rw [eN]; exact Nat.mul_le_mul hWpos hHpos
        have hmod : ((NB : Int)).tmod (WB : Int) = 0 := by
          rw [Int.tmod_eq_emod_of_nonneg (by omega), eN]
          simp
        have hL : ∀ i, i < NB → _ := fun i hi => blk_law (i := i) hfull mw15 mh15 eW (by rw [← eN]; exact hi)
        simp only [HSX.out, HSY.out] at hL
        obtain ⟨f, hf⟩ : ∃ f : Nat → Rc, (fun i => blkR aa mw mh (gridAt WB i)) = f := ⟨_, rfl⟩
        have hf' : ∀ i, blkR aa mw mh (gridAt WB i) = f i := fun i => by rw [← hf]
        simp only [hf'] at hL
        have HL := Lib.hid hL
        clear hL
        have hB := oB.at_
        simp only [hf'] at hB
        obtain ⟨bb, ob, hAb, hbb1, _⟩ := hB.at_ (k := 0) (by omega)
        subst hAb
        have HCB := Lib.hid hB
        have wn0 : ¬ WB = 0 := by omega
        have wpos : 0 < WB := by omega
        clear oB y0' y1' y2' y3' par1 rZ1 HBk HNB HWB HAB hbb hE hf hf' hB eN eW hfull hHpos hHb
        have hL2 : ∀ i, i < NB → blkG f SX SY WB i := HL.out
        have hCB2 : CellsAt Vb Vb.heap.size (some ⟨bb, ob, none⟩) 4 NB (fun i => rcL (f i)) := HCB.out
        clear HL HCB
        go_wp2_with fail
        refine cb_inner (f := f) NB WB cb bb ob SX SY Vb hNb hNpos wpos hWb bSX bSY hL2 hCB2 hbb1 _ ?_
        intro u6 u21 u130 u131 u132 u133 u134 u135 u136 u137 u138 u139 u140 u141 u142 u143 u144 u145 u146 u147 u148 u149 u150 u151 u152 u153 u154 u155 u156 u157 u158 u159 u160 u161 u162 u163 u164 u165 u166 u167 u168 u169 u170 u171 u172 u173 u174 u175 u176 u177 u178 u179 u180 u181 u182 u183 u184 u185 u186 u187 u188 u189 u190 u191 u192 u193 u194 u195 u196 u197 u198 u199 u200 u201 u202 u203 u204 u205 u206 u207 u208 u209 u210 u211 u212 u213 u214 u215 u216 u217 u218 u219 u220 u221 u222 u223 u224 u225 u226 u227 u228 u229 u230 u231 u232 u233 wz hbi
        have hbz := hbv.trans (hbi.mono (by omega))
        go_wp2_with fail
        go_roundw
        case rel => exact ⟨kn + 1, by omega, by go_num, hbz⟩
        case measure => simp [intOf]; omega
    · obtain rfl : kn = NK := by omega
      have y0' := (hbe.cell (p := ⟨bx, ox, none⟩) hbx).trans v0
      have y1' := (hbe.cell (p := ⟨bx, ox + 1, none⟩) hbx).trans v1
      have y2' := (hbe.cell (p := ⟨bx, ox + 2, none⟩) hbx).trans v2
      have y3' := (hbe.cell (p := ⟨bx, ox + 3, none⟩) hbx).trans v3
      have haa : partR (B 0) ⟨Z0, Z1, Z2, Z3⟩ pr sd kn = ⟨0, 0, 0, 0⟩ := by
        unfold partR
        rw [HPW.out, HPH.out, if_pos]
        rw [← HNK.out]; exact Int.le_of_eq (Int.natCast_mul _ _).symm
      have hBk := fun v => HBl.out 0 v kn (Nat.le_refl _)
      rw [haa] at hBk
      have n0 : blksN ⟨0, 0, 0, 0⟩ mw mh = 0 := rfl
      have w0 : blksW ⟨0, 0, 0, 0⟩ mw = 0 := rfl
      rw [n0, w0] at hBk
      have HBk := Lib.hid hBk
      have wNK' := wNK
      clear hBk haa n0 w0
      go_upto_region 26 with fail
      have hszw : Vd.heap.size ≤ wa.heap.size := hle
      have hB0 : ¬ BN = 0 := by omega
      refine last_cut (by kernel_rfl) (fun U => U.heap[gm + 1]? = some (.cells #[.int .i64 (tx : Int), .int .i64 (ty : Int), .int .i64 (lv : Int), .int .i64 (cw : Int), .int .i64 (ch : Int), .int .i64 (pr : Int), .int .i64 (st : Int), .int .i64 (od : Int), .int .i64 (ly : Int), .bool rct, .bool fsop, .bool feph] 27 (0, 0)) ∧ U.heap[g10]? = some (.cells #[.int .i64 Z0, .int .i64 Z1, .int .i64 Z2, .int .i64 Z3] 53 (0, 0)) ∧ U.cell? ⟨bx, ox, none⟩ = some (.int .i64 (B 0).x0) ∧ U.cell? ⟨bx, ox + 1, none⟩ = some (.int .i64 (B 0).y0) ∧ U.cell? ⟨bx, ox + 2, none⟩ = some (.int .i64 (B 0).x1) ∧ U.cell? ⟨bx, ox + 3, none⟩ = some (.int .i64 (B 0).y1)) (fun aF a' W' => ∃ Ab cb, a' = (((((((((((((((aF.put (some 235) (.slice (some ⟨bx, ox, none⟩) BN cX)).put (some 236) (.pointer (some ⟨bx, ox, none⟩))).put (some 237) (.agg #[.int .i64 (B 0).x0, .int .i64 (B 0).y0, .int .i64 (B 0).x1, .int .i64 (B 0).y1])).put (some 238) (.agg #[.int .i64 Z0, .int .i64 Z1, .int .i64 Z2, .int .i64 Z3])).put (some 239) (.agg #[.int .i64 (tx : Int), .int .i64 (ty : Int), .int .i64 (lv : Int), .int .i64 (cw : Int), .int .i64 (ch : Int), .int .i64 (pr : Int), .int .i64 (st : Int), .int .i64 (od : Int), .int .i64 (ly : Int), .bool rct, .bool fsop, .bool feph])).put (some 240) (.int .i64 (rn : Int))).put (some 241) (.int .i64 (PW : Int))).put (some 242) (.int .i64 (PH : Int))).put (some 243) (.int .i64 (kn : Int))).put (some 244) (.tuple #[.slice Ab 0 cb, .int .i64 ((0 : Nat) : Int)])).put (some 234) (.tuple #[.slice Ab 0 cb, .int .i64 ((0 : Nat) : Int)])).put (some 245) (.slice Ab 0 cb)).put (some 246) (.int .i64 ((0 : Nat) : Int))).put (some 22) (.slice Ab 0 cb)).put (some 23) (.int .i64 ((0 : Nat) : Int))) ∧ Below wa.heap.size wa W') ⟨par1, rZ1, y0', y1', y2', y3'⟩ (fun hS => ?_) ?_
      · skip
        have hSB : ∀ U : World, Below (Vd.heap.size) wa U → U.heap[gm + 1]? = some (.cells #[.int .i64 (tx : Int), .int .i64 (ty : Int), .int .i64 (lv : Int), .int .i64 (cw : Int), .int .i64 (ch : Int), .int .i64 (pr : Int), .int .i64 (st : Int), .int .i64 (od : Int), .int .i64 (ly : Int), .bool rct, .bool fsop, .bool feph] 27 (0, 0)) ∧ U.heap[g10]? = some (.cells #[.int .i64 Z0, .int .i64 Z1, .int .i64 Z2, .int .i64 Z3] 53 (0, 0)) ∧ U.cell? ⟨bx, ox, none⟩ = some (.int .i64 (B 0).x0) ∧ U.cell? ⟨bx, ox + 1, none⟩ = some (.int .i64 (B 0).y0) ∧ U.cell? ⟨bx, ox + 2, none⟩ = some (.int .i64 (B 0).x1) ∧ U.cell? ⟨bx, ox + 3, none⟩ = some (.int .i64 (B 0).y1) := fun U h => ⟨(h.block (gm + 1) (by omega)).trans (par1), (h.block (g10) (by omega)).trans (rZ1), (h.cell (p := ⟨bx, ox, none⟩) (by simp only; omega)).trans (y0'), (h.cell (p := ⟨bx, ox + 1, none⟩) (by simp only; omega)).trans (y1'), (h.cell (p := ⟨bx, ox + 2, none⟩) (by simp only; omega)).trans (y2'), (h.cell (p := ⟨bx, ox + 3, none⟩) (by simp only; omega)).trans (y3')⟩
        have bV : Below wa.heap.size wa wa.drew := (Below.refl _ _).drew
        generalize wa.drew = V0 at *
        change wpAnyL _ _ _ _ _ 15 #[false, false, false, false, false, false, false, false, false, false, false, false, false, false, false] _ _
        refine wpAnyL_take (i := 0) (v := .slice (some ⟨bx, ox, none⟩) BN cX) (by simp only [List.getElem?_toArray, List.getElem?_cons_succ, List.getElem?_cons_zero]; rfl) (by as_aux_lemma => kernel_rfl) (by as_aux_lemma => kernel_rfl) (by as_aux_lemma => kernel_rfl) (fun _ _ _ h => h) (Or.inl ⟨by rfl, ?_⟩) hS ?_
        · intro U hU
          obtain ⟨s0, s1, s2, s3, s4, s5⟩ := hU
          kernel_rfl
        simp only [Act.put, List.setIfInBounds_toArray, List.set_cons_zero, List.set_cons_succ]
        refine wpAnyL_take (i := 1) (v := .pointer (some ⟨bx, ox, none⟩)) (by simp only [List.getElem?_toArray, List.getElem?_cons_succ, List.getElem?_cons_zero]; rfl) (by as_aux_lemma => kernel_rfl) (by as_aux_lemma => kernel_rfl) (by as_aux_lemma => kernel_rfl) (fun _ _ _ h => h) (Or.inl ⟨by rfl, ?_⟩) hS ?_
        · intro U hU
          obtain ⟨s0, s1, s2, s3, s4, s5⟩ := hU
          go_simp
        simp only [Act.put, List.setIfInBounds_toArray, List.set_cons_zero, List.set_cons_succ]
        refine wpAnyL_take (i := 2) (v := .agg #[.int .i64 (B 0).x0, .int .i64 (B 0).y0, .int .i64 (B 0).x1, .int .i64 (B 0).y1]) (by simp only [List.getElem?_toArray, List.getElem?_cons_succ, List.getElem?_cons_zero]; rfl) (by as_aux_lemma => kernel_rfl) (by as_aux_lemma => kernel_rfl) (by as_aux_lemma => kernel_rfl) (fun _ _ _ h => h) (Or.inl ⟨by rfl, ?_⟩) hS ?_
        · intro U hU
          obtain ⟨s0, s1, s2, s3, s4, s5⟩ := hU
          go_simp
        simp only [Act.put, List.setIfInBounds_toArray, List.set_cons_zero, List.set_cons_succ]
        refine wpAnyL_take (i := 3) (v := .agg #[.int .i64 Z0, .int .i64 Z1, .int .i64 Z2, .int .i64 Z3]) (by simp only [List.getElem?_toArray, List.getElem?_cons_succ, List.getElem?_cons_zero]; rfl) (by as_aux_lemma => kernel_rfl) (by as_aux_lemma => kernel_rfl) (by as_aux_lemma => kernel_rfl) (fun _ _ _ h => h) (Or.inl ⟨by rfl, ?_⟩) hS ?_
        · intro U hU
          obtain ⟨s0, s1, s2, s3, s4, s5⟩ := hU
          exact exec_loadRow (cs := [.int .i64 Z0, .int .i64 Z1, .int .i64 Z2, .int .i64 Z3]) rfl rfl s1 (by kernel_rfl) (by kernel_rfl)
        simp only [Act.put, List.setIfInBounds_toArray, List.set_cons_zero, List.set_cons_succ]
        refine wpAnyL_take (i := 4) (v := .agg #[.int .i64 (tx : Int), .int .i64 (ty : Int), .int .i64 (lv : Int), .int .i64 (cw : Int), .int .i64 (ch : Int), .int .i64 (pr : Int), .int .i64 (st : Int), .int .i64 (od : Int), .int .i64 (ly : Int), .bool rct, .bool fsop, .bool feph]) (by simp only [List.getElem?_toArray, List.getElem?_cons_succ, List.getElem?_cons_zero]; rfl) (by as_aux_lemma => kernel_rfl) (by as_aux_lemma => kernel_rfl) (by as_aux_lemma => kernel_rfl) (fun _ _ _ h => h) (Or.inl ⟨by rfl, ?_⟩) hS ?_
        · intro U hU
          obtain ⟨s0, s1, s2, s3, s4, s5⟩ := hU
          exact exec_loadRow (cs := [.int .i64 (tx : Int), .int .i64 (ty : Int), .int .i64 (lv : Int), .int .i64 (cw : Int), .int .i64 (ch : Int), .int .i64 (pr : Int), .int .i64 (st : Int), .int .i64 (od : Int), .int .i64 (ly : Int), .bool rct, .bool fsop, .bool feph]) rfl rfl s0 (by kernel_rfl) (by kernel_rfl)
        simp only [Act.put, List.setIfInBounds_toArray, List.set_cons_zero, List.set_cons_succ]
        refine wpAnyL_take (i := 5) (v := .int .i64 (rn : Int)) (by simp only [List.getElem?_toArray, List.getElem?_cons_succ, List.getElem?_cons_zero]; rfl) (by as_aux_lemma => kernel_rfl) (by as_aux_lemma => kernel_rfl) (by as_aux_lemma => kernel_rfl) (fun _ _ _ h => h) (Or.inl ⟨by rfl, ?_⟩) hS ?_
        · intro U hU
          obtain ⟨s0, s1, s2, s3, s4, s5⟩ := hU
          kernel_rfl
        simp only [Act.put, List.setIfInBounds_toArray, List.set_cons_zero, List.set_cons_succ]
        refine wpAnyL_take (i := 6) (v := .int .i64 (PW : Int)) (by simp only [List.getElem?_toArray, List.getElem?_cons_succ, List.getElem?_cons_zero]; rfl) (by as_aux_lemma => kernel_rfl) (by as_aux_lemma => kernel_rfl) (by as_aux_lemma => kernel_rfl) (fun _ _ _ h => h) (Or.inl ⟨by rfl, ?_⟩) hS ?_
        · intro U hU
          obtain ⟨s0, s1, s2, s3, s4, s5⟩ := hU
          kernel_rfl
        simp only [Act.put, List.setIfInBounds_toArray, List.set_cons_zero, List.set_cons_succ]
        refine wpAnyL_take (i := 7) (v := .int .i64 (PH : Int)) (by simp only [List.getElem?_toArray, List.getElem?_cons_succ, List.getElem?_cons_zero]; rfl) (by as_aux_lemma => kernel_rfl) (by as_aux_lemma => kernel_rfl) (by as_aux_lemma => kernel_rfl) (fun _ _ _ h => h) (Or.inl ⟨by rfl, ?_⟩) hS ?_
        · intro U hU
          obtain ⟨s0, s1, s2, s3, s4, s5⟩ := hU
          kernel_rfl
        simp only [Act.put, List.setIfInBounds_toArray, List.set_cons_zero, List.set_cons_succ]
        refine wpAnyL_take (i := 8) (v := .int .i64 (kn : Int)) (by simp only [List.getElem?_toArray, List.getElem?_cons_succ, List.getElem?_cons_zero]; rfl) (by as_aux_lemma => kernel_rfl) (by as_aux_lemma => kernel_rfl) (by as_aux_lemma => kernel_rfl) (fun _ _ _ h => h) (Or.inl ⟨by rfl, ?_⟩) hS ?_
        · intro U hU
          obtain ⟨s0, s1, s2, s3, s4, s5⟩ := hU
          go_simp
        simp only [Act.put, List.setIfInBounds_toArray, List.set_cons_zero, List.set_cons_succ]
        refine wpAnyL_ready (rs := [9]) (by as_aux_lemma => kernel_rfl) (by simp) ?_
        refine AllReadyL.cons (by simp only [List.getElem?_toArray, List.getElem?_cons_succ, List.getElem?_cons_zero]; rfl) (fun K' hK' => ?_) AllReadyL.nil
        go_simp
        go_at_call 31
        refine (HBk.out _).mono ?_
        rintro e' U9 ⟨Ab, cb, rfl, oB, hb9⟩
        have b9 := below_trans bV hb9
        have hS := hSB _ (b9.mono hszw)
        dsimp only
        refine hK'.out _ _ hS (fun _ => ?_)
        clear hb9
        clear hK' K'
        try simp only [Act.put, List.setIfInBounds_toArray, List.set_cons_zero, List.set_cons_succ]
        refine wpAnyL_take (i := 10) (v := .tuple #[.slice Ab 0 cb, .int .i64 ((0 : Nat) : Int)]) (by simp only [List.getElem?_toArray, List.getElem?_cons_succ, List.getElem?_cons_zero]; rfl) (by as_aux_lemma => kernel_rfl) (by as_aux_lemma => kernel_rfl) (by as_aux_lemma => kernel_rfl) (fun _ _ _ h => h) (Or.inl ⟨by rfl, ?_⟩) hS ?_
        · intro U hU
          obtain ⟨s0, s1, s2, s3, s4, s5⟩ := hU
          kernel_rfl
        simp only [Act.put, List.setIfInBounds_toArray, List.set_cons_zero, List.set_cons_succ]
        refine wpAnyL_take (i := 11) (v := .slice Ab 0 cb) (by simp only [List.getElem?_toArray, List.getElem?_cons_succ, List.getElem?_cons_zero]; rfl) (by as_aux_lemma => kernel_rfl) (by as_aux_lemma => kernel_rfl) (by as_aux_lemma => kernel_rfl) (fun _ _ _ h => h) (Or.inl ⟨by rfl, ?_⟩) hS ?_
        · intro U hU
          obtain ⟨s0, s1, s2, s3, s4, s5⟩ := hU
          kernel_rfl
        simp only [Act.put, List.setIfInBounds_toArray, List.set_cons_zero, List.set_cons_succ]
        refine wpAnyL_take (i := 12) (v := .int .i64 ((0 : Nat) : Int)) (by simp only [List.getElem?_toArray, List.getElem?_cons_succ, List.getElem?_cons_zero]; rfl) (by as_aux_lemma => kernel_rfl) (by as_aux_lemma => kernel_rfl) (by as_aux_lemma => kernel_rfl) (fun _ _ _ h => h) (Or.inl ⟨by rfl, ?_⟩) hS ?_
        · intro U hU
          obtain ⟨s0, s1, s2, s3, s4, s5⟩ := hU
          kernel_rfl
        simp only [Act.put, List.setIfInBounds_toArray, List.set_cons_zero, List.set_cons_succ]
        refine wpAnyL_take (i := 13) (v := .slice Ab 0 cb) (by simp only [List.getElem?_toArray, List.getElem?_cons_succ, List.getElem?_cons_zero]; rfl) (by as_aux_lemma => kernel_rfl) (by as_aux_lemma => kernel_rfl) (by as_aux_lemma => kernel_rfl) (fun _ _ _ h => h) (Or.inl ⟨by rfl, ?_⟩) hS ?_
        · intro U hU
          obtain ⟨s0, s1, s2, s3, s4, s5⟩ := hU
          kernel_rfl
        simp only [Act.put, List.setIfInBounds_toArray, List.set_cons_zero, List.set_cons_succ]
        refine wpAnyL_take (i := 14) (v := .int .i64 ((0 : Nat) : Int)) (by simp only [List.getElem?_toArray, List.getElem?_cons_succ, List.getElem?_cons_zero]; rfl) (by as_aux_lemma => kernel_rfl) (by as_aux_lemma => kernel_rfl) (by as_aux_lemma => kernel_rfl) (fun _ _ _ h => h) (Or.inl ⟨by rfl, ?_⟩) hS ?_
        · intro U hU
          obtain ⟨s0, s1, s2, s3, s4, s5⟩ := hU
          kernel_rfl
        simp only [Act.put, List.setIfInBounds_toArray, List.set_cons_zero, List.set_cons_succ]
        refine wpAnyL_done (by as_aux_lemma => kernel_rfl) ?_ _
        simp only [OnlyN]
        refine ⟨Ab, cb, ?_, b9⟩
        (try simp only [Act.put, List.setIfInBounds_toArray, List.set_cons_zero, List.set_cons_succ])
      rintro a' Vz ⟨Ab, cb, rfl, hz⟩
      simp only [Act.put, List.setIfInBounds_toArray, List.set_cons_zero, List.set_cons_succ]
      have bz := b3.trans ((hbe.trans (hz.mono hle)).mono (by omega))
      go_wp2_with fail
      go_ret
      exact ⟨rfl, by rw [hq]; exact bz⟩
end Go.Proofs.Ytmieoifagnpbiaa
