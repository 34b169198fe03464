/- THE WALK OF waveletlaw12.CanvasCovers. -/
import Derived.Test.YtmieoifagnpbiaaMake
import Derived.Test.YtmieoifagnpbiaaMadeLaw
import Derived.Test.YtmieoifagnpbiaaKnown12
import Derived.Test.YtmieoifagnpbiaaPart12
import Derived.Test.YtmieoifagnpbiaaCvT
import Derived.Test.YtmieoifagnpbiaaCvR
namespace Go.Proofs.Ytmieoifagnpbiaa
open Go.RowKit
attribute [local go_sem] opv opnd
set_option maxHeartbeats 40000000
set_option linter.unusedVariables false
set_option linter.unusedSimpArgs false
set_option maxRecDepth 100000

theorem byN_posC {n d : Nat} (hn : 1 ≤ n) (hd : 1 ≤ d) : 1 ≤ byN n d := by
  unfold byN
  exact (Nat.le_div_iff_mul_le (by omega)).2 (by omega)
theorem byN_monoC {a b : Nat} (d : Nat) (h : a ≤ b) : byN a d ≤ byN b d := by
  unfold byN
  exact Nat.div_le_div_right (by omega)
theorem canCov_walk (fX fY fOx fOy fC fD fS : Int) (fsg frct fsop feph : Bool) (fTx fTy fL fcw fch fP fSt fO fLy : Int) (NA : Option Addr) (nN cN : Nat) (Nf : Nat → Int) (w : World) (hN : IntsAt w w.heap.size NA nN Nf) (hNf : ∀ k, k < nN → -9223372036854775808 ≤ Nf k ∧ Nf k ≤ 9223372036854775807) (hNn : nN ≤ 9223372036854775807) (hSb : -9223372036854775808 ≤ fS ∧ fS ≤ 9223372036854775807) :
    Calls Try.prog 8 #[.agg #[.int .i64 fX, .int .i64 fY, .int .i64 fOx, .int .i64 fOy, .int .i64 fC, .int .i64 fD, .int .i64 fS, .bool fsg, .bool frct, .bool fsop, .bool feph, .int .i64 fTx, .int .i64 fTy, .int .i64 fL, .int .i64 fcw, .int .i64 fch, .int .i64 fP, .int .i64 fSt, .int .i64 fO, .int .i64 fLy, .slice NA nN cN]] w fun e' w' => e' = .returned (.bool true) ∧ Below w.heap.size w w' := by
  have HMk := Lib.hid (fun (v : World) (h : IntsAt v v.heap.size NA nN Nf) => make_any fX fY fOx fOy fC fD fS fsg frct fsop feph fTx fTy fL fcw fch fP fSt fO fLy NA nN cN Nf 12 (by omega) (by omega) v h hNf hNn hSb)
  rw [show ((12 : Nat) : Int) = 12 from rfl] at HMk
  have HN := Lib.hid hN
  clear hN hNf hNn hSb
  go_enter Try.func8, Try.ntmps8
  go_wp2_with fail
  obtain ⟨q, hq⟩ : ∃ q, w.heap.size = q := ⟨_, rfl⟩
  generalize hw0 : World.alloc w _ = W0
  have f0 : W0.heap[q]? = some (.cells #[.int .i64 fX, .int .i64 fY, .int .i64 fOx, .int .i64 fOy, .int .i64 fC, .int .i64 fD, .int .i64 fS, .bool fsg, .bool frct, .bool fsop, .bool feph, .int .i64 fTx, .int .i64 fTy, .int .i64 fL, .int .i64 fcw, .int .i64 fch, .int .i64 fP, .int .i64 fSt, .int .i64 fO, .int .i64 fLy, .slice NA nN cN] 39 (0, 0)) := by rw [← hw0, ← hq]; exact heap_alloc_new w _
  have z0 : W0.heap.size = q + 1 := by rw [← hw0, ← hq]; simp
  have b0 : Below q w W0 := by rw [← hw0, ← hq]; exact below_alloc (Below.refl _ _) _
  clear hw0
  refine (known12 _).mono ?_
  rintro e' W1 ⟨rfl, h1⟩
  have f1 := (h1.block q (by omega)).trans f0
  have b1 := b0.trans (h1.mono (by omega))
  have z1 : q + 1 ≤ W1.heap.size := by have := h1.size; omega
  clear h1 f0 b0 z0
  go_upto_region 3 with fail
  refine wp_region_lit ?_
  refine wpList_loadRow rfl rfl rfl f1 (by kernel_rfl) (by kernel_rfl) ?_
  go_wp2_with fail
  refine (HMk.out W1 ((HN.out.below (by rw [hq]; exact b1)).more (by have := b1.size; omega))).mono ?_
  rintro e' W2 ⟨Xn, Yn, On, Pn, tx, ty, lv, cw, ch, pr, st, od, ly, n, dn, rct, PL, A, c, F, G, rfl, hP, hI, h2⟩
  have b2 := b1.trans (h2.mono (by omega))
  have z2 : q + 1 ≤ W2.heap.size := by have := h2.size; omega
  have hI := hI.mono z1
  clear h2 b1 f1
  have HP := Lib.hid hP
  have HI := Lib.hid hI
  clear hP hI HMk HN
  unfold imgV parV
  go_upto_region 4 with fail
  obtain ⟨gm, hgm⟩ : ∃ g, W2.heap.size = g := ⟨_, rfl⟩
  generalize hV3 : World.alloc (World.alloc W2 _) _ = V3
  have img : V3.heap[gm]? = some (.cells #[.int .i64 Xn, .int .i64 Yn, .int .i64 On, .int .i64 Pn, .slice A n c] 25 (0, 0)) := by rw [← hV3, ← hgm]; exact (Below.heap_alloc _ _ _ (by simp)).trans (heap_alloc_new W2 _)
  have par : V3.heap[gm + 1]? = some (.cells #[.int .i64 tx, .int .i64 ty, .int .i64 lv, .int .i64 cw, .int .i64 ch, .int .i64 pr, .int .i64 st, .int .i64 od, .int .i64 ly, .bool rct, .bool fsop, .bool feph] 27 (0, 0)) := by rw [← hV3, ← hgm]; exact heap_alloc_new2 W2 _ _
  have h3 : Below gm W2 V3 := by rw [← hV3, ← hgm]; exact below_alloc (below_alloc (Below.refl _ _) _) _
  have z3 : V3.heap.size = gm + 2 := by rw [← hV3, ← hgm]; simp
  rw [hgm] at z2 ⊢
  clear hV3
  have HI3 := Lib.hid (HI.out.below (by rw [hgm]; exact h3))
  have b3 := b2.trans (h3.mono (by omega))
  clear HI b2 h3
  have hP := HP.out
  obtain ⟨o1, o2⟩ := hP.on
  obtain ⟨x1, x2, x3, x4⟩ := hP.xs
  obtain ⟨t1, t2, t3, t4⟩ := hP.ts
  obtain ⟨m1, m2, m3⟩ := hP.num
  obtain ⟨d1, d2, d3, d4, d5, d6, d7, d8, d9, d10, d11⟩ := hP.bds
  have hT6 := hP.tiles
  have hway := made_ways hP
  have hM0 := HI3.out.good 0 (by omega)
  obtain ⟨dxn, hdx⟩ := Int.eq_ofNat_of_zero_le (show (0 : Int) ≤ (F 0).dx by have := hM0.dx; omega)
  obtain ⟨dyn, hdy⟩ := Int.eq_ofNat_of_zero_le (show (0 : Int) ≤ (F 0).dy by have := hM0.dy; omega)
  have hdx3 : 1 ≤ dxn ∧ dxn ≤ 3 := by have := hM0.dx; omega
  have hdy3 : 1 ≤ dyn ∧ dyn ≤ 3 := by have := hM0.dy; omega
  obtain ⟨hca, hnc⟩ := HI3.out.compsAt
  have HTl := Lib.hid (fun (v : World) (h : CompsAt v v.heap.size A n F) => tiles_any Xn Yn On Pn A n c F tx ty lv cw ch pr st od ly rct fsop feph v h hnc (made_frame hP (by omega) (fun j hj => HI3.out.good j hj)) _ _ rfl rfl)
  simp only [Int.toNat_natCast] at HTl
  obtain ⟨NT, hNTd⟩ : ∃ z, byN Xn tx * byN Yn ty = z := ⟨_, rfl⟩
  have hNT : 0 < NT := by rw [← hNTd]; exact Nat.mul_pos (byN_posC (by omega) (by omega)) (byN_posC (by omega) (by omega))
  have hsum := tiles_sum (X := Xn) (Y := Yn) (O := On) (P := Pn) (tx := tx) (ty := ty) (by omega) (by omega) (by omega) (by omega)
  rw [hNTd] at HTl hT6 hsum
  unfold imgV parV at HTl
  obtain ⟨T0, T1, T2, T3, eT, hT, c1, c2, c3, c4⟩ := tile_nat2 (X := Xn) (Y := Yn) (O := On) (P := Pn) (tx := tx) (ty := ty) (by omega) (by omega) (by omega) (by omega) (by omega) (by omega) (i := 0) (by rw [hNTd]; exact hNT)
  have HET := Lib.hid eT
  have HPt := Lib.hid (fun v => part_any T0 T1 T2 T3 dxn dyn (by omega) (by omega) (by omega) (by omega) (by omega) (by omega) (by omega) (by omega) v)
  have hQ02 := byN_monoC dxn (show T0 ≤ T2 by omega)
  have hQ13 := byN_monoC dyn (show T1 ≤ T3 by omega)
  obtain ⟨Q0, hQ0⟩ : ∃ z, byN T0 dxn = z := ⟨_, rfl⟩
  obtain ⟨Q1, hQ1⟩ : ∃ z, byN T1 dyn = z := ⟨_, rfl⟩
  obtain ⟨Q2, hQ2⟩ : ∃ z, byN T2 dxn = z := ⟨_, rfl⟩
  obtain ⟨Q3, hQ3⟩ : ∃ z, byN T3 dyn = z := ⟨_, rfl⟩
  have hQb : Q0 ≤ 64 ∧ Q1 ≤ 64 ∧ Q2 ≤ 64 ∧ Q3 ≤ 64 := by
    have := byN_le (n := T0) hdx3.1
    have := byN_le (n := T1) hdy3.1
    have := byN_le (n := T2) hdx3.1
    have := byN_le (n := T3) hdy3.1
    omega
  rw [hQ0, hQ2] at hQ02
  rw [hQ1, hQ3] at hQ13
  rw [hQ0, hQ1, hQ2, hQ3] at HPt
  unfold rcV at HPt
  have HAr := Lib.hid (fun v => areaR_any ⟨(Q0 : Int), (Q1 : Int), (Q2 : Int), (Q3 : Int)⟩ (by simp only; omega) (by simp only; omega) (by simp only; omega) (by simp only; omega) v)
  obtain ⟨AR, hAR⟩ : ∃ z, areaR ⟨(Q0 : Int), (Q1 : Int), (Q2 : Int), (Q3 : Int)⟩ = z := ⟨_, rfl⟩
  rw [hAR] at HAr
  unfold rcV at HAr
  simp only at HAr
  have HARR := Lib.hid hAR
  have HCA := Lib.hid hca
  have HWAY := Lib.hid hway
  have HNT := Lib.hid hNTd
  have HSUM := Lib.hid hsum
  have HDX := Lib.hid (And.intro hdx hdy)
  have hsz : gm + 2 ≤ V3.heap.size := by omega
  clear hway hNTd m3 HI3 hM0 hdx hdy hQ0 hQ1 hQ2 hQ3 hAR eT hsum
  refine wp_region_lit ?_
  refine wpList_loadRow rfl rfl rfl img (by kernel_rfl) (by kernel_rfl) ?_
  refine wpList_loadRow rfl rfl rfl par (by kernel_rfl) (by kernel_rfl) ?_
  clear hca
  go_wp2_with fail
  refine (HTl.out _ HCA.out).mono ?_
  rintro e' V4 ⟨At, cT, rfl, oT, h4⟩
  have img4 := (h4.block gm (by omega)).trans img
  have par4 := (h4.block (gm + 1) (by omega)).trans par
  have b4 := b3.trans (h4.mono (by omega))
  have sz4 := h4.size
  have hca4 := (HCA.out.below h4).more sz4
  obtain ⟨bt, ot, hAt, hbt, hc0⟩ := oT.at_.at_ (k := 0) hNT
  subst hAt
  rw [HET.out] at hc0
  simp only [Nat.zero_mul, Nat.add_zero] at hc0
  have HT4 := Lib.hid oT.at_
  have HC0 := Lib.hid hc0
  have HCA4 := Lib.hid hca4
  clear img par b3 h4 HCA HTl oT hc0 hca4
  go_wp2_with fail
  refine cvT_any gm bt ot NT cT Xn Yn On Pn tx ty n c A V4 (by omega) (by omega) (by omega) (by omega) (by omega) (by omega) HNT.out (by omega) img4 HT4.out _ ?_
  intro u2 u7 u36 u37 u38 u39 u40 u41 u42 u43 u44 u45 u46 u47 u48 u49 u50 u51 u52 u53 u54 u55 u56 u57 u58 u59 u60 u61 u62 u63 u64 u65 u66 u67 u68 u69 u70 u71 u72 u73 u74 u75 u76 u77 u78 u79 u80 u81 u82 u83 u84 u85 u86 u87 u88 u89 u90 u91 u92 V5 h5
  rw [HSUM.out]
  have img5 := (h5.block gm (by omega)).trans img4
  have par5 := (h5.block (gm + 1) (by omega)).trans par4
  have b5 := b4.trans (h5.mono (by omega))
  have sz5 := h5.size
  have t0 : V5.cell? ⟨bt, ot, none⟩ = some (.int .i64 (T0 : Int)) := (h5.cell (p := ⟨bt, ot, none⟩) hbt).trans (by have := HC0.out 0 _ rfl; simpa using this)
  have t1 : V5.cell? ⟨bt, ot + 1, none⟩ = some (.int .i64 (T1 : Int)) := (h5.cell (p := ⟨bt, ot + 1, none⟩) hbt).trans (HC0.out 1 _ rfl)
  have t2 : V5.cell? ⟨bt, ot + 2, none⟩ = some (.int .i64 (T2 : Int)) := (h5.cell (p := ⟨bt, ot + 2, none⟩) hbt).trans (HC0.out 2 _ rfl)
  have t3 : V5.cell? ⟨bt, ot + 3, none⟩ = some (.int .i64 (T3 : Int)) := (h5.cell (p := ⟨bt, ot + 3, none⟩) hbt).trans (HC0.out 3 _ rfl)
  obtain ⟨bc, oc, hAe, hbc, k0, k1, k2, k3, k4⟩ := (HCA4.out.below h5).at_ (k := 0) (by omega)
  subst hAe
  rw [HDX.out.1] at k2
  rw [HDX.out.2] at k3
  simp only [Nat.zero_mul, Nat.add_zero] at k2 k3
  have lbt : bt < V5.heap.size := Nat.lt_of_lt_of_le hbt sz5
  have lbc : bc < V5.heap.size := Nat.lt_of_lt_of_le hbc sz5
  have lg5 : gm + 2 ≤ V5.heap.size := by omega
  clear img4 par4 b4 HT4 HC0 HCA4 h5 k0 k1 k4
  have i_0 : V5.cell? ⟨gm, 0, none⟩ = some (.int .i64 (Xn : Int)) := cell_of_row _ _ 0 _ _ (0, 0) img5
  have i_1 : V5.cell? ⟨gm, 1, none⟩ = some (.int .i64 (Yn : Int)) := cell_of_row _ _ 1 _ _ (0, 0) img5
  have i_2 : V5.cell? ⟨gm, 2, none⟩ = some (.int .i64 (On : Int)) := cell_of_row _ _ 2 _ _ (0, 0) img5
  have i_3 : V5.cell? ⟨gm, 3, none⟩ = some (.int .i64 (Pn : Int)) := cell_of_row _ _ 3 _ _ (0, 0) img5
  obtain ⟨wx, hwx⟩ : ∃ z, Xn - On = z := ⟨_, rfl⟩
  obtain ⟨wy, hwy⟩ : ∃ z, Yn - Pn = z := ⟨_, rfl⟩
  have k5 : IntKind.i64.wrap ((Xn : Int) - (On : Int)) = (wx : Int) := by rw [show (Xn : Int) - (On : Int) = (wx : Int) by omega]; exact wr (by omega)
  have k6 : IntKind.i64.wrap ((Yn : Int) - (Pn : Int)) = (wy : Int) := by rw [show (Yn : Int) - (Pn : Int) = (wy : Int) by omega]; exact wr (by omega)
  have hwb : wx * wy ≤ 64 * 64 := Nat.mul_le_mul (by omega) (by omega)
  rw [hwx, hwy]
  obtain ⟨wz, hwz⟩ : ∃ z, wx * wy = z := ⟨_, rfl⟩
  have k7 : IntKind.i64.wrap ((wx : Int) * (wy : Int)) = (wz : Int) := by rw [show (wx : Int) * (wy : Int) = ((wx * wy : Nat) : Int) from (Int.natCast_mul _ _).symm, hwz]; exact wr (by omega)
  rw [hwz]
  clear hwx hwy hwz hwb
  go_upto_region 14 with fail
  clear i_0 i_1 i_2 i_3 k5 k6 k7
  have hNT0 : ¬ NT = 0 := by omega
  have hn0 : ¬ n = 0 := by omega
  refine last_cut (by kernel_rfl) (fun U => U.heap[gm]? = some (.cells #[.int .i64 (Xn : Int), .int .i64 (Yn : Int), .int .i64 (On : Int), .int .i64 (Pn : Int), .slice (some ⟨bc, oc, none⟩) n c] 25 (0, 0)) ∧ U.cell? ⟨bt, ot, none⟩ = some (.int .i64 (T0 : Int)) ∧ U.cell? ⟨bt, ot + 1, none⟩ = some (.int .i64 (T1 : Int)) ∧ U.cell? ⟨bt, ot + 2, none⟩ = some (.int .i64 (T2 : Int)) ∧ U.cell? ⟨bt, ot + 3, none⟩ = some (.int .i64 (T3 : Int)) ∧ U.cell? ⟨bc, oc + 2, none⟩ = some (.int .i64 (dxn : Int)) ∧ U.cell? ⟨bc, oc + 3, none⟩ = some (.int .i64 (dyn : Int))) (fun aF a' W' => ∃ gq, a' = (((((((((((((((aF.put (some 106) (.slice (some ⟨bt, ot, none⟩) NT cT)).put (some 107) (.pointer (some ⟨bt, ot, none⟩))).put (some 108) (.agg #[.int .i64 (T0 : Int), .int .i64 (T1 : Int), .int .i64 (T2 : Int), .int .i64 (T3 : Int)])).put (some 109) (.pointer (some ⟨gm, 4, none⟩))).put (some 110) (.slice (some ⟨bc, oc, none⟩) n c)).put (some 111) (.pointer (some ⟨bc, oc, none⟩))).put (some 112) (.pointer (some ⟨bc, oc + 2, none⟩))).put (some 113) (.int .i64 (dxn : Int))).put (some 114) (.pointer (some ⟨gm, 4, none⟩))).put (some 115) (.slice (some ⟨bc, oc, none⟩) n c)).put (some 116) (.pointer (some ⟨bc, oc, none⟩))).put (some 117) (.pointer (some ⟨bc, oc + 3, none⟩))).put (some 118) (.int .i64 (dyn : Int))).put (some 119) (.agg #[.int .i64 (Q0 : Int), .int .i64 (Q1 : Int), .int .i64 (Q2 : Int), .int .i64 (Q3 : Int)])).put (some 8) (.pointer (some ⟨gq, 0, none⟩))) ∧ W'.heap[gq]? = some (.cells #[.int .i64 (Q0 : Int), .int .i64 (Q1 : Int), .int .i64 (Q2 : Int), .int .i64 (Q3 : Int)] 53 (0, 0)) ∧ V5.heap.size ≤ gq ∧ Below V5.heap.size V5 W') ⟨img5, t0, t1, t2, t3, k2, k3⟩ (fun hS => ?_) ?_
  · skip
    have hSB : ∀ U : World, Below (V5.heap.size) V5 U → U.heap[gm]? = some (.cells #[.int .i64 (Xn : Int), .int .i64 (Yn : Int), .int .i64 (On : Int), .int .i64 (Pn : Int), .slice (some ⟨bc, oc, none⟩) n c] 25 (0, 0)) ∧ U.cell? ⟨bt, ot, none⟩ = some (.int .i64 (T0 : Int)) ∧ U.cell? ⟨bt, ot + 1, none⟩ = some (.int .i64 (T1 : Int)) ∧ U.cell? ⟨bt, ot + 2, none⟩ = some (.int .i64 (T2 : Int)) ∧ U.cell? ⟨bt, ot + 3, none⟩ = some (.int .i64 (T3 : Int)) ∧ U.cell? ⟨bc, oc + 2, none⟩ = some (.int .i64 (dxn : Int)) ∧ U.cell? ⟨bc, oc + 3, none⟩ = some (.int .i64 (dyn : Int)) := fun U h => ⟨(h.block (gm) (by omega)).trans (img5), (h.cell (p := ⟨bt, ot, none⟩) (by simp only; omega)).trans (t0), (h.cell (p := ⟨bt, ot + 1, none⟩) (by simp only; omega)).trans (t1), (h.cell (p := ⟨bt, ot + 2, none⟩) (by simp only; omega)).trans (t2), (h.cell (p := ⟨bt, ot + 3, none⟩) (by simp only; omega)).trans (t3), (h.cell (p := ⟨bc, oc + 2, none⟩) (by simp only; omega)).trans (k2), (h.cell (p := ⟨bc, oc + 3, none⟩) (by simp only; omega)).trans (k3)⟩
    have bV : Below V5.heap.size V5 V5.drew := (Below.refl _ _).drew
    generalize V5.drew = V0 at *
    change wpAnyL _ _ _ _ _ 16 #[false, false, false, false, false, false, false, false, false, false, false, false, false, false, false, false] _ _
    refine wpAnyL_take (i := 0) (v := .slice (some ⟨bt, ot, none⟩) NT cT) (by simp only [List.getElem?_toArray, List.getElem?_cons_succ, List.getElem?_cons_zero]; rfl) (by as_aux_lemma => kernel_rfl) (by as_aux_lemma => kernel_rfl) (by as_aux_lemma => kernel_rfl) (fun _ _ _ h => h) (Or.inl ⟨by rfl, ?_⟩) hS ?_
    · intro U hU
      obtain ⟨s0, s1, s2, s3, s4, s5, s6⟩ := hU
      kernel_rfl
    simp only [Act.put, List.setIfInBounds_toArray, List.set_cons_zero, List.set_cons_succ]
    refine wpAnyL_take (i := 1) (v := .pointer (some ⟨bt, ot, none⟩)) (by simp only [List.getElem?_toArray, List.getElem?_cons_succ, List.getElem?_cons_zero]; rfl) (by as_aux_lemma => kernel_rfl) (by as_aux_lemma => kernel_rfl) (by as_aux_lemma => kernel_rfl) (fun _ _ _ h => h) (Or.inl ⟨by rfl, ?_⟩) hS ?_
    · intro U hU
      obtain ⟨s0, s1, s2, s3, s4, s5, s6⟩ := hU
      go_simp
    simp only [Act.put, List.setIfInBounds_toArray, List.set_cons_zero, List.set_cons_succ]
    refine wpAnyL_take (i := 2) (v := .agg #[.int .i64 (T0 : Int), .int .i64 (T1 : Int), .int .i64 (T2 : Int), .int .i64 (T3 : Int)]) (by simp only [List.getElem?_toArray, List.getElem?_cons_succ, List.getElem?_cons_zero]; rfl) (by as_aux_lemma => kernel_rfl) (by as_aux_lemma => kernel_rfl) (by as_aux_lemma => kernel_rfl) (fun _ _ _ h => h) (Or.inl ⟨by rfl, ?_⟩) hS ?_
    · intro U hU
      obtain ⟨s0, s1, s2, s3, s4, s5, s6⟩ := hU
      go_simp
    simp only [Act.put, List.setIfInBounds_toArray, List.set_cons_zero, List.set_cons_succ]
    refine wpAnyL_take (i := 3) (v := .pointer (some ⟨gm, 4, none⟩)) (by simp only [List.getElem?_toArray, List.getElem?_cons_succ, List.getElem?_cons_zero]; rfl) (by as_aux_lemma => kernel_rfl) (by as_aux_lemma => kernel_rfl) (by as_aux_lemma => kernel_rfl) (fun _ _ _ h => h) (Or.inl ⟨by rfl, ?_⟩) hS ?_
    · intro U hU
      obtain ⟨s0, s1, s2, s3, s4, s5, s6⟩ := hU
      kernel_rfl
    simp only [Act.put, List.setIfInBounds_toArray, List.set_cons_zero, List.set_cons_succ]
    refine wpAnyL_take (i := 4) (v := .slice (some ⟨bc, oc, none⟩) n c) (by simp only [List.getElem?_toArray, List.getElem?_cons_succ, List.getElem?_cons_zero]; rfl) (by as_aux_lemma => kernel_rfl) (by as_aux_lemma => kernel_rfl) (by as_aux_lemma => kernel_rfl) (fun _ _ _ h => h) (Or.inl ⟨by rfl, ?_⟩) hS ?_
    · intro U hU
      obtain ⟨s0, s1, s2, s3, s4, s5, s6⟩ := hU
      have r0_4 : U.cell? ⟨gm, 4, none⟩ = some (.slice (some ⟨bc, oc, none⟩) n c) := cell_of_row _ _ 4 _ _ (0, 0) s0
      exact exec_loadCell rfl rfl r0_4 (by kernel_rfl)
    simp only [Act.put, List.setIfInBounds_toArray, List.set_cons_zero, List.set_cons_succ]
    refine wpAnyL_take (i := 5) (v := .pointer (some ⟨bc, oc, none⟩)) (by simp only [List.getElem?_toArray, List.getElem?_cons_succ, List.getElem?_cons_zero]; rfl) (by as_aux_lemma => kernel_rfl) (by as_aux_lemma => kernel_rfl) (by as_aux_lemma => kernel_rfl) (fun _ _ _ h => h) (Or.inl ⟨by rfl, ?_⟩) hS ?_
    · intro U hU
      obtain ⟨s0, s1, s2, s3, s4, s5, s6⟩ := hU
      go_simp
    simp only [Act.put, List.setIfInBounds_toArray, List.set_cons_zero, List.set_cons_succ]
    refine wpAnyL_take (i := 6) (v := .pointer (some ⟨bc, oc + 2, none⟩)) (by simp only [List.getElem?_toArray, List.getElem?_cons_succ, List.getElem?_cons_zero]; rfl) (by as_aux_lemma => kernel_rfl) (by as_aux_lemma => kernel_rfl) (by as_aux_lemma => kernel_rfl) (fun _ _ _ h => h) (Or.inl ⟨by rfl, ?_⟩) hS ?_
    · intro U hU
      obtain ⟨s0, s1, s2, s3, s4, s5, s6⟩ := hU
      kernel_rfl
    simp only [Act.put, List.setIfInBounds_toArray, List.set_cons_zero, List.set_cons_succ]
    refine wpAnyL_take (i := 7) (v := .int .i64 (dxn : Int)) (by simp only [List.getElem?_toArray, List.getElem?_cons_succ, List.getElem?_cons_zero]; rfl) (by as_aux_lemma => kernel_rfl) (by as_aux_lemma => kernel_rfl) (by as_aux_lemma => kernel_rfl) (fun _ _ _ h => h) (Or.inl ⟨by rfl, ?_⟩) hS ?_
    · intro U hU
      obtain ⟨s0, s1, s2, s3, s4, s5, s6⟩ := hU
      exact exec_loadCell rfl rfl s5 (by kernel_rfl)
    simp only [Act.put, List.setIfInBounds_toArray, List.set_cons_zero, List.set_cons_succ]
    refine wpAnyL_take (i := 8) (v := .pointer (some ⟨gm, 4, none⟩)) (by simp only [List.getElem?_toArray, List.getElem?_cons_succ, List.getElem?_cons_zero]; rfl) (by as_aux_lemma => kernel_rfl) (by as_aux_lemma => kernel_rfl) (by as_aux_lemma => kernel_rfl) (fun _ _ _ h => h) (Or.inl ⟨by rfl, ?_⟩) hS ?_
    · intro U hU
      obtain ⟨s0, s1, s2, s3, s4, s5, s6⟩ := hU
      kernel_rfl
    simp only [Act.put, List.setIfInBounds_toArray, List.set_cons_zero, List.set_cons_succ]
    refine wpAnyL_take (i := 9) (v := .slice (some ⟨bc, oc, none⟩) n c) (by simp only [List.getElem?_toArray, List.getElem?_cons_succ, List.getElem?_cons_zero]; rfl) (by as_aux_lemma => kernel_rfl) (by as_aux_lemma => kernel_rfl) (by as_aux_lemma => kernel_rfl) (fun _ _ _ h => h) (Or.inl ⟨by rfl, ?_⟩) hS ?_
    · intro U hU
      obtain ⟨s0, s1, s2, s3, s4, s5, s6⟩ := hU
      have r0_4 : U.cell? ⟨gm, 4, none⟩ = some (.slice (some ⟨bc, oc, none⟩) n c) := cell_of_row _ _ 4 _ _ (0, 0) s0
      exact exec_loadCell rfl rfl r0_4 (by kernel_rfl)
    simp only [Act.put, List.setIfInBounds_toArray, List.set_cons_zero, List.set_cons_succ]
    refine wpAnyL_take (i := 10) (v := .pointer (some ⟨bc, oc, none⟩)) (by simp only [List.getElem?_toArray, List.getElem?_cons_succ, List.getElem?_cons_zero]; rfl) (by as_aux_lemma => kernel_rfl) (by as_aux_lemma => kernel_rfl) (by as_aux_lemma => kernel_rfl) (fun _ _ _ h => h) (Or.inl ⟨by rfl, ?_⟩) hS ?_
    · intro U hU
      obtain ⟨s0, s1, s2, s3, s4, s5, s6⟩ := hU
      go_simp
    simp only [Act.put, List.setIfInBounds_toArray, List.set_cons_zero, List.set_cons_succ]
    refine wpAnyL_take (i := 11) (v := .pointer (some ⟨bc, oc + 3, none⟩)) (by simp only [List.getElem?_toArray, List.getElem?_cons_succ, List.getElem?_cons_zero]; rfl) (by as_aux_lemma => kernel_rfl) (by as_aux_lemma => kernel_rfl) (by as_aux_lemma => kernel_rfl) (fun _ _ _ h => h) (Or.inl ⟨by rfl, ?_⟩) hS ?_
    · intro U hU
      obtain ⟨s0, s1, s2, s3, s4, s5, s6⟩ := hU
      kernel_rfl
    simp only [Act.put, List.setIfInBounds_toArray, List.set_cons_zero, List.set_cons_succ]
    refine wpAnyL_take (i := 12) (v := .int .i64 (dyn : Int)) (by simp only [List.getElem?_toArray, List.getElem?_cons_succ, List.getElem?_cons_zero]; rfl) (by as_aux_lemma => kernel_rfl) (by as_aux_lemma => kernel_rfl) (by as_aux_lemma => kernel_rfl) (fun _ _ _ h => h) (Or.inl ⟨by rfl, ?_⟩) hS ?_
    · intro U hU
      obtain ⟨s0, s1, s2, s3, s4, s5, s6⟩ := hU
      exact exec_loadCell rfl rfl s6 (by kernel_rfl)
    simp only [Act.put, List.setIfInBounds_toArray, List.set_cons_zero, List.set_cons_succ]
    refine wpAnyL_ready (rs := [13, 14]) (by as_aux_lemma => kernel_rfl) (by simp) ?_
    refine AllReadyL.cons (by simp only [List.getElem?_toArray, List.getElem?_cons_succ, List.getElem?_cons_zero]; rfl) (fun K' hK' => ?_) (AllReadyL.cons (by simp only [List.getElem?_toArray, List.getElem?_cons_succ, List.getElem?_cons_zero]; rfl) (fun K' hK' => ?_) AllReadyL.nil)
    · go_simp
      go_at_call 22
      refine (HPt.out _).mono ?_
      rintro e' U16 ⟨rfl, hb16⟩
      have b16 := below_trans bV hb16
      have hS := hSB _ b16
      dsimp only
      refine hK'.out _ _ hS (fun _ => ?_)
      clear hb16
      clear hK' K'
      try simp only [Act.put, List.setIfInBounds_toArray, List.set_cons_zero, List.set_cons_succ]
      refine wpAnyL_ready (rs := [14]) (by as_aux_lemma => kernel_rfl) (by simp) ?_
      refine AllReadyL.cons (by simp only [List.getElem?_toArray, List.getElem?_cons_succ, List.getElem?_cons_zero]; rfl) (fun K' hK' => ?_) AllReadyL.nil
      go_simp
      obtain ⟨gq, hgq⟩ : ∃ g, U16.heap.size = g := ⟨_, rfl⟩
      have x9 := heap_alloc_new U16 (.cells #[.int .i64 0, .int .i64 0, .int .i64 0, .int .i64 0] 53)
      have l9 : U16.heap.size < (U16.alloc (.cells #[.int .i64 0, .int .i64 0, .int .i64 0, .int .i64 0] 53)).heap.size := by simp
      have y9 : V5.heap.size ≤ U16.heap.size := b16.size
      have b17 := below_alloc b16 (.cells #[.int .i64 0, .int .i64 0, .int .i64 0, .int .i64 0] 53)
      generalize U16.alloc (.cells #[.int .i64 0, .int .i64 0, .int .i64 0, .int .i64 0] 53) = U17 at *
      rw [hgq] at x9 l9 y9 ⊢
      clear hgq b16
      have hS := hSB _ b17
      refine hK'.out _ _ hS (fun _ => ?_)
      clear hK' K'
      try simp only [Act.put, List.setIfInBounds_toArray, List.set_cons_zero, List.set_cons_succ]
      refine wpAnyL_ready (rs := [15]) (by as_aux_lemma => kernel_rfl) (by simp) ?_
      refine AllReadyL.last (by simp only [List.getElem?_toArray, List.getElem?_cons_succ, List.getElem?_cons_zero]; rfl) (by as_aux_lemma => kernel_rfl) (fun K' hK' => ?_)
      have d0 : U17.cell? ⟨gq, 0, none⟩ = some (.int .i64 0) := cell_of_row _ _ 0 _ _ (0, 0) x9
      have d1 : U17.cell? ⟨gq, 1, none⟩ = some (.int .i64 0) := cell_of_row _ _ 1 _ _ (0, 0) x9
      have d2 : U17.cell? ⟨gq, 2, none⟩ = some (.int .i64 0) := cell_of_row _ _ 2 _ _ (0, 0) x9
      have d3 : U17.cell? ⟨gq, 3, none⟩ = some (.int .i64 0) := cell_of_row _ _ 3 _ _ (0, 0) x9
      have dz : ∀ i, U17.frozen? ⟨gq, i, none⟩ = false := fun i => frozen_of_row _ _ i _ _ x9
      go_simp
      obtain ⟨U18, hV, x9', b18⟩ : ∃ V, ((((U17.setCell ⟨gq, 0, none⟩ (.int .i64 (Q0 : Int))).setCell ⟨gq, 1, none⟩ (.int .i64 (Q1 : Int))).setCell ⟨gq, 2, none⟩ (.int .i64 (Q2 : Int))).setCell ⟨gq, 3, none⟩ (.int .i64 (Q3 : Int))) = V ∧ V.heap[gq]? = some (.cells #[.int .i64 (Q0 : Int), .int .i64 (Q1 : Int), .int .i64 (Q2 : Int), .int .i64 (Q3 : Int)] 53 (0, 0)) ∧ Below V5.heap.size V5 V := ⟨_, rfl, setRow_at (old := [.int .i64 0, .int .i64 0, .int .i64 0, .int .i64 0]) [.int .i64 (Q0 : Int), .int .i64 (Q1 : Int), .int .i64 (Q2 : Int), .int .i64 (Q3 : Int)] rfl x9, setRow_below y9 [.int .i64 (Q0 : Int), .int .i64 (Q1 : Int), .int .i64 (Q2 : Int), .int .i64 (Q3 : Int)] 0 _ b17⟩
      rw [hV]
      clear hV
      refine hK'.out _ _ (?_)
      clear d0 d1 d2 d3 dz
      clear hK' K'
      try simp only [Act.put, List.setIfInBounds_toArray, List.set_cons_zero, List.set_cons_succ]
      refine wpAnyL_done (by as_aux_lemma => kernel_rfl) ?_ _
      simp only [OnlyN]
      refine ⟨gq, ?_, x9', y9, b18⟩
      (try simp only [Act.put, List.setIfInBounds_toArray, List.set_cons_zero, List.set_cons_succ])
    · go_simp
      obtain ⟨gq, hgq⟩ : ∃ g, V0.heap.size = g := ⟨_, rfl⟩
      have x9 := heap_alloc_new V0 (.cells #[.int .i64 0, .int .i64 0, .int .i64 0, .int .i64 0] 53)
      have l9 : V0.heap.size < (V0.alloc (.cells #[.int .i64 0, .int .i64 0, .int .i64 0, .int .i64 0] 53)).heap.size := by simp
      have y9 : V5.heap.size ≤ V0.heap.size := bV.size
      have b17 := below_alloc bV (.cells #[.int .i64 0, .int .i64 0, .int .i64 0, .int .i64 0] 53)
      generalize V0.alloc (.cells #[.int .i64 0, .int .i64 0, .int .i64 0, .int .i64 0] 53) = U17 at *
      rw [hgq] at x9 l9 y9 ⊢
      clear hgq bV
      have hS := hSB _ b17
      refine hK'.out _ _ hS (fun _ => ?_)
      clear hK' K'
      try simp only [Act.put, List.setIfInBounds_toArray, List.set_cons_zero, List.set_cons_succ]
      refine wpAnyL_ready (rs := [13]) (by as_aux_lemma => kernel_rfl) (by simp) ?_
      refine AllReadyL.cons (by simp only [List.getElem?_toArray, List.getElem?_cons_succ, List.getElem?_cons_zero]; rfl) (fun K' hK' => ?_) AllReadyL.nil
      go_simp
      go_at_call 22
      refine (HPt.out _).mono ?_
      rintro e' U16 ⟨rfl, hb16⟩
      replace x9 := (hb16.block gq l9).trans x9
      replace l9 := Nat.lt_of_lt_of_le l9 hb16.size
      have b16 := below_trans b17 hb16
      have hS := hSB _ b16
      dsimp only
      refine hK'.out _ _ hS (fun _ => ?_)
      clear hb16
      clear hK' K'
      try simp only [Act.put, List.setIfInBounds_toArray, List.set_cons_zero, List.set_cons_succ]
      refine wpAnyL_ready (rs := [15]) (by as_aux_lemma => kernel_rfl) (by simp) ?_
      refine AllReadyL.last (by simp only [List.getElem?_toArray, List.getElem?_cons_succ, List.getElem?_cons_zero]; rfl) (by as_aux_lemma => kernel_rfl) (fun K' hK' => ?_)
      have d0 : U16.cell? ⟨gq, 0, none⟩ = some (.int .i64 0) := cell_of_row _ _ 0 _ _ (0, 0) x9
      have d1 : U16.cell? ⟨gq, 1, none⟩ = some (.int .i64 0) := cell_of_row _ _ 1 _ _ (0, 0) x9
      have d2 : U16.cell? ⟨gq, 2, none⟩ = some (.int .i64 0) := cell_of_row _ _ 2 _ _ (0, 0) x9
      have d3 : U16.cell? ⟨gq, 3, none⟩ = some (.int .i64 0) := cell_of_row _ _ 3 _ _ (0, 0) x9
      have dz : ∀ i, U16.frozen? ⟨gq, i, none⟩ = false := fun i => frozen_of_row _ _ i _ _ x9
      go_simp
      obtain ⟨U18, hV, x9', b18⟩ : ∃ V, ((((U16.setCell ⟨gq, 0, none⟩ (.int .i64 (Q0 : Int))).setCell ⟨gq, 1, none⟩ (.int .i64 (Q1 : Int))).setCell ⟨gq, 2, none⟩ (.int .i64 (Q2 : Int))).setCell ⟨gq, 3, none⟩ (.int .i64 (Q3 : Int))) = V ∧ V.heap[gq]? = some (.cells #[.int .i64 (Q0 : Int), .int .i64 (Q1 : Int), .int .i64 (Q2 : Int), .int .i64 (Q3 : Int)] 53 (0, 0)) ∧ Below V5.heap.size V5 V := ⟨_, rfl, setRow_at (old := [.int .i64 0, .int .i64 0, .int .i64 0, .int .i64 0]) [.int .i64 (Q0 : Int), .int .i64 (Q1 : Int), .int .i64 (Q2 : Int), .int .i64 (Q3 : Int)] rfl x9, setRow_below y9 [.int .i64 (Q0 : Int), .int .i64 (Q1 : Int), .int .i64 (Q2 : Int), .int .i64 (Q3 : Int)] 0 _ b16⟩
      rw [hV]
      clear hV
      refine hK'.out _ _ (?_)
      clear d0 d1 d2 d3 dz
      clear hK' K'
      try simp only [Act.put, List.setIfInBounds_toArray, List.set_cons_zero, List.set_cons_succ]
      refine wpAnyL_done (by as_aux_lemma => kernel_rfl) ?_ _
      simp only [OnlyN]
      refine ⟨gq, ?_, x9', y9, b18⟩
      (try simp only [Act.put, List.setIfInBounds_toArray, List.set_cons_zero, List.set_cons_succ])
  rintro a' V6 ⟨gq, rfl, rq6, y9, h6⟩
  simp only [Act.put, List.setIfInBounds_toArray, List.set_cons_zero, List.set_cons_succ]
  have par6 := (h6.block (gm + 1) (by omega)).trans par5
  have b6 := b5.trans (h6.mono (by omega))
  have sz6 := h6.size
  have lq6 : gq < V6.heap.size := (Array.getElem?_eq_some_iff.1 rq6).1
  clear t0 t1 t2 t3 k2 k3 img5 par5 h6 b5 HPt
  go_wp2_with fail
  refine cvR_any (gm + 1) gq Q0 Q1 Q2 Q3 tx ty lv cw ch pr st od ly rct fsop feph V6 hQb ⟨hQ02, hQ13⟩ (by omega) (by omega) (by omega) ⟨by omega, by omega⟩ HWAY.out par6 rq6 _ ?_
  intro u2 u10 u11 u12 u13 u14 u15 u16 u17 u18 u19 u20 u21 u22 u23 u24 u25 u120 u121 u122 u123 u124 u125 u126 u127 u128 u129 u130 u131 u132 u133 u134 u135 u136 u137 u138 u139 u140 u141 u142 u143 u144 u145 u146 u147 u148 u149 u150 u151 u152 u153 u154 u155 u156 u157 u158 u159 u160 u161 u162 u163 u164 u165 u166 u167 u168 u169 u170 u171 u172 u173 u174 u175 u176 u177 u178 u179 u180 u181 u182 u183 u184 u185 u186 u187 u188 u189 u190 u191 u192 u193 u194 u195 u196 u197 u198 u199 u200 u201 u202 u203 u204 u205 u206 u207 u208 u209 u210 u211 u212 u213 u214 u215 u216 u217 u218 u219 u220 u221 u222 u223 u224 u225 u226 u227 u228 u229 u230 u231 u232 u233 u234 u235 u236 u237 u238 u239 u240 u241 u242 u243 u244 u245 u246 u247 u248 u249 u250 u251 u252 u253 u254 u255 u256 u257 u258 u259 u260 u261 u262 u263 u264 u265 u266 u267 u268 u269 u270 u271 u272 u273 u274 u275 u276 u277 u278 u279 u280 u281 u282 u283 u284 u285 u286 u287 u288 u289 u290 u291 u292 u293 V7 h7
  rw [tot_end, HARR.out]
  have rq7 := (h7.block gq lq6).trans rq6
  have b7 := b6.trans (h7.mono (by omega))
  have q_0 : V7.cell? ⟨gq, 0, none⟩ = some (.int .i64 (Q0 : Int)) := cell_of_row _ _ 0 _ _ (0, 0) rq7
  have q_1 : V7.cell? ⟨gq, 1, none⟩ = some (.int .i64 (Q1 : Int)) := cell_of_row _ _ 1 _ _ (0, 0) rq7
  have q_2 : V7.cell? ⟨gq, 2, none⟩ = some (.int .i64 (Q2 : Int)) := cell_of_row _ _ 2 _ _ (0, 0) rq7
  have q_3 : V7.cell? ⟨gq, 3, none⟩ = some (.int .i64 (Q3 : Int)) := cell_of_row _ _ 3 _ _ (0, 0) rq7
  have sz7 := h7.size
  clear par6 rq6 h7 b6 rq7
  go_wp2_with fail
  refine (HAr.out _).mono ?_
  rintro e' V8 ⟨rfl, h8⟩
  have b8 := b7.trans (h8.mono (by omega))
  clear q_0 q_1 q_2 q_3 h8 HAr
  go_wp2_with fail
  go_ret
  exact ⟨by simp, by rw [hq]; exact b8⟩
end Go.Proofs.Ytmieoifagnpbiaa
