/- THE WALK of waveletlaw16.OrderFirst. -/
import Derived.Test.YtpgkdpoehkdhcaaOrdM
import Derived.Test.YtpgkdpoehkdhcaaRTiles
import Derived.Deep.LoopGhost
import Derived.Deep.CutBlock
namespace Go.Proofs.Ytpgkdpoehkdhcaa
open Go.RowKit
attribute [local go_sem] opv opnd
set_option maxHeartbeats 40000000
set_option linter.unusedVariables false
set_option linter.unusedSimpArgs false
set_option maxRecDepth 1000000
theorem ordFst_walk (fX fY fOx fOy fC fD fS : Int) (fsg frct fsop feph : Bool) (fTx fTy fL fcw fch fP fSt fO fLy : Int) (NA : Option Addr) (nN cN : Nat) (Nf : Nat → Int) (o : Int) (w : World) (hN : IntsAt w w.heap.size NA nN Nf) (hNf : ∀ k, k < nN → -9223372036854775808 ≤ Nf k ∧ Nf k ≤ 9223372036854775807) (hNn : nN ≤ 9223372036854775807) (hSb : -9223372036854775808 ≤ fS ∧ fS ≤ 9223372036854775807) (ho : -9223372036854775808 ≤ o ∧ o ≤ 9223372036854775807) :
    Calls Try.prog 5 #[.agg #[.int .i64 fX, .int .i64 fY, .int .i64 fOx, .int .i64 fOy, .int .i64 fC, .int .i64 fD, .int .i64 fS, .bool fsg, .bool frct, .bool fsop, .bool feph, .int .i64 fTx, .int .i64 fTy, .int .i64 fL, .int .i64 fcw, .int .i64 fch, .int .i64 fP, .int .i64 fSt, .int .i64 fO, .int .i64 fLy, .slice NA nN cN], .int .i64 o] w fun e w' => e = .returned (.bool true) ∧ Below w.heap.size w w' := by
  have HMk := Lib.hid (fun (v : World) (h : IntsAt v v.heap.size NA nN Nf) => make_any fX fY fOx fOy fC fD fS fsg frct fsop feph fTx fTy fL fcw fch fP fSt fO fLy NA nN cN Nf 16 (by omega) (by omega) v h hNf hNn hSb)
  rw [show ((16 : Nat) : Int) = 16 from rfl] at HMk
  have HN := Lib.hid hN
  clear hN hNf hNn hSb
  go_enter Try.func5, Try.ntmps5
  go_wp2_with fail
  obtain ⟨q, hq⟩ : ∃ q, w.heap.size = q := ⟨_, rfl⟩
  generalize hw0 : World.alloc w _ = W0
  have f0 : W0.heap[q]? = some (.cells #[.int .i64 fX, .int .i64 fY, .int .i64 fOx, .int .i64 fOy, .int .i64 fC, .int .i64 fD, .int .i64 fS, .bool fsg, .bool frct, .bool fsop, .bool feph, .int .i64 fTx, .int .i64 fTy, .int .i64 fL, .int .i64 fcw, .int .i64 fch, .int .i64 fP, .int .i64 fSt, .int .i64 fO, .int .i64 fLy, .slice NA nN cN] 24 (0, 0)) := by rw [← hw0, ← hq]; exact heap_alloc_new w _
  have z0 : W0.heap.size = q + 1 := by rw [← hw0, ← hq]; simp
  have b0 : Below q w W0 := by rw [← hw0, ← hq]; exact below_alloc (Below.refl _ _) _
  clear hw0
  refine (known16_any _).mono ?_
  rintro e' W1 ⟨rfl, h1⟩
  have f1 := (h1.block q (by omega)).trans f0
  have b1 := b0.trans (h1.mono (by omega))
  have z1 : q + 1 ≤ W1.heap.size := by have := h1.size; omega
  clear h1 f0 b0 z0
  go_upto_region 3 with fail
  refine wp_region_lit ?_
  refine wpList_loadRow rfl rfl rfl f1 (by kernel_rfl) (by kernel_rfl) ?_
  go_wp2_with fail
  refine (HMk.out W1 ((HN.out.below (by rw [hq]; exact b1)).more (by have := b1.size; omega))).mono ?_
  rintro e' W2 ⟨Xn, Yn, On, Pn, tx, ty, lv, cw, ch, pr, st, od, ly, n, dn, rct, PL, A, c, F, G, rfl, hP, hI, h2⟩
  have b2 := b1.trans (h2.mono (by omega))
  have z2 : q + 1 ≤ W2.heap.size := by have := h2.size; omega
  have hI := hI.mono z1
  clear h2 b1 f1
  have HP := Lib.hid hP
  have HI := Lib.hid hI
  clear hP hI HMk HN
  unfold imgV parV
  go_upto_region 4 with fail
  obtain ⟨gm, hgm⟩ : ∃ g, W2.heap.size = g := ⟨_, rfl⟩
  generalize hV3 : World.alloc (World.alloc W2 _) _ = V3
  have img : V3.heap[gm]? = some (.cells #[.int .i64 Xn, .int .i64 Yn, .int .i64 On, .int .i64 Pn, .slice A n c] 28 (0, 0)) := by rw [← hV3, ← hgm]; exact (Below.heap_alloc _ _ _ (by simp)).trans (heap_alloc_new W2 _)
  have par : V3.heap[gm + 1]? = some (.cells #[.int .i64 tx, .int .i64 ty, .int .i64 lv, .int .i64 cw, .int .i64 ch, .int .i64 pr, .int .i64 st, .int .i64 od, .int .i64 ly, .bool rct, .bool fsop, .bool feph] 30 (0, 0)) := by rw [← hV3, ← hgm]; exact heap_alloc_new2 W2 _ _
  have h3 : Below gm W2 V3 := by rw [← hV3, ← hgm]; exact below_alloc (below_alloc (Below.refl _ _) _) _
  have z3 : V3.heap.size = gm + 2 := by rw [← hV3, ← hgm]; simp
  rw [hgm] at z2 ⊢
  clear hV3
  have HI3 := Lib.hid (HI.out.below (by rw [hgm]; exact h3))
  have b3 := b2.trans (h3.mono (by omega))
  clear HI b2 h3
  have hnum : 1 ≤ n ∧ n ≤ 4 := ⟨HP.out.num.1, HP.out.num.2.1⟩
  obtain ⟨g, rfl, hgq, hgl⟩ := HI3.out.comps.row (by omega)
  obtain ⟨o5, ho5, ho5e, HK0⟩ := within16v o 5 5 rfl (by omega) (by omega)
  have HK := Lib.hid HK0
  clear HK0 ho5e
  have p7 : V3.cell? ⟨gm + 1, 7, none⟩ = some (.int .i64 (od : Int)) := cell_of_row _ _ 7 _ _ (0, 0) par
  have f7 : V3.frozen? ⟨gm + 1, 7, none⟩ = false := frozen_of_row _ _ 7 _ _ par
  go_wp2_with fail
  refine (HK.out _).mono ?_
  rintro e' wa ⟨rfl, hwa⟩
  subst hwa
  go_upto_region 5 with fail
  clear p7 f7 HK
  have par4 : (V3.setCell ⟨gm + 1, 7, none⟩ (.int .i64 (o5 : Int))).heap[gm + 1]? = some (.cells #[.int .i64 (tx : Int), .int .i64 (ty : Int), .int .i64 (lv : Int), .int .i64 (cw : Int), .int .i64 (ch : Int), .int .i64 (pr : Int), .int .i64 (st : Int), .int .i64 (o5 : Int), .int .i64 (ly : Int), .bool rct, .bool fsop, .bool feph] 30 (0, 0)) := heap_setCell_same _ _ 7 _ _ _ par
  have hb4 : Below gm V3 (V3.setCell ⟨gm + 1, 7, none⟩ (.int .i64 (o5 : Int))) := (Below.refl _ _).setCell (p := ⟨gm + 1, 7, none⟩) (by simp only; omega) _
  have img4 : (V3.setCell ⟨gm + 1, 7, none⟩ (.int .i64 (o5 : Int))).heap[gm]? = some (.cells #[.int .i64 (Xn : Int), .int .i64 (Yn : Int), .int .i64 (On : Int), .int .i64 (Pn : Int), .slice (some ⟨g, 0, none⟩) n c] 28 (0, 0)) := (Below.heap_setCell _ _ _ _ (by simp only; omega)).trans img
  have hP2 := HP.out.with_ (pr' := pr) (od' := o5) (by have := HP.out.bds; omega) (by omega)
  have hfr := made_frame hP2 (by omega) HI3.out.good
  have hgg : g < gm := by
    have e1 : g ≠ gm := fun e => HI3.out.comps.ne_block img (by decide) (by rw [e]; rfl)
    have e2 : g ≠ gm + 1 := fun e => HI3.out.comps.ne_block par (by decide) (by rw [e]; rfl)
    omega
  have hca : CompsAt V3 gm (some ⟨g, 0, none⟩) n F := fun h0 => by
    obtain ⟨b, off, e, _, hk⟩ := HI3.out.compsAt.1 h0
    cases e
    exact ⟨g, 0, rfl, hgg, hk⟩
  have hnc := HI3.out.compsAt.2
  have HGood := Lib.hid HI3.out.good
  have hz4 : (V3.setCell ⟨gm + 1, 7, none⟩ (.int .i64 (o5 : Int))).heap.size = gm + 2 := by simp [z3]
  have b4 := b3.trans (hb4.mono (by omega))
  have HCA := Lib.hid (hca.below hb4)
  generalize V3.setCell ⟨gm + 1, 7, none⟩ (.int .i64 (o5 : Int)) = V4 at *
  clear hb4 hca par img HI3 hI z3 b3 hgl
  have hon := HP.out.on
  have hxs := HP.out.xs
  have hts := HP.out.ts
  have hlv : lv ≤ 5 := HP.out.bds.1
  have hpr : pr ≤ 15 := by have := HP.out.bds; omega
  have hly : 1 ≤ ly ∧ ly ≤ 4 := by have := HP.out.bds; omega
  have HFR := Lib.hid hfr
  clear hfr hP2
  refine wp_region_lit ?_
  refine wpList_loadRow rfl rfl (by kernel_rfl) img4 (by kernel_rfl) (by kernel_rfl) ?_
  refine wpList_loadRow rfl rfl (by kernel_rfl) par4 (by kernel_rfl) (by kernel_rfl) ?_
  go_wp2_with fail
  refine (rtiles_any Xn Yn On Pn tx ty (some ⟨g, 0, none⟩) n c lv cw ch pr st o5 ly rct fsop feph (by omega) (by omega) (by omega) (by omega) (by omega) (by omega) (by omega) (by omega) V4 _ _ rfl rfl).mono ?_
  rintro e' W5 ⟨At, ct, rfl, ot, h5⟩
  have hWp : 1 ≤ byN Xn tx := by unfold byN; exact (Nat.le_div_iff_mul_le (by omega)).2 (by omega)
  have hHp : 1 ≤ byN Yn ty := by unfold byN; exact (Nat.le_div_iff_mul_le (by omega)).2 (by omega)
  have hT0 : tileR Xn Yn On Pn tx ty (gridAt (byN Xn tx) 0) = ⟨(On : Nat), (Pn : Nat), (min Xn tx : Nat), (min Yn ty : Nat)⟩ := by
    have e : gridAt (byN Xn tx) 0 = (0, 0) := by unfold gridAt; rw [Nat.zero_mod, Nat.zero_div]
    rw [e]
    exact tile0 (by omega) (by omega)
  obtain ⟨X1, hX1⟩ : ∃ z, min Xn tx = z := ⟨_, rfl⟩
  obtain ⟨Y1, hY1⟩ : ∃ z, min Yn ty = z := ⟨_, rfl⟩
  rw [hX1, hY1] at hT0
  have hX1b : X1 ≤ 30 := by omega
  have hY1b : Y1 ≤ 30 := by omega
  clear hX1 hY1
  have hTpos : 0 < byN Xn tx * byN Yn ty := Nat.mul_pos hWp hHp
  generalize byN Xn tx * byN Yn ty = NT at *
  obtain ⟨gt, hgt, _, _⟩ := ot.row hTpos
  subst hgt
  have htc := fun (j : Nat) (u : Value) (hu : (rcL ⟨(On : Nat), (Pn : Nat), (X1 : Nat), (Y1 : Nat)⟩)[j]? = some u) => ot.at_.cells hTpos (j := j) (u := u) (by rw [hT0]; exact hu)
  simp only [Nat.zero_add, Nat.zero_mul] at htc
  have tc0 : W5.cell? ⟨gt, 0, none⟩ = some (.int .i64 (On : Int)) := htc 0 _ rfl
  have tc1 : W5.cell? ⟨gt, 1, none⟩ = some (.int .i64 (Pn : Int)) := htc 1 _ rfl
  have tc2 : W5.cell? ⟨gt, 2, none⟩ = some (.int .i64 (X1 : Int)) := htc 2 _ rfl
  have tc3 : W5.cell? ⟨gt, 3, none⟩ = some (.int .i64 (Y1 : Int)) := htc 3 _ rfl
  have tk : Key4 W5 gt 0 (.int .i64 (On : Int)) (.int .i64 (Pn : Int)) (.int .i64 (X1 : Int)) (.int .i64 (Y1 : Int)) := ⟨tc0, tc1, tc2, tc3⟩
  have hgt2 : gt < W5.heap.size := by obtain ⟨gt', e, _, h2⟩ := ot.row hTpos; cases e; exact h2
  clear ot htc hT0 hWp hHp tc0 tc1 tc2 tc3
  have img5 := (h5.block gm (by omega)).trans img4
  have par5 := (h5.block (gm + 1) (by omega)).trans par4
  have b5 := b4.trans (h5.mono (by omega))
  have HC5 := Lib.hid (HCA.out.below (h5.mono (by omega)))
  have z5 : gm + 2 ≤ W5.heap.size := by have := h5.size; omega
  clear h5 img4 par4 b4 HCA hz4
  obtain ⟨Q, hQ⟩ : ∃ Q, Q = madeQ On Pn X1 Y1 lv pr o5 ly n F := ⟨_, rfl⟩
  have HOk := Lib.hid (show Q.Ok by rw [hQ]; exact madeQ_ok (by omega) hlv (by omega) (by omega) (by omega) hnum.2 HGood.out)
  have hqe : Q.x0 = On ∧ Q.y0 = Pn ∧ Q.x1 = X1 ∧ Q.y1 = Y1 ∧ Q.lv = lv ∧ Q.pr = pr ∧ Q.od = o5 ∧ Q.ly = ly ∧ Q.n = n := by rw [hQ]; exact ⟨rfl, rfl, rfl, rfl, rfl, rfl, rfl, rfl, rfl⟩
  have HQE := Lib.hid hqe
  have HD := Lib.hid (show ∀ k, k < n → (F k).dx = (Q.dx k : Int) ∧ (F k).dy = (Q.dy k : Int) by rw [hQ]; exact madeQ_d HGood.out)
  clear hQ hqe
  have HLs := Lib.hid (fun V : World => list_any Q HOk.out Xn Yn On Pn (some ⟨g, 0, none⟩) n c F tx ty cw ch st rct fsop feph On Pn X1 Y1 lv pr o5 ly HQE.out hnc HD.out HFR.out V)
  have hTz : (0 : Int) < (NT : Int) := by omega
  go_upto_region 6 with fail
  refine last_cut (by kernel_rfl) (fun U => Key4 U gt (0) (.int .i64 (On : Int)) (.int .i64 (Pn : Int)) (.int .i64 (X1 : Int)) (.int .i64 (Y1 : Int)) ∧ U.heap[gm]? = some (.cells #[.int .i64 (Xn : Int), .int .i64 (Yn : Int), .int .i64 (On : Int), .int .i64 (Pn : Int), .slice (some ⟨g, 0, none⟩) n c] 28 (0, 0)) ∧ U.heap[gm + 1]? = some (.cells #[.int .i64 (tx : Int), .int .i64 (ty : Int), .int .i64 (lv : Int), .int .i64 (cw : Int), .int .i64 (ch : Int), .int .i64 (pr : Int), .int .i64 (st : Int), .int .i64 (o5 : Int), .int .i64 (ly : Int), .bool rct, .bool fsop, .bool feph] 30 (0, 0))) (fun aF a' W' => ∃ (K : List Spot) (AK : Option Addr) (cK : Nat), a' = (((((((aF.put (some 25) (.slice (some ⟨gt, 0, none⟩) NT ct)).put (some 26) (.pointer (some ⟨gt, 0, none⟩))).put (some 27) (.agg #[.int .i64 (On : Int), .int .i64 (Pn : Int), .int .i64 (X1 : Int), .int .i64 (Y1 : Int)])).put (some 28) (.agg #[.int .i64 (Xn : Int), .int .i64 (Yn : Int), .int .i64 (On : Int), .int .i64 (Pn : Int), .slice (some ⟨g, 0, none⟩) n c])).put (some 29) (.agg #[.int .i64 (tx : Int), .int .i64 (ty : Int), .int .i64 (lv : Int), .int .i64 (cw : Int), .int .i64 (ch : Int), .int .i64 (pr : Int), .int .i64 (st : Int), .int .i64 (o5 : Int), .int .i64 (ly : Int), .bool rct, .bool fsop, .bool feph])).put (some 30) (.slice AK K.length cK)).put (some 8) (.slice AK K.length cK)) ∧ K.Perm (Q.l1 ly) ∧ K.Pairwise (fun a b => ltS b a = false) ∧ OwnC W' W5.heap.size 42 4 (.slice AK K.length cK) K.length (fun k => (rowS K k).take 4) ∧ Below W5.heap.size W5 W') ⟨tk, img5, par5⟩ (fun hS => ?_) ?_
  · skip
    have hSB : ∀ U : World, Below (W5.heap.size) W5 U → Key4 U gt (0) (.int .i64 (On : Int)) (.int .i64 (Pn : Int)) (.int .i64 (X1 : Int)) (.int .i64 (Y1 : Int)) ∧ U.heap[gm]? = some (.cells #[.int .i64 (Xn : Int), .int .i64 (Yn : Int), .int .i64 (On : Int), .int .i64 (Pn : Int), .slice (some ⟨g, 0, none⟩) n c] 28 (0, 0)) ∧ U.heap[gm + 1]? = some (.cells #[.int .i64 (tx : Int), .int .i64 (ty : Int), .int .i64 (lv : Int), .int .i64 (cw : Int), .int .i64 (ch : Int), .int .i64 (pr : Int), .int .i64 (st : Int), .int .i64 (o5 : Int), .int .i64 (ly : Int), .bool rct, .bool fsop, .bool feph] 30 (0, 0)) := fun U h => ⟨(tk).below (h) (by omega), (h.block (gm) (by omega)).trans (img5), (h.block (gm + 1) (by omega)).trans (par5)⟩
    have bV : Below W5.heap.size W5 W5.drew := (Below.refl _ _).drew
    generalize W5.drew = V0 at *
    change wpAnyL _ _ _ _ _ 7 #[false, false, false, false, false, false, false] _ _
    refine wpAnyL_take (i := 0) (v := .slice (some ⟨gt, 0, none⟩) NT ct) (by simp only [List.getElem?_toArray, List.getElem?_cons_succ, List.getElem?_cons_zero]; rfl) (by as_aux_lemma => kernel_rfl) (by as_aux_lemma => kernel_rfl) (by as_aux_lemma => kernel_rfl) (fun _ _ _ h => h) (Or.inl ⟨by rfl, ?_⟩) hS ?_
    · intro U hU
      obtain ⟨s0, s1, s2⟩ := hU
      kernel_rfl
    simp only [Act.put, List.setIfInBounds_toArray, List.set_cons_zero, List.set_cons_succ]
    refine wpAnyL_take (i := 1) (v := .pointer (some ⟨gt, 0, none⟩)) (by simp only [List.getElem?_toArray, List.getElem?_cons_succ, List.getElem?_cons_zero]; rfl) (by as_aux_lemma => kernel_rfl) (by as_aux_lemma => kernel_rfl) (by as_aux_lemma => kernel_rfl) (fun _ _ _ h => h) (Or.inl ⟨by rfl, ?_⟩) hS ?_
    · intro U hU
      obtain ⟨s0, s1, s2⟩ := hU
      go_simp
    simp only [Act.put, List.setIfInBounds_toArray, List.set_cons_zero, List.set_cons_succ]
    refine wpAnyL_take (i := 2) (v := .agg #[.int .i64 (On : Int), .int .i64 (Pn : Int), .int .i64 (X1 : Int), .int .i64 (Y1 : Int)]) (by simp only [List.getElem?_toArray, List.getElem?_cons_succ, List.getElem?_cons_zero]; rfl) (by as_aux_lemma => kernel_rfl) (by as_aux_lemma => kernel_rfl) (by as_aux_lemma => kernel_rfl) (fun _ _ _ h => h) (Or.inl ⟨by rfl, ?_⟩) hS ?_
    · intro U hU
      obtain ⟨s0, s1, s2⟩ := hU
      exact exec_loadK rfl rfl (by kernel_rfl) (by kernel_rfl) s0.load
    simp only [Act.put, List.setIfInBounds_toArray, List.set_cons_zero, List.set_cons_succ]
    refine wpAnyL_take (i := 3) (v := .agg #[.int .i64 (Xn : Int), .int .i64 (Yn : Int), .int .i64 (On : Int), .int .i64 (Pn : Int), .slice (some ⟨g, 0, none⟩) n c]) (by simp only [List.getElem?_toArray, List.getElem?_cons_succ, List.getElem?_cons_zero]; rfl) (by as_aux_lemma => kernel_rfl) (by as_aux_lemma => kernel_rfl) (by as_aux_lemma => kernel_rfl) (fun _ _ _ h => h) (Or.inl ⟨by rfl, ?_⟩) hS ?_
    · intro U hU
      obtain ⟨s0, s1, s2⟩ := hU
      exact exec_loadRow (cs := [.int .i64 (Xn : Int), .int .i64 (Yn : Int), .int .i64 (On : Int), .int .i64 (Pn : Int), .slice (some ⟨g, 0, none⟩) n c]) rfl rfl s1 (by kernel_rfl) (by kernel_rfl)
    simp only [Act.put, List.setIfInBounds_toArray, List.set_cons_zero, List.set_cons_succ]
    refine wpAnyL_take (i := 4) (v := .agg #[.int .i64 (tx : Int), .int .i64 (ty : Int), .int .i64 (lv : Int), .int .i64 (cw : Int), .int .i64 (ch : Int), .int .i64 (pr : Int), .int .i64 (st : Int), .int .i64 (o5 : Int), .int .i64 (ly : Int), .bool rct, .bool fsop, .bool feph]) (by simp only [List.getElem?_toArray, List.getElem?_cons_succ, List.getElem?_cons_zero]; rfl) (by as_aux_lemma => kernel_rfl) (by as_aux_lemma => kernel_rfl) (by as_aux_lemma => kernel_rfl) (fun _ _ _ h => h) (Or.inl ⟨by rfl, ?_⟩) hS ?_
    · intro U hU
      obtain ⟨s0, s1, s2⟩ := hU
      exact exec_loadRow (cs := [.int .i64 (tx : Int), .int .i64 (ty : Int), .int .i64 (lv : Int), .int .i64 (cw : Int), .int .i64 (ch : Int), .int .i64 (pr : Int), .int .i64 (st : Int), .int .i64 (o5 : Int), .int .i64 (ly : Int), .bool rct, .bool fsop, .bool feph]) rfl rfl s2 (by kernel_rfl) (by kernel_rfl)
    simp only [Act.put, List.setIfInBounds_toArray, List.set_cons_zero, List.set_cons_succ]
    refine wpAnyL_ready (rs := [5]) (by as_aux_lemma => kernel_rfl) (by simp) ?_
    refine AllReadyL.cons (by simp only [List.getElem?_toArray, List.getElem?_cons_succ, List.getElem?_cons_zero]; rfl) (fun K' hK' => ?_) AllReadyL.nil
    go_simp
    go_at_call 13
    refine (HLs.out _ ((HC5.out.below ((bV).mono (by omega))).more (by have h7 := (bV).size; omega))).mono ?_
    rintro e' U3 ⟨K, AK, cK, rfl, hp, hs, own, hb3⟩
    have own2 := own.mono (base' := W5.heap.size) (by have h7 := (bV).size; omega)
    have b3 := below_trans bV hb3
    have hS := hSB _ b3
    dsimp only
    refine hK'.out _ _ hS (fun _ => ?_)
    clear hb3 own
    clear hK' K'
    try simp only [Act.put, List.setIfInBounds_toArray, List.set_cons_zero, List.set_cons_succ]
    refine wpAnyL_take (i := 6) (v := .slice AK K.length cK) (by simp only [List.getElem?_toArray, List.getElem?_cons_succ, List.getElem?_cons_zero]; rfl) (by as_aux_lemma => kernel_rfl) (by as_aux_lemma => kernel_rfl) (by as_aux_lemma => kernel_rfl) (fun _ _ _ h => h) (Or.inl ⟨by rfl, ?_⟩) hS ?_
    · intro U hU
      obtain ⟨s0, s1, s2⟩ := hU
      kernel_rfl
    simp only [Act.put, List.setIfInBounds_toArray, List.set_cons_zero, List.set_cons_succ]
    refine wpAnyL_done (by as_aux_lemma => kernel_rfl) ?_ _
    simp only [OnlyN]
    refine ⟨K, AK, cK, ?_, hp, hs, own2, b3⟩
    (try simp only [Act.put, List.setIfInBounds_toArray, List.set_cons_zero, List.set_cons_succ])
  rintro a' W6 ⟨K, AK, cK, rfl, hp, hs, own, h6⟩
  simp only [Act.put, List.setIfInBounds_toArray, List.set_cons_zero, List.set_cons_succ]
  obtain ⟨NK, hNK⟩ : ∃ z, K.length = z := ⟨_, rfl⟩
  rw [hNK] at own ⊢
  have hNKb : NK ≤ 405600 := by
    have h7 := Q.l1_len HOk.out ly
    have h8 := hp.length_eq
    omega
  have HPS := Lib.hid (And.intro hNK (And.intro hp hs))
  have HOW := Lib.hid own
  have HR6 := Lib.hid ((h6.block (gm + 1) (by omega)).trans par5)
  have hqod : Q.od = o5 := HQE.out.2.2.2.2.2.2.1
  have HOD := Lib.hid hqod
  have z6 : gm + 2 ≤ W6.heap.size := by have := h6.size; omega
  have b6 := b5.trans (h6.mono (by omega))
  clear h6 own hp hs hNK par5 img5 b5 HC5 HLs HOk HQE HD HFR HGood HP tk hgt2 hqod
  go_wp2_with fail
  go_loopg [9] NK (fun kx s9 wr => ∃ (i : Nat), s9 = .int .i64 (i : Int) ∧ 1 ≤ i ∧ (i ≤ NK ∨ i = 1) ∧ NK - i ≤ kx ∧ Hid (Below W6.heap.size W6 wr))
  case atStart => exact ⟨1, rfl, by omega, Or.inr rfl, by omega, Lib.hid (Below.refl _ _)⟩
  case round =>
    obtain ⟨i, rfl, hi1, hi, hkx, HB⟩ := hrel
    by_cases hlt : i < NK
    · have hltz : (i : Int) < (NK : Int) := by omega
      obtain ⟨j, hj⟩ : ∃ j, j + 1 = i := ⟨i - 1, by omega⟩
      have hlj : j < NK := by omega
      have hljz : (j : Int) < (NK : Int) := by omega
      have WJ := Lib.hid (show IntKind.i64.wrap ((i : Int) - 1) = (j : Int) by rw [IntKind.wrap_i64]; omega)
      obtain ⟨gk, hgk, hgk1, hgk2⟩ := HOW.out.row (by omega)
      subst hgk
      obtain ⟨sa, hsa⟩ : ∃ s, K[j]?.getD default = s := ⟨_, rfl⟩
      obtain ⟨sb, hsb⟩ : ∃ s, K[i]?.getD default = s := ⟨_, rfl⟩
      have ka := (key4_of HOW.out hlj).below HB.out hgk2
      have kb := (key4_of HOW.out hlt).below HB.out hgk2
      rw [hsa] at ka
      rw [hsb] at kb
      have ha' : K[j]? = some sa := by rw [List.getElem?_eq_getElem (by rw [HPS.out.1]; exact hlj)] at hsa ⊢; exact congrArg some hsa
      have hb' : K[j + 1]? = some sb := by rw [hj, List.getElem?_eq_getElem (by rw [HPS.out.1]; exact hlt)]; rw [List.getElem?_eq_getElem (by rw [HPS.out.1]; exact hlt)] at hsb; exact congrArg some hsb
      have hnx := OrdQ.next HPS.out.2.1 HPS.out.2.2 ha' hb'
      have HMM := Lib.hid (show (sa ∈ Q.l1 ly ∧ sb ∈ Q.l1 ly) from ⟨HPS.out.2.1.mem_iff.1 (List.mem_of_getElem? ha'), HPS.out.2.1.mem_iff.1 (List.mem_of_getElem? hb')⟩)
      have HNX := Lib.hid hnx
      have HLY := Lib.hid (show 0 ≤ sa.ly ∧ sa.ly < 9 by
        obtain ⟨l, r, c, k, hl, _, _, _, e⟩ := OrdQ.mem.1 HMM.out.1
        rw [e, (Q.pk_key l r c k).1]; omega)
      clear hnx ha' hb' hsa hsb hj
      have zw := HB.out.size
      have WI := wrap_add1 (a := i) (c := i + 1) rfl (by omega)
      go_wp2_with fail
      refine last_cut (by kernel_rfl) (fun U => Key4 U gk (j * 4) (.int .i64 sa.ly) (.int .i64 sa.rs) (.int .i64 sa.cm) (.int .i64 sa.pc) ∧ Key4 U gk (i * 4) (.int .i64 sb.ly) (.int .i64 sb.rs) (.int .i64 sb.cm) (.int .i64 sb.pc)) (fun aF a' W' => ∃ g10 g11, a' = (((((((((((aF.put (some 37) (.slice (some ⟨gk, 0, none⟩) NK cK)).put (some 38) (.int .i64 (i : Int))).put (some 39) (.int .i64 (j : Int))).put (some 40) (.pointer (some ⟨gk, j * 4, none⟩))).put (some 41) (.agg #[.int .i64 sa.ly, .int .i64 sa.rs, .int .i64 sa.cm, .int .i64 sa.pc])).put (some 42) (.slice (some ⟨gk, 0, none⟩) NK cK)).put (some 43) (.int .i64 (i : Int))).put (some 44) (.pointer (some ⟨gk, i * 4, none⟩))).put (some 45) (.agg #[.int .i64 sb.ly, .int .i64 sb.rs, .int .i64 sb.cm, .int .i64 sb.pc])).put (some 10) (.pointer (some ⟨g10, 0, none⟩))).put (some 11) (.pointer (some ⟨g11, 0, none⟩))) ∧ W'.heap[g10]? = some (.cells #[.int .i64 sa.ly, .int .i64 sa.rs, .int .i64 sa.cm, .int .i64 sa.pc] 42 (0, 0)) ∧ W'.heap[g11]? = some (.cells #[.int .i64 sb.ly, .int .i64 sb.rs, .int .i64 sb.cm, .int .i64 sb.pc] 42 (0, 0)) ∧ Below wr.heap.size wr W') ⟨ka, kb⟩ (fun hS => ?_) ?_
      · skip
        have hSB : ∀ U : World, Below (wr.heap.size) wr U → Key4 U gk (j * 4) (.int .i64 sa.ly) (.int .i64 sa.rs) (.int .i64 sa.cm) (.int .i64 sa.pc) ∧ Key4 U gk (i * 4) (.int .i64 sb.ly) (.int .i64 sb.rs) (.int .i64 sb.cm) (.int .i64 sb.pc) := fun U h => ⟨(ka).below (h) (by omega), (kb).below (h) (by omega)⟩
        have bV : Below wr.heap.size wr wr.drew := (Below.refl _ _).drew
        generalize wr.drew = V0 at *
        change wpAnyL _ _ _ _ _ 13 #[false, false, false, false, false, false, false, false, false, false, false, false, false] _ _
        refine wpAnyL_take (i := 0) (v := .slice (some ⟨gk, 0, none⟩) NK cK) (by simp only [List.getElem?_toArray, List.getElem?_cons_succ, List.getElem?_cons_zero]; rfl) (by as_aux_lemma => kernel_rfl) (by as_aux_lemma => kernel_rfl) (by as_aux_lemma => kernel_rfl) (fun _ _ _ h => h) (Or.inl ⟨by rfl, ?_⟩) hS ?_
        · intro U hU
          obtain ⟨s0, s1⟩ := hU
          kernel_rfl
        simp only [Act.put, List.setIfInBounds_toArray, List.set_cons_zero, List.set_cons_succ]
        refine wpAnyL_take (i := 1) (v := .int .i64 (i : Int)) (by simp only [List.getElem?_toArray, List.getElem?_cons_succ, List.getElem?_cons_zero]; rfl) (by as_aux_lemma => kernel_rfl) (by as_aux_lemma => kernel_rfl) (by as_aux_lemma => kernel_rfl) (fun _ _ _ h => h) (Or.inl ⟨by rfl, ?_⟩) hS ?_
        · intro U hU
          obtain ⟨s0, s1⟩ := hU
          kernel_rfl
        simp only [Act.put, List.setIfInBounds_toArray, List.set_cons_zero, List.set_cons_succ]
        refine wpAnyL_take (i := 2) (v := .int .i64 (j : Int)) (by simp only [List.getElem?_toArray, List.getElem?_cons_succ, List.getElem?_cons_zero]; rfl) (by as_aux_lemma => kernel_rfl) (by as_aux_lemma => kernel_rfl) (by as_aux_lemma => kernel_rfl) (fun _ _ _ h => h) (Or.inl ⟨by rfl, ?_⟩) hS ?_
        · intro U hU
          obtain ⟨s0, s1⟩ := hU
          have z1 := WJ.out
          go_simp
        simp only [Act.put, List.setIfInBounds_toArray, List.set_cons_zero, List.set_cons_succ]
        refine wpAnyL_take (i := 3) (v := .pointer (some ⟨gk, j * 4, none⟩)) (by simp only [List.getElem?_toArray, List.getElem?_cons_succ, List.getElem?_cons_zero]; rfl) (by as_aux_lemma => kernel_rfl) (by as_aux_lemma => kernel_rfl) (by as_aux_lemma => kernel_rfl) (fun _ _ _ h => h) (Or.inl ⟨by rfl, ?_⟩) hS ?_
        · intro U hU
          obtain ⟨s0, s1⟩ := hU
          go_simp
        simp only [Act.put, List.setIfInBounds_toArray, List.set_cons_zero, List.set_cons_succ]
        refine wpAnyL_take (i := 4) (v := .agg #[.int .i64 sa.ly, .int .i64 sa.rs, .int .i64 sa.cm, .int .i64 sa.pc]) (by simp only [List.getElem?_toArray, List.getElem?_cons_succ, List.getElem?_cons_zero]; rfl) (by as_aux_lemma => kernel_rfl) (by as_aux_lemma => kernel_rfl) (by as_aux_lemma => kernel_rfl) (fun _ _ _ h => h) (Or.inl ⟨by rfl, ?_⟩) hS ?_
        · intro U hU
          obtain ⟨s0, s1⟩ := hU
          exact exec_loadK rfl rfl (by kernel_rfl) (by kernel_rfl) s0.load
        simp only [Act.put, List.setIfInBounds_toArray, List.set_cons_zero, List.set_cons_succ]
        refine wpAnyL_take (i := 5) (v := .slice (some ⟨gk, 0, none⟩) NK cK) (by simp only [List.getElem?_toArray, List.getElem?_cons_succ, List.getElem?_cons_zero]; rfl) (by as_aux_lemma => kernel_rfl) (by as_aux_lemma => kernel_rfl) (by as_aux_lemma => kernel_rfl) (fun _ _ _ h => h) (Or.inl ⟨by rfl, ?_⟩) hS ?_
        · intro U hU
          obtain ⟨s0, s1⟩ := hU
          kernel_rfl
        simp only [Act.put, List.setIfInBounds_toArray, List.set_cons_zero, List.set_cons_succ]
        refine wpAnyL_take (i := 6) (v := .int .i64 (i : Int)) (by simp only [List.getElem?_toArray, List.getElem?_cons_succ, List.getElem?_cons_zero]; rfl) (by as_aux_lemma => kernel_rfl) (by as_aux_lemma => kernel_rfl) (by as_aux_lemma => kernel_rfl) (fun _ _ _ h => h) (Or.inl ⟨by rfl, ?_⟩) hS ?_
        · intro U hU
          obtain ⟨s0, s1⟩ := hU
          kernel_rfl
        simp only [Act.put, List.setIfInBounds_toArray, List.set_cons_zero, List.set_cons_succ]
        refine wpAnyL_take (i := 7) (v := .pointer (some ⟨gk, i * 4, none⟩)) (by simp only [List.getElem?_toArray, List.getElem?_cons_succ, List.getElem?_cons_zero]; rfl) (by as_aux_lemma => kernel_rfl) (by as_aux_lemma => kernel_rfl) (by as_aux_lemma => kernel_rfl) (fun _ _ _ h => h) (Or.inl ⟨by rfl, ?_⟩) hS ?_
        · intro U hU
          obtain ⟨s0, s1⟩ := hU
          go_simp
        simp only [Act.put, List.setIfInBounds_toArray, List.set_cons_zero, List.set_cons_succ]
        refine wpAnyL_take (i := 8) (v := .agg #[.int .i64 sb.ly, .int .i64 sb.rs, .int .i64 sb.cm, .int .i64 sb.pc]) (by simp only [List.getElem?_toArray, List.getElem?_cons_succ, List.getElem?_cons_zero]; rfl) (by as_aux_lemma => kernel_rfl) (by as_aux_lemma => kernel_rfl) (by as_aux_lemma => kernel_rfl) (fun _ _ _ h => h) (Or.inl ⟨by rfl, ?_⟩) hS ?_
        · intro U hU
          obtain ⟨s0, s1⟩ := hU
          exact exec_loadK rfl rfl (by kernel_rfl) (by kernel_rfl) s1.load
        simp only [Act.put, List.setIfInBounds_toArray, List.set_cons_zero, List.set_cons_succ]
        refine wpAnyL_ready (rs := [9, 10]) (by as_aux_lemma => kernel_rfl) (by simp) ?_
        refine AllReadyL.cons (by simp only [List.getElem?_toArray, List.getElem?_cons_succ, List.getElem?_cons_zero]; rfl) (fun K' hK' => ?_) (AllReadyL.cons (by simp only [List.getElem?_toArray, List.getElem?_cons_succ, List.getElem?_cons_zero]; rfl) (fun K' hK' => ?_) AllReadyL.nil)
        · go_simp
          obtain ⟨g10, hg10⟩ : ∃ g, V0.heap.size = g := ⟨_, rfl⟩
          have x10 := heap_alloc_new V0 (.cells #[.int .i64 0, .int .i64 0, .int .i64 0, .int .i64 0] 42)
          have l10 : V0.heap.size < (V0.alloc (.cells #[.int .i64 0, .int .i64 0, .int .i64 0, .int .i64 0] 42)).heap.size := by simp
          have y10 : wr.heap.size ≤ V0.heap.size := bV.size
          have bn10 := below_alloc bV (.cells #[.int .i64 0, .int .i64 0, .int .i64 0, .int .i64 0] 42)
          generalize V0.alloc (.cells #[.int .i64 0, .int .i64 0, .int .i64 0, .int .i64 0] 42) = UA0 at *
          rw [hg10] at x10 l10 y10 ⊢
          clear hg10 bV
          have hS := hSB _ bn10
          refine hK'.out _ _ hS (fun _ => ?_)
          clear hK' K'
          try simp only [Act.put, List.setIfInBounds_toArray, List.set_cons_zero, List.set_cons_succ]
          refine wpAnyL_ready (rs := [10]) (by as_aux_lemma => kernel_rfl) (by simp) ?_
          refine AllReadyL.cons (by simp only [List.getElem?_toArray, List.getElem?_cons_succ, List.getElem?_cons_zero]; rfl) (fun K' hK' => ?_) AllReadyL.nil
          go_simp
          obtain ⟨g11, hg11⟩ : ∃ g, UA0.heap.size = g := ⟨_, rfl⟩
          have x11 := heap_alloc_new UA0 (.cells #[.int .i64 0, .int .i64 0, .int .i64 0, .int .i64 0] 42)
          have l11 : UA0.heap.size < (UA0.alloc (.cells #[.int .i64 0, .int .i64 0, .int .i64 0, .int .i64 0] 42)).heap.size := by simp
          have y11 : wr.heap.size ≤ UA0.heap.size := bn10.size
          replace x10 := ((Below.refl UA0.heap.size UA0).alloc (Nat.le_refl _) (.cells #[.int .i64 0, .int .i64 0, .int .i64 0, .int .i64 0] 42) |>.block g10 l10).trans x10
          have ne : g10 < UA0.heap.size := l10
          replace l10 := Nat.lt_trans l10 l11
          have bn11 := below_alloc bn10 (.cells #[.int .i64 0, .int .i64 0, .int .i64 0, .int .i64 0] 42)
          generalize UA0.alloc (.cells #[.int .i64 0, .int .i64 0, .int .i64 0, .int .i64 0] 42) = UA1 at *
          rw [hg11] at ne
          rw [hg11] at x11 l11 y11 ⊢
          clear hg11 bn10
          have hS := hSB _ bn11
          refine hK'.out _ _ hS (fun _ => ?_)
          clear hK' K'
          try simp only [Act.put, List.setIfInBounds_toArray, List.set_cons_zero, List.set_cons_succ]
          refine wpAnyL_ready (rs := [11]) (by as_aux_lemma => kernel_rfl) (by simp) ?_
          refine AllReadyL.cons (by simp only [List.getElem?_toArray, List.getElem?_cons_succ, List.getElem?_cons_zero]; rfl) (fun K' hK' => ?_) AllReadyL.nil
          have d0 : UA1.cell? ⟨g10, 0, none⟩ = some (.int .i64 0) := cell_of_row _ _ 0 _ _ (0, 0) x10
          have d1 : UA1.cell? ⟨g10, 1, none⟩ = some (.int .i64 0) := cell_of_row _ _ 1 _ _ (0, 0) x10
          have d2 : UA1.cell? ⟨g10, 2, none⟩ = some (.int .i64 0) := cell_of_row _ _ 2 _ _ (0, 0) x10
          have d3 : UA1.cell? ⟨g10, 3, none⟩ = some (.int .i64 0) := cell_of_row _ _ 3 _ _ (0, 0) x10
          have dz : ∀ i, UA1.frozen? ⟨g10, i, none⟩ = false := fun i => frozen_of_row _ _ i _ _ x10
          go_simp
          obtain ⟨US10, hV, z10, zo, bs10⟩ : ∃ V, ((((UA1.setCell ⟨g10, 0, none⟩ (.int .i64 sa.ly)).setCell ⟨g10, 1, none⟩ (.int .i64 sa.rs)).setCell ⟨g10, 2, none⟩ (.int .i64 sa.cm)).setCell ⟨g10, 3, none⟩ (.int .i64 sa.pc)) = V ∧ V.heap[g10]? = some (.cells #[.int .i64 sa.ly, .int .i64 sa.rs, .int .i64 sa.cm, .int .i64 sa.pc] 42 (0, 0)) ∧ V.heap[g11]? = UA1.heap[g11]? ∧ Below wr.heap.size wr V := ⟨_, rfl, setRow_at (old := [.int .i64 0, .int .i64 0, .int .i64 0, .int .i64 0]) [.int .i64 sa.ly, .int .i64 sa.rs, .int .i64 sa.cm, .int .i64 sa.pc] rfl x10, setRow_far g10 g11 (by omega) [.int .i64 sa.ly, .int .i64 sa.rs, .int .i64 sa.cm, .int .i64 sa.pc] 0 _, setRow_below y10 [.int .i64 sa.ly, .int .i64 sa.rs, .int .i64 sa.cm, .int .i64 sa.pc] 0 _ bn11⟩
          rw [hV]
          clear hV d0 d1 d2 d3 dz
          replace x11 := zo.trans x11
          clear zo
          have hS := hSB _ bs10
          refine hK'.out _ _ hS (fun _ => ?_)
          clear hK' K'
          try simp only [Act.put, List.setIfInBounds_toArray, List.set_cons_zero, List.set_cons_succ]
          refine wpAnyL_ready (rs := [12]) (by as_aux_lemma => kernel_rfl) (by simp) ?_
          refine AllReadyL.last (by simp only [List.getElem?_toArray, List.getElem?_cons_succ, List.getElem?_cons_zero]; rfl) (by as_aux_lemma => kernel_rfl) (fun K' hK' => ?_)
          have d0 : US10.cell? ⟨g11, 0, none⟩ = some (.int .i64 0) := cell_of_row _ _ 0 _ _ (0, 0) x11
          have d1 : US10.cell? ⟨g11, 1, none⟩ = some (.int .i64 0) := cell_of_row _ _ 1 _ _ (0, 0) x11
          have d2 : US10.cell? ⟨g11, 2, none⟩ = some (.int .i64 0) := cell_of_row _ _ 2 _ _ (0, 0) x11
          have d3 : US10.cell? ⟨g11, 3, none⟩ = some (.int .i64 0) := cell_of_row _ _ 3 _ _ (0, 0) x11
          have dz : ∀ i, US10.frozen? ⟨g11, i, none⟩ = false := fun i => frozen_of_row _ _ i _ _ x11
          go_simp
          obtain ⟨US11, hV, z11, zo, bs11⟩ : ∃ V, ((((US10.setCell ⟨g11, 0, none⟩ (.int .i64 sb.ly)).setCell ⟨g11, 1, none⟩ (.int .i64 sb.rs)).setCell ⟨g11, 2, none⟩ (.int .i64 sb.cm)).setCell ⟨g11, 3, none⟩ (.int .i64 sb.pc)) = V ∧ V.heap[g11]? = some (.cells #[.int .i64 sb.ly, .int .i64 sb.rs, .int .i64 sb.cm, .int .i64 sb.pc] 42 (0, 0)) ∧ V.heap[g10]? = US10.heap[g10]? ∧ Below wr.heap.size wr V := ⟨_, rfl, setRow_at (old := [.int .i64 0, .int .i64 0, .int .i64 0, .int .i64 0]) [.int .i64 sb.ly, .int .i64 sb.rs, .int .i64 sb.cm, .int .i64 sb.pc] rfl x11, setRow_far g11 g10 (by omega) [.int .i64 sb.ly, .int .i64 sb.rs, .int .i64 sb.cm, .int .i64 sb.pc] 0 _, setRow_below y11 [.int .i64 sb.ly, .int .i64 sb.rs, .int .i64 sb.cm, .int .i64 sb.pc] 0 _ bs10⟩
          rw [hV]
          clear hV d0 d1 d2 d3 dz
          replace z10 := zo.trans z10
          clear zo
          refine hK'.out _ _ (?_)
          clear hK' K'
          try simp only [Act.put, List.setIfInBounds_toArray, List.set_cons_zero, List.set_cons_succ]
          refine wpAnyL_done (by as_aux_lemma => kernel_rfl) ?_ _
          simp only [OnlyN]
          refine ⟨g10, g11, ?_, z10, z11, bs11⟩
          (try simp only [Act.put, List.setIfInBounds_toArray, List.set_cons_zero, List.set_cons_succ])
        · go_simp
          obtain ⟨g11, hg11⟩ : ∃ g, V0.heap.size = g := ⟨_, rfl⟩
          have x11 := heap_alloc_new V0 (.cells #[.int .i64 0, .int .i64 0, .int .i64 0, .int .i64 0] 42)
          have l11 : V0.heap.size < (V0.alloc (.cells #[.int .i64 0, .int .i64 0, .int .i64 0, .int .i64 0] 42)).heap.size := by simp
          have y11 : wr.heap.size ≤ V0.heap.size := bV.size
          have bn11 := below_alloc bV (.cells #[.int .i64 0, .int .i64 0, .int .i64 0, .int .i64 0] 42)
          generalize V0.alloc (.cells #[.int .i64 0, .int .i64 0, .int .i64 0, .int .i64 0] 42) = UA4 at *
          rw [hg11] at x11 l11 y11 ⊢
          clear hg11 bV
          have hS := hSB _ bn11
          refine hK'.out _ _ hS (fun _ => ?_)
          clear hK' K'
          try simp only [Act.put, List.setIfInBounds_toArray, List.set_cons_zero, List.set_cons_succ]
          refine wpAnyL_ready (rs := [9]) (by as_aux_lemma => kernel_rfl) (by simp) ?_
          refine AllReadyL.cons (by simp only [List.getElem?_toArray, List.getElem?_cons_succ, List.getElem?_cons_zero]; rfl) (fun K' hK' => ?_) AllReadyL.nil
          go_simp
          obtain ⟨g10, hg10⟩ : ∃ g, UA4.heap.size = g := ⟨_, rfl⟩
          have x10 := heap_alloc_new UA4 (.cells #[.int .i64 0, .int .i64 0, .int .i64 0, .int .i64 0] 42)
          have l10 : UA4.heap.size < (UA4.alloc (.cells #[.int .i64 0, .int .i64 0, .int .i64 0, .int .i64 0] 42)).heap.size := by simp
          have y10 : wr.heap.size ≤ UA4.heap.size := bn11.size
          replace x11 := ((Below.refl UA4.heap.size UA4).alloc (Nat.le_refl _) (.cells #[.int .i64 0, .int .i64 0, .int .i64 0, .int .i64 0] 42) |>.block g11 l11).trans x11
          have ne : g11 < UA4.heap.size := l11
          replace l11 := Nat.lt_trans l11 l10
          have bn10 := below_alloc bn11 (.cells #[.int .i64 0, .int .i64 0, .int .i64 0, .int .i64 0] 42)
          generalize UA4.alloc (.cells #[.int .i64 0, .int .i64 0, .int .i64 0, .int .i64 0] 42) = UA5 at *
          rw [hg10] at ne
          rw [hg10] at x10 l10 y10 ⊢
          clear hg10 bn11
          have hS := hSB _ bn10
          refine hK'.out _ _ hS (fun _ => ?_)
          clear hK' K'
          try simp only [Act.put, List.setIfInBounds_toArray, List.set_cons_zero, List.set_cons_succ]
          refine wpAnyL_ready (rs := [11]) (by as_aux_lemma => kernel_rfl) (by simp) ?_
          refine AllReadyL.cons (by simp only [List.getElem?_toArray, List.getElem?_cons_succ, List.getElem?_cons_zero]; rfl) (fun K' hK' => ?_) AllReadyL.nil
          have d0 : UA5.cell? ⟨g10, 0, none⟩ = some (.int .i64 0) := cell_of_row _ _ 0 _ _ (0, 0) x10
          have d1 : UA5.cell? ⟨g10, 1, none⟩ = some (.int .i64 0) := cell_of_row _ _ 1 _ _ (0, 0) x10
          have d2 : UA5.cell? ⟨g10, 2, none⟩ = some (.int .i64 0) := cell_of_row _ _ 2 _ _ (0, 0) x10
          have d3 : UA5.cell? ⟨g10, 3, none⟩ = some (.int .i64 0) := cell_of_row _ _ 3 _ _ (0, 0) x10
          have dz : ∀ i, UA5.frozen? ⟨g10, i, none⟩ = false := fun i => frozen_of_row _ _ i _ _ x10
          go_simp
          obtain ⟨US10, hV, z10, zo, bs10⟩ : ∃ V, ((((UA5.setCell ⟨g10, 0, none⟩ (.int .i64 sa.ly)).setCell ⟨g10, 1, none⟩ (.int .i64 sa.rs)).setCell ⟨g10, 2, none⟩ (.int .i64 sa.cm)).setCell ⟨g10, 3, none⟩ (.int .i64 sa.pc)) = V ∧ V.heap[g10]? = some (.cells #[.int .i64 sa.ly, .int .i64 sa.rs, .int .i64 sa.cm, .int .i64 sa.pc] 42 (0, 0)) ∧ V.heap[g11]? = UA5.heap[g11]? ∧ Below wr.heap.size wr V := ⟨_, rfl, setRow_at (old := [.int .i64 0, .int .i64 0, .int .i64 0, .int .i64 0]) [.int .i64 sa.ly, .int .i64 sa.rs, .int .i64 sa.cm, .int .i64 sa.pc] rfl x10, setRow_far g10 g11 (by omega) [.int .i64 sa.ly, .int .i64 sa.rs, .int .i64 sa.cm, .int .i64 sa.pc] 0 _, setRow_below y10 [.int .i64 sa.ly, .int .i64 sa.rs, .int .i64 sa.cm, .int .i64 sa.pc] 0 _ bn10⟩
          rw [hV]
          clear hV d0 d1 d2 d3 dz
          replace x11 := zo.trans x11
          clear zo
          have hS := hSB _ bs10
          refine hK'.out _ _ hS (fun _ => ?_)
          clear hK' K'
          try simp only [Act.put, List.setIfInBounds_toArray, List.set_cons_zero, List.set_cons_succ]
          refine wpAnyL_ready (rs := [12]) (by as_aux_lemma => kernel_rfl) (by simp) ?_
          refine AllReadyL.last (by simp only [List.getElem?_toArray, List.getElem?_cons_succ, List.getElem?_cons_zero]; rfl) (by as_aux_lemma => kernel_rfl) (fun K' hK' => ?_)
          have d0 : US10.cell? ⟨g11, 0, none⟩ = some (.int .i64 0) := cell_of_row _ _ 0 _ _ (0, 0) x11
          have d1 : US10.cell? ⟨g11, 1, none⟩ = some (.int .i64 0) := cell_of_row _ _ 1 _ _ (0, 0) x11
          have d2 : US10.cell? ⟨g11, 2, none⟩ = some (.int .i64 0) := cell_of_row _ _ 2 _ _ (0, 0) x11
          have d3 : US10.cell? ⟨g11, 3, none⟩ = some (.int .i64 0) := cell_of_row _ _ 3 _ _ (0, 0) x11
          have dz : ∀ i, US10.frozen? ⟨g11, i, none⟩ = false := fun i => frozen_of_row _ _ i _ _ x11
          go_simp
          obtain ⟨US11, hV, z11, zo, bs11⟩ : ∃ V, ((((US10.setCell ⟨g11, 0, none⟩ (.int .i64 sb.ly)).setCell ⟨g11, 1, none⟩ (.int .i64 sb.rs)).setCell ⟨g11, 2, none⟩ (.int .i64 sb.cm)).setCell ⟨g11, 3, none⟩ (.int .i64 sb.pc)) = V ∧ V.heap[g11]? = some (.cells #[.int .i64 sb.ly, .int .i64 sb.rs, .int .i64 sb.cm, .int .i64 sb.pc] 42 (0, 0)) ∧ V.heap[g10]? = US10.heap[g10]? ∧ Below wr.heap.size wr V := ⟨_, rfl, setRow_at (old := [.int .i64 0, .int .i64 0, .int .i64 0, .int .i64 0]) [.int .i64 sb.ly, .int .i64 sb.rs, .int .i64 sb.cm, .int .i64 sb.pc] rfl x11, setRow_far g11 g10 (by omega) [.int .i64 sb.ly, .int .i64 sb.rs, .int .i64 sb.cm, .int .i64 sb.pc] 0 _, setRow_below y11 [.int .i64 sb.ly, .int .i64 sb.rs, .int .i64 sb.cm, .int .i64 sb.pc] 0 _ bs10⟩
          rw [hV]
          clear hV d0 d1 d2 d3 dz
          replace z10 := zo.trans z10
          clear zo
          refine hK'.out _ _ (?_)
          clear hK' K'
          try simp only [Act.put, List.setIfInBounds_toArray, List.set_cons_zero, List.set_cons_succ]
          refine wpAnyL_done (by as_aux_lemma => kernel_rfl) ?_ _
          simp only [OnlyN]
          refine ⟨g10, g11, ?_, z10, z11, bs11⟩
          (try simp only [Act.put, List.setIfInBounds_toArray, List.set_cons_zero, List.set_cons_succ])
      rintro a' Wa ⟨g10, g11, rfl, x10, x11, ha⟩
      simp only [Act.put, List.setIfInBounds_toArray, List.set_cons_zero, List.set_cons_succ]
      have HBa := Lib.hid (HB.out.trans (ha.mono zw))
      clear HB ha ka kb WJ
      have ca0 : Wa.cell? ⟨g10, 0, none⟩ = some (.int .i64 sa.ly) := cell_of_row _ _ 0 _ _ (0, 0) x10
      have ca1 : Wa.cell? ⟨g10, 1, none⟩ = some (.int .i64 sa.rs) := cell_of_row _ _ 1 _ _ (0, 0) x10
      have ca2 : Wa.cell? ⟨g10, 2, none⟩ = some (.int .i64 sa.cm) := cell_of_row _ _ 2 _ _ (0, 0) x10
      have ca3 : Wa.cell? ⟨g10, 3, none⟩ = some (.int .i64 sa.pc) := cell_of_row _ _ 3 _ _ (0, 0) x10
      have cb0 : Wa.cell? ⟨g11, 0, none⟩ = some (.int .i64 sb.ly) := cell_of_row _ _ 0 _ _ (0, 0) x11
      have cb1 : Wa.cell? ⟨g11, 1, none⟩ = some (.int .i64 sb.rs) := cell_of_row _ _ 1 _ _ (0, 0) x11
      have cb2 : Wa.cell? ⟨g11, 2, none⟩ = some (.int .i64 sb.cm) := cell_of_row _ _ 2 _ _ (0, 0) x11
      have cb3 : Wa.cell? ⟨g11, 3, none⟩ = some (.int .i64 sb.pc) := cell_of_row _ _ 3 _ _ (0, 0) x11
      have cp7 : Wa.cell? ⟨gm + 1, 7, none⟩ = some (.int .i64 (o5 : Int)) := cell_of_row _ _ 7 _ _ (0, 0) ((HBa.out.block (gm + 1) (by omega)).trans HR6.out)
      go_upto_block 2 with fail
      go_cut [] from 48 to 132 (fun wc' => wc' = Wa)
      case first =>
        have h5 : o5 = 0 ∨ o5 = 1 ∨ o5 = 2 ∨ o5 = 3 ∨ o5 = 4 := by omega
        rcases h5 with h5 | h5 | h5 | h5 | h5
        · have HF := Lib.hid (OrdQ.first0 (HOD.out.trans h5) HMM.out.1 HMM.out.2 HNX.out.1)
          subst h5
          have n1 := HF.out.1
          rcases hb1 : (sb.ly == sa.ly) with _ | _
          · go_wp2_with fail
            go_meet
            case rel => exact rfl
          · have n2 := (HF.out.2 (by simpa using hb1)).1
            rcases hb2 : (sb.rs == sa.rs) with _ | _
            · go_wp2_with fail
              go_meet
              case rel => exact rfl
            · have n3 := (HF.out.2 (by simpa using hb1)).2 (by simpa using hb2)
              go_wp2_with fail
              go_meet
              case rel => exact rfl
        · have HF := Lib.hid (OrdQ.first1 (HOD.out.trans h5) HMM.out.1 HMM.out.2 HNX.out.1)
          subst h5
          have n1 := HF.out.1
          rcases hb1 : (sb.rs == sa.rs) with _ | _
          · go_wp2_with fail
            go_meet
            case rel => exact rfl
          · have n2 := (HF.out.2 (by simpa using hb1)).1
            rcases hb2 : (sb.ly == sa.ly) with _ | _
            · go_wp2_with fail
              go_meet
              case rel => exact rfl
            · have n3 := (HF.out.2 (by simpa using hb1)).2 (by simpa using hb2)
              go_wp2_with fail
              go_meet
              case rel => exact rfl
        · have n1 := OrdQ.first2 (HOD.out.trans h5) HMM.out.1 HMM.out.2 HNX.out.1
          subst h5
          go_wp2_with fail
          go_meet
          case rel => exact rfl
        · subst h5
          go_wp2_with fail
          go_meet
          case rel => exact rfl
        · have n1 := OrdQ.first4 (HOD.out.trans h5) HMM.out.1 HMM.out.2 HNX.out.1
          subst h5
          go_wp2_with fail
          go_meet
          case rel => exact rfl
      case rest =>
        subst hcut
        clear cp7 x10 x11
        rcases hc1 : (sa.cm == sb.cm) with _ | _
        · go_wp2_with fail
          go_roundg (NK - (i + 1))
          case measure => omega
          case rel => exact ⟨i + 1, by go_num, by omega, by omega, Nat.le_refl _, HBa⟩
        · rcases hc2 : (sa.rs == sb.rs) with _ | _
          · go_wp2_with fail
            go_roundg (NK - (i + 1))
            case measure => omega
            case rel => exact ⟨i + 1, by go_num, by omega, by omega, Nat.le_refl _, HBa⟩
          · rcases hc3 : (sa.pc == sb.pc) with _ | _
            · go_wp2_with fail
              go_roundg (NK - (i + 1))
              case measure => omega
              case rel => exact ⟨i + 1, by go_num, by omega, by omega, Nat.le_refl _, HBa⟩
            · have e := HNX.out.2 (by simpa using hc1) (by simpa using hc2) (by simpa using hc3)
              have WL : IntKind.i64.wrap (sa.ly + 1) = sb.ly := by
                have h7 := HLY.out
                rw [IntKind.wrap_i64]; omega
              clear e
              go_wp2_with fail
              go_roundg (NK - (i + 1))
              case measure => omega
              case rel => exact ⟨i + 1, by go_num, by omega, by omega, Nat.le_refl _, HBa⟩
    · have hltz : ¬ (i : Int) < (NK : Int) := by omega
      have bz := b6.trans (HB.out.mono (by omega))
      go_wp2_with fail
      go_ret
      exact ⟨rfl, bz⟩
end Go.Proofs.Ytpgkdpoehkdhcaa
