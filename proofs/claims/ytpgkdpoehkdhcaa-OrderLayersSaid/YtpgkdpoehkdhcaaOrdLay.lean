/- THE WALK of waveletlaw16.OrderLayers. -/
import Derived.Test.YtpgkdpoehkdhcaaOrdM
import Derived.Test.YtpgkdpoehkdhcaaRTiles
import Derived.Deep.LoopGhost
import Derived.Deep.CutBlock
namespace Go.Proofs.Ytpgkdpoehkdhcaa
open Go.RowKit
attribute [local go_sem] opv opnd
set_option maxHeartbeats 40000000
set_option linter.unusedVariables false
set_option linter.unusedSimpArgs false
set_option maxRecDepth 1000000
theorem ordLay_walk (fX fY fOx fOy fC fD fS : Int) (fsg frct fsop feph : Bool) (fTx fTy fL fcw fch fP fSt fO fLy : Int) (NA : Option Addr) (nN cN : Nat) (Nf : Nat → Int) (o mo : Int) (w : World) (hN : IntsAt w w.heap.size NA nN Nf) (hNf : ∀ k, k < nN → -9223372036854775808 ≤ Nf k ∧ Nf k ≤ 9223372036854775807) (hNn : nN ≤ 9223372036854775807) (hSb : -9223372036854775808 ≤ fS ∧ fS ≤ 9223372036854775807) (ho : -9223372036854775808 ≤ o ∧ o ≤ 9223372036854775807) (hmo : -9223372036854775808 ≤ mo ∧ mo ≤ 9223372036854775807) :
    Calls Try.prog 9 #[.agg #[.int .i64 fX, .int .i64 fY, .int .i64 fOx, .int .i64 fOy, .int .i64 fC, .int .i64 fD, .int .i64 fS, .bool fsg, .bool frct, .bool fsop, .bool feph, .int .i64 fTx, .int .i64 fTy, .int .i64 fL, .int .i64 fcw, .int .i64 fch, .int .i64 fP, .int .i64 fSt, .int .i64 fO, .int .i64 fLy, .slice NA nN cN], .int .i64 o, .int .i64 mo] w fun e w' => e = .returned (.bool true) ∧ Below w.heap.size w w' := by
  have HMk := Lib.hid (fun (v : World) (h : IntsAt v v.heap.size NA nN Nf) => make_any fX fY fOx fOy fC fD fS fsg frct fsop feph fTx fTy fL fcw fch fP fSt fO fLy NA nN cN Nf 14 (by omega) (by omega) v h hNf hNn hSb)
  rw [show ((14 : Nat) : Int) = 14 from rfl] at HMk
  have HN := Lib.hid hN
  clear hN hNf hNn hSb
  go_enter Try.func9, Try.ntmps9
  go_wp2_with fail
  obtain ⟨q, hq⟩ : ∃ q, w.heap.size = q := ⟨_, rfl⟩
  generalize hw0 : World.alloc w _ = W0
  have f0 : W0.heap[q]? = some (.cells #[.int .i64 fX, .int .i64 fY, .int .i64 fOx, .int .i64 fOy, .int .i64 fC, .int .i64 fD, .int .i64 fS, .bool fsg, .bool frct, .bool fsop, .bool feph, .int .i64 fTx, .int .i64 fTy, .int .i64 fL, .int .i64 fcw, .int .i64 fch, .int .i64 fP, .int .i64 fSt, .int .i64 fO, .int .i64 fLy, .slice NA nN cN] 24 (0, 0)) := by rw [← hw0, ← hq]; exact heap_alloc_new w _
  have z0 : W0.heap.size = q + 1 := by rw [← hw0, ← hq]; simp
  have b0 : Below q w W0 := by rw [← hw0, ← hq]; exact below_alloc (Below.refl _ _) _
  clear hw0
  refine (known16_any _).mono ?_
  rintro e' W1 ⟨rfl, h1⟩
  have f1 := (h1.block q (by omega)).trans f0
  have b1 := b0.trans (h1.mono (by omega))
  have z1 : q + 1 ≤ W1.heap.size := by have := h1.size; omega
  clear h1 f0 b0 z0
  go_upto_region 3 with fail
  refine wp_region_lit ?_
  refine wpList_loadRow rfl rfl rfl f1 (by kernel_rfl) (by kernel_rfl) ?_
  go_wp2_with fail
  refine (HMk.out W1 ((HN.out.below (by rw [hq]; exact b1)).more (by have := b1.size; omega))).mono ?_
  rintro e' W2 ⟨Xn, Yn, On, Pn, tx, ty, lv, cw, ch, pr, st, od, ly, n, dn, rct, PL, A, c, F, G, rfl, hP, hI, h2⟩
  have b2 := b1.trans (h2.mono (by omega))
  have z2 : q + 1 ≤ W2.heap.size := by have := h2.size; omega
  have hI := hI.mono z1
  clear h2 b1 f1
  have HP := Lib.hid hP
  have HI := Lib.hid hI
  clear hP hI HMk HN
  unfold imgV parV
  go_upto_region 4 with fail
  obtain ⟨gm, hgm⟩ : ∃ g, W2.heap.size = g := ⟨_, rfl⟩
  generalize hV3 : World.alloc (World.alloc W2 _) _ = V3
  have img : V3.heap[gm]? = some (.cells #[.int .i64 Xn, .int .i64 Yn, .int .i64 On, .int .i64 Pn, .slice A n c] 28 (0, 0)) := by rw [← hV3, ← hgm]; exact (Below.heap_alloc _ _ _ (by simp)).trans (heap_alloc_new W2 _)
  have par : V3.heap[gm + 1]? = some (.cells #[.int .i64 tx, .int .i64 ty, .int .i64 lv, .int .i64 cw, .int .i64 ch, .int .i64 pr, .int .i64 st, .int .i64 od, .int .i64 ly, .bool rct, .bool fsop, .bool feph] 30 (0, 0)) := by rw [← hV3, ← hgm]; exact heap_alloc_new2 W2 _ _
  have h3 : Below gm W2 V3 := by rw [← hV3, ← hgm]; exact below_alloc (below_alloc (Below.refl _ _) _) _
  have z3 : V3.heap.size = gm + 2 := by rw [← hV3, ← hgm]; simp
  rw [hgm] at z2 ⊢
  clear hV3
  have HI3 := Lib.hid (HI.out.below (by rw [hgm]; exact h3))
  have b3 := b2.trans (h3.mono (by omega))
  clear HI b2 h3
  have hnum : 1 ≤ n ∧ n ≤ 4 := ⟨HP.out.num.1, HP.out.num.2.1⟩
  obtain ⟨g, rfl, hgq, hgl⟩ := HI3.out.comps.row (by omega)
  obtain ⟨o5, ho5, ho5e, HK0⟩ := within16v o 5 5 rfl (by omega) (by omega)
  have HK := Lib.hid HK0
  clear HK0 ho5e
  have p7 : V3.cell? ⟨gm + 1, 7, none⟩ = some (.int .i64 (od : Int)) := cell_of_row _ _ 7 _ _ (0, 0) par
  have f7 : V3.frozen? ⟨gm + 1, 7, none⟩ = false := frozen_of_row _ _ 7 _ _ par
  go_wp2_with fail
  refine (HK.out _).mono ?_
  rintro e' wa ⟨rfl, hwa⟩
  subst hwa
  go_upto_region 5 with fail
  clear p7 f7 HK
  have par4 : (V3.setCell ⟨gm + 1, 7, none⟩ (.int .i64 (o5 : Int))).heap[gm + 1]? = some (.cells #[.int .i64 (tx : Int), .int .i64 (ty : Int), .int .i64 (lv : Int), .int .i64 (cw : Int), .int .i64 (ch : Int), .int .i64 (pr : Int), .int .i64 (st : Int), .int .i64 (o5 : Int), .int .i64 (ly : Int), .bool rct, .bool fsop, .bool feph] 30 (0, 0)) := heap_setCell_same _ _ 7 _ _ _ par
  have hb4 : Below gm V3 (V3.setCell ⟨gm + 1, 7, none⟩ (.int .i64 (o5 : Int))) := (Below.refl _ _).setCell (p := ⟨gm + 1, 7, none⟩) (by simp only; omega) _
  have img4 : (V3.setCell ⟨gm + 1, 7, none⟩ (.int .i64 (o5 : Int))).heap[gm]? = some (.cells #[.int .i64 (Xn : Int), .int .i64 (Yn : Int), .int .i64 (On : Int), .int .i64 (Pn : Int), .slice (some ⟨g, 0, none⟩) n c] 28 (0, 0)) := (Below.heap_setCell _ _ _ _ (by simp only; omega)).trans img
  have hP2 := HP.out.with_ (pr' := pr) (od' := o5) (by have := HP.out.bds; omega) (by omega)
  have hfr := made_frame hP2 (by omega) HI3.out.good
  have hgg : g < gm := by
    have e1 : g ≠ gm := fun e => HI3.out.comps.ne_block img (by decide) (by rw [e]; rfl)
    have e2 : g ≠ gm + 1 := fun e => HI3.out.comps.ne_block par (by decide) (by rw [e]; rfl)
    omega
  have hca : CompsAt V3 gm (some ⟨g, 0, none⟩) n F := fun h0 => by
    obtain ⟨b, off, e, _, hk⟩ := HI3.out.compsAt.1 h0
    cases e
    exact ⟨g, 0, rfl, hgg, hk⟩
  have hnc := HI3.out.compsAt.2
  have HGood := Lib.hid HI3.out.good
  have hz4 : (V3.setCell ⟨gm + 1, 7, none⟩ (.int .i64 (o5 : Int))).heap.size = gm + 2 := by simp [z3]
  have b4 := b3.trans (hb4.mono (by omega))
  have HCA := Lib.hid (hca.below hb4)
  generalize V3.setCell ⟨gm + 1, 7, none⟩ (.int .i64 (o5 : Int)) = V4 at *
  clear hb4 hca par img HI3 hI z3 b3 hgl
  have hon := HP.out.on
  have hxs := HP.out.xs
  have hts := HP.out.ts
  have hlv : lv ≤ 5 := HP.out.bds.1
  have hpr : pr ≤ 15 := by have := HP.out.bds; omega
  have hwy := Lib.hid (made_ways hP2)
  have hly : 1 ≤ ly ∧ ly ≤ 4 := by have := HP.out.bds; omega
  have HFR := Lib.hid hfr
  clear hfr hP2
  refine wp_region_lit ?_
  refine wpList_loadRow rfl rfl (by kernel_rfl) img4 (by kernel_rfl) (by kernel_rfl) ?_
  refine wpList_loadRow rfl rfl (by kernel_rfl) par4 (by kernel_rfl) (by kernel_rfl) ?_
  go_wp2_with fail
  refine (rtiles_any Xn Yn On Pn tx ty (some ⟨g, 0, none⟩) n c lv cw ch pr st o5 ly rct fsop feph (by omega) (by omega) (by omega) (by omega) (by omega) (by omega) (by omega) (by omega) V4 _ _ rfl rfl).mono ?_
  rintro e' W5 ⟨At, ct, rfl, ot, h5⟩
  have hWp : 1 ≤ byN Xn tx := by unfold byN; exact (Nat.le_div_iff_mul_le (by omega)).2 (by omega)
  have hHp : 1 ≤ byN Yn ty := by unfold byN; exact (Nat.le_div_iff_mul_le (by omega)).2 (by omega)
  have hT0 : tileR Xn Yn On Pn tx ty (gridAt (byN Xn tx) 0) = ⟨(On : Nat), (Pn : Nat), (min Xn tx : Nat), (min Yn ty : Nat)⟩ := by
    have e : gridAt (byN Xn tx) 0 = (0, 0) := by unfold gridAt; rw [Nat.zero_mod, Nat.zero_div]
    rw [e]
    exact tile0 (by omega) (by omega)
  obtain ⟨X1, hX1⟩ : ∃ z, min Xn tx = z := ⟨_, rfl⟩
  obtain ⟨Y1, hY1⟩ : ∃ z, min Yn ty = z := ⟨_, rfl⟩
  rw [hX1, hY1] at hT0
  have hX1b : X1 ≤ 20 := by omega
  have hY1b : Y1 ≤ 20 := by omega
  clear hX1 hY1
  have hTpos : 0 < byN Xn tx * byN Yn ty := Nat.mul_pos hWp hHp
  generalize byN Xn tx * byN Yn ty = NT at *
  obtain ⟨gt, hgt, _, _⟩ := ot.row hTpos
  subst hgt
  have htc := fun (j : Nat) (u : Value) (hu : (rcL ⟨(On : Nat), (Pn : Nat), (X1 : Nat), (Y1 : Nat)⟩)[j]? = some u) => ot.at_.cells hTpos (j := j) (u := u) (by rw [hT0]; exact hu)
  simp only [Nat.zero_add, Nat.zero_mul] at htc
  have tc0 : W5.cell? ⟨gt, 0, none⟩ = some (.int .i64 (On : Int)) := htc 0 _ rfl
  have tc1 : W5.cell? ⟨gt, 1, none⟩ = some (.int .i64 (Pn : Int)) := htc 1 _ rfl
  have tc2 : W5.cell? ⟨gt, 2, none⟩ = some (.int .i64 (X1 : Int)) := htc 2 _ rfl
  have tc3 : W5.cell? ⟨gt, 3, none⟩ = some (.int .i64 (Y1 : Int)) := htc 3 _ rfl
  clear ot htc hT0 hWp hHp
  have img5 := (h5.block gm (by omega)).trans img4
  have par5 := (h5.block (gm + 1) (by omega)).trans par4
  have b5 := b4.trans (h5.mono (by omega))
  have HC5 := Lib.hid (HCA.out.below (h5.mono (by omega)))
  have z5 : gm + 2 ≤ W5.heap.size := by have := h5.size; omega
  clear h5 img4 par4 b4 HCA hz4
  go_upto_region 6 with fail
  clear tc0 tc1 tc2 tc3
  obtain ⟨tb, htb⟩ : ∃ z, W5.heap.size = z := ⟨_, rfl⟩
  generalize hV6 : World.alloc W5 _ = V6
  have rt : V6.heap[tb]? = some (.cells #[.int .i64 (On : Int), .int .i64 (Pn : Int), .int .i64 (X1 : Int), .int .i64 (Y1 : Int)] 38 (0, 0)) := by rw [← hV6, ← htb]; exact heap_alloc_new W5 _
  have hb6 : Below W5.heap.size W5 V6 := by rw [← hV6]; exact below_alloc (Below.refl _ _) _
  have z6 : V6.heap.size = tb + 1 := by rw [← hV6, ← htb]; simp
  clear hV6
  rw [htb]
  have img6 := (hb6.block gm (by omega)).trans img5
  have par6 := (hb6.block (gm + 1) (by omega)).trans par5
  have b6 := b5.trans (hb6.mono (by omega))
  have HC6 := Lib.hid (HC5.out.below (hb6.mono (by omega)))
  rw [htb] at z5
  clear hb6 img5 par5 b5 HC5 htb
  have HR := Lib.hid (And.intro rt (And.intro img6 par6))
  clear rt img6 par6
  obtain ⟨Q, hQ⟩ : ∃ Q, Q = madeQ On Pn X1 Y1 lv pr o5 ly n F := ⟨_, rfl⟩
  have HQ := Lib.hid hQ
  have HOk := Lib.hid (show Q.Ok by rw [hQ]; exact madeQ_ok (by omega) hlv (by omega) (by omega) (by omega) hnum.2 HGood.out)
  have hqe : Q.x0 = On ∧ Q.y0 = Pn ∧ Q.x1 = X1 ∧ Q.y1 = Y1 ∧ Q.lv = lv ∧ Q.pr = pr ∧ Q.od = o5 ∧ Q.ly = ly ∧ Q.n = n := by rw [hQ]; exact ⟨rfl, rfl, rfl, rfl, rfl, rfl, rfl, rfl, rfl⟩
  have HQE := Lib.hid hqe
  have HD := Lib.hid (show ∀ k, k < n → (F k).dx = (Q.dx k : Int) ∧ (F k).dy = (Q.dy k : Int) by rw [hQ]; exact madeQ_d HGood.out)
  clear hQ hqe
  refine wp_region_lit ?_
  refine wpList_loadRow rfl rfl (by kernel_rfl) HR.out.1 (by kernel_rfl) (by kernel_rfl) ?_
  refine wpList_loadRow rfl rfl (by kernel_rfl) HR.out.2.1 (by kernel_rfl) (by kernel_rfl) ?_
  refine wpList_loadRow rfl rfl (by kernel_rfl) HR.out.2.2 (by kernel_rfl) (by kernel_rfl) ?_
  go_wp2_with fail
  refine (list_any Q HOk.out Xn Yn On Pn (some ⟨g, 0, none⟩) n c F tx ty cw ch st rct fsop feph On Pn X1 Y1 lv pr o5 ly HQE.out hnc HD.out HFR.out V6 (HC6.out.more (by omega))).mono ?_
  rintro e' W7 ⟨Ka, Aa, ca, rfl, hpa, hsa, owa, h7⟩
  obtain ⟨NA', hNA⟩ : ∃ z, Ka.length = z := ⟨_, rfl⟩
  rw [hNA] at owa ⊢
  have HNA := Lib.hid hNA
  clear hNA
  have HR7 := Lib.hid (And.intro ((h7.block tb (by omega)).trans HR.out.1) (And.intro ((h7.block gm (by omega)).trans HR.out.2.1) ((h7.block (gm + 1) (by omega)).trans HR.out.2.2)))
  have b7 := b6.trans (h7.mono (by omega))
  have HC7 := Lib.hid (HC6.out.below (h7.mono (by omega)))
  have z7 : tb + 1 ≤ W7.heap.size := by have := h7.size; omega
  have HPA := Lib.hid (And.intro hpa hsa)
  have HOA := Lib.hid owa
  clear h7 HR b6 HC6 z6 hpa hsa owa
  have pc0 : W7.cell? ⟨gm + 1, 0, none⟩ = some (.int .i64 (tx : Int)) := cell_of_row _ _ 0 _ _ (0, 0) HR7.out.2.2
  have pc1 : W7.cell? ⟨gm + 1, 1, none⟩ = some (.int .i64 (ty : Int)) := cell_of_row _ _ 1 _ _ (0, 0) HR7.out.2.2
  have pc2 : W7.cell? ⟨gm + 1, 2, none⟩ = some (.int .i64 (lv : Int)) := cell_of_row _ _ 2 _ _ (0, 0) HR7.out.2.2
  have pc3 : W7.cell? ⟨gm + 1, 3, none⟩ = some (.int .i64 (cw : Int)) := cell_of_row _ _ 3 _ _ (0, 0) HR7.out.2.2
  have pc4 : W7.cell? ⟨gm + 1, 4, none⟩ = some (.int .i64 (ch : Int)) := cell_of_row _ _ 4 _ _ (0, 0) HR7.out.2.2
  have pc5 : W7.cell? ⟨gm + 1, 5, none⟩ = some (.int .i64 (pr : Int)) := cell_of_row _ _ 5 _ _ (0, 0) HR7.out.2.2
  have pc6 : W7.cell? ⟨gm + 1, 6, none⟩ = some (.int .i64 (st : Int)) := cell_of_row _ _ 6 _ _ (0, 0) HR7.out.2.2
  have pc7 : W7.cell? ⟨gm + 1, 7, none⟩ = some (.int .i64 (o5 : Int)) := cell_of_row _ _ 7 _ _ (0, 0) HR7.out.2.2
  have pc8 : W7.cell? ⟨gm + 1, 8, none⟩ = some (.int .i64 (ly : Int)) := cell_of_row _ _ 8 _ _ (0, 0) HR7.out.2.2
  have pc9 : W7.cell? ⟨gm + 1, 9, none⟩ = some (.bool rct) := cell_of_row _ _ 9 _ _ (0, 0) HR7.out.2.2
  have pc10 : W7.cell? ⟨gm + 1, 10, none⟩ = some (.bool fsop) := cell_of_row _ _ 10 _ _ (0, 0) HR7.out.2.2
  have pc11 : W7.cell? ⟨gm + 1, 11, none⟩ = some (.bool feph) := cell_of_row _ _ 11 _ _ (0, 0) HR7.out.2.2
  go_upto_region 8 with fail
  clear pc0 pc1 pc2 pc3 pc4 pc5 pc6 pc7 pc8 pc9 pc10 pc11
  obtain ⟨qb, hqb⟩ : ∃ z, W7.heap.size = z := ⟨_, rfl⟩
  generalize hV8 : World.alloc W7 _ = V8
  have rq : V8.heap[qb]? = some (.cells #[.int .i64 (tx : Int), .int .i64 (ty : Int), .int .i64 (lv : Int), .int .i64 (cw : Int), .int .i64 (ch : Int), .int .i64 (pr : Int), .int .i64 (st : Int), .int .i64 (o5 : Int), .int .i64 (ly : Int), .bool rct, .bool fsop, .bool feph] 30 (0, 0)) := by rw [← hV8, ← hqb]; exact heap_alloc_new W7 _
  have hb8 : Below W7.heap.size W7 V8 := by rw [← hV8]; exact below_alloc (Below.refl _ _) _
  have z8 : V8.heap.size = qb + 1 := by rw [← hV8, ← hqb]; simp
  clear hV8
  rw [hqb] at hb8 z7 ⊢
  obtain ⟨ny, hny⟩ : ∃ z, z + ly = 9 := ⟨9 - ly, by omega⟩
  obtain ⟨vv, hvv, _, HK0⟩ := within16v mo ny (ny : Int) rfl (by omega) (by omega)
  have HK := Lib.hid HK0
  clear HK0
  obtain ⟨lz, hlz⟩ : ∃ z, ly + vv = z := ⟨_, rfl⟩
  have Z1 := Lib.hid (show IntKind.i64.wrap (9 - (ly : Int)) = (ny : Int) by rw [IntKind.wrap_i64]; omega)
  have Z2 := Lib.hid (wrap_add hlz (by omega))
  have pm := (hb8.block (gm + 1) (by omega)).trans HR7.out.2.2
  refine last_cut (by kernel_rfl) (fun U => U.heap[gm + 1]? = some (.cells #[.int .i64 (tx : Int), .int .i64 (ty : Int), .int .i64 (lv : Int), .int .i64 (cw : Int), .int .i64 (ch : Int), .int .i64 (pr : Int), .int .i64 (st : Int), .int .i64 (o5 : Int), .int .i64 (ly : Int), .bool rct, .bool fsop, .bool feph] 30 (0, 0))) (fun aF a' W' => a' = (((((((((aF.put (some 35) (.pointer (some ⟨gm + 1, 8, none⟩))).put (some 36) (.int .i64 (ly : Int))).put (some 37) (.int .i64 mo)).put (some 38) (.pointer (some ⟨gm + 1, 8, none⟩))).put (some 39) (.int .i64 (ly : Int))).put (some 40) (.int .i64 (ny : Int))).put (some 41) (.int .i64 (vv : Int))).put (some 42) (.int .i64 (lz : Int))).put (some 43) (.pointer (some ⟨qb, 8, none⟩))) ∧ W'.heap[qb]? = some (.cells #[.int .i64 (tx : Int), .int .i64 (ty : Int), .int .i64 (lv : Int), .int .i64 (cw : Int), .int .i64 (ch : Int), .int .i64 (pr : Int), .int .i64 (st : Int), .int .i64 (o5 : Int), .int .i64 (lz : Int), .bool rct, .bool fsop, .bool feph] 30 (0, 0)) ∧ Below qb V8 W') (pm) (fun hS => ?_) ?_
  · skip
    have hSB : ∀ U : World, Below (V8.heap.size) V8 U → U.heap[gm + 1]? = some (.cells #[.int .i64 (tx : Int), .int .i64 (ty : Int), .int .i64 (lv : Int), .int .i64 (cw : Int), .int .i64 (ch : Int), .int .i64 (pr : Int), .int .i64 (st : Int), .int .i64 (o5 : Int), .int .i64 (ly : Int), .bool rct, .bool fsop, .bool feph] 30 (0, 0)) := fun U h => ((h.block (gm + 1) (by omega)).trans (pm))
    have bV : Below V8.heap.size V8 V8.drew := (Below.refl _ _).drew
    generalize V8.drew = V0 at *
    change wpAnyL _ _ _ _ _ 10 #[false, false, false, false, false, false, false, false, false, false] _ _
    refine wpAnyL_take (i := 0) (v := .pointer (some ⟨gm + 1, 8, none⟩)) (by simp only [List.getElem?_toArray, List.getElem?_cons_succ, List.getElem?_cons_zero]; rfl) (by as_aux_lemma => kernel_rfl) (by as_aux_lemma => kernel_rfl) (by as_aux_lemma => kernel_rfl) (fun _ _ _ h => h) (Or.inl ⟨by rfl, ?_⟩) hS ?_
    · intro U hU
      have s0 := hU
      show _ = _
      kernel_rfl
    simp only [Act.put, List.setIfInBounds_toArray, List.set_cons_zero, List.set_cons_succ]
    refine wpAnyL_take (i := 1) (v := .int .i64 (ly : Int)) (by simp only [List.getElem?_toArray, List.getElem?_cons_succ, List.getElem?_cons_zero]; rfl) (by as_aux_lemma => kernel_rfl) (by as_aux_lemma => kernel_rfl) (by as_aux_lemma => kernel_rfl) (fun _ _ _ h => h) (Or.inl ⟨by rfl, ?_⟩) hS ?_
    · intro U hU
      have s0 := hU
      show _ = _
      have r0_8 : U.cell? ⟨gm + 1, 8, none⟩ = some (.int .i64 (ly : Int)) := cell_of_row _ _ 8 _ _ (0, 0) s0
      exact exec_loadCell rfl rfl r0_8 (by kernel_rfl)
    simp only [Act.put, List.setIfInBounds_toArray, List.set_cons_zero, List.set_cons_succ]
    refine wpAnyL_take (i := 2) (v := .int .i64 mo) (by simp only [List.getElem?_toArray, List.getElem?_cons_succ, List.getElem?_cons_zero]; rfl) (by as_aux_lemma => kernel_rfl) (by as_aux_lemma => kernel_rfl) (by as_aux_lemma => kernel_rfl) (fun _ _ _ h => h) (Or.inl ⟨by rfl, ?_⟩) hS ?_
    · intro U hU
      have s0 := hU
      show _ = _
      kernel_rfl
    simp only [Act.put, List.setIfInBounds_toArray, List.set_cons_zero, List.set_cons_succ]
    refine wpAnyL_take (i := 3) (v := .pointer (some ⟨gm + 1, 8, none⟩)) (by simp only [List.getElem?_toArray, List.getElem?_cons_succ, List.getElem?_cons_zero]; rfl) (by as_aux_lemma => kernel_rfl) (by as_aux_lemma => kernel_rfl) (by as_aux_lemma => kernel_rfl) (fun _ _ _ h => h) (Or.inl ⟨by rfl, ?_⟩) hS ?_
    · intro U hU
      have s0 := hU
      show _ = _
      kernel_rfl
    simp only [Act.put, List.setIfInBounds_toArray, List.set_cons_zero, List.set_cons_succ]
    refine wpAnyL_take (i := 4) (v := .int .i64 (ly : Int)) (by simp only [List.getElem?_toArray, List.getElem?_cons_succ, List.getElem?_cons_zero]; rfl) (by as_aux_lemma => kernel_rfl) (by as_aux_lemma => kernel_rfl) (by as_aux_lemma => kernel_rfl) (fun _ _ _ h => h) (Or.inl ⟨by rfl, ?_⟩) hS ?_
    · intro U hU
      have s0 := hU
      show _ = _
      have r0_8 : U.cell? ⟨gm + 1, 8, none⟩ = some (.int .i64 (ly : Int)) := cell_of_row _ _ 8 _ _ (0, 0) s0
      exact exec_loadCell rfl rfl r0_8 (by kernel_rfl)
    simp only [Act.put, List.setIfInBounds_toArray, List.set_cons_zero, List.set_cons_succ]
    refine wpAnyL_take (i := 5) (v := .int .i64 (ny : Int)) (by simp only [List.getElem?_toArray, List.getElem?_cons_succ, List.getElem?_cons_zero]; rfl) (by as_aux_lemma => kernel_rfl) (by as_aux_lemma => kernel_rfl) (by as_aux_lemma => kernel_rfl) (fun _ _ _ h => h) (Or.inl ⟨by rfl, ?_⟩) hS ?_
    · intro U hU
      have s0 := hU
      show _ = _
      have z1 := Z1.out
      go_simp
    simp only [Act.put, List.setIfInBounds_toArray, List.set_cons_zero, List.set_cons_succ]
    refine wpAnyL_call (i := 6) (v := .int .i64 (vv : Int)) (f := 15) (args := #[.int .i64 mo, .int .i64 (ny : Int)]) (by simp only [List.getElem?_toArray, List.getElem?_cons_succ, List.getElem?_cons_zero]; rfl) (by as_aux_lemma => kernel_rfl) (by as_aux_lemma => kernel_rfl) (by as_aux_lemma => kernel_rfl) (fun _ _ _ h => h) (by rfl) (fun w => HK.out w) ?_ hS ?_
    · intro U hU
      have s0 := hU
      show _ = _
      go_simp
    simp only [Act.put, List.setIfInBounds_toArray, List.set_cons_zero, List.set_cons_succ]
    refine wpAnyL_take (i := 7) (v := .int .i64 (lz : Int)) (by simp only [List.getElem?_toArray, List.getElem?_cons_succ, List.getElem?_cons_zero]; rfl) (by as_aux_lemma => kernel_rfl) (by as_aux_lemma => kernel_rfl) (by as_aux_lemma => kernel_rfl) (fun _ _ _ h => h) (Or.inl ⟨by rfl, ?_⟩) hS ?_
    · intro U hU
      have s0 := hU
      show _ = _
      have z1 := Z2.out
      go_simp
    simp only [Act.put, List.setIfInBounds_toArray, List.set_cons_zero, List.set_cons_succ]
    refine wpAnyL_take (i := 8) (v := .pointer (some ⟨qb, 8, none⟩)) (by simp only [List.getElem?_toArray, List.getElem?_cons_succ, List.getElem?_cons_zero]; rfl) (by as_aux_lemma => kernel_rfl) (by as_aux_lemma => kernel_rfl) (by as_aux_lemma => kernel_rfl) (fun _ _ _ h => h) (Or.inl ⟨by rfl, ?_⟩) hS ?_
    · intro U hU
      have s0 := hU
      show _ = _
      kernel_rfl
    simp only [Act.put, List.setIfInBounds_toArray, List.set_cons_zero, List.set_cons_succ]
    refine wpAnyL_ready (rs := [9]) (by as_aux_lemma => kernel_rfl) (by simp) ?_
    refine AllReadyL.last (by simp only [List.getElem?_toArray, List.getElem?_cons_succ, List.getElem?_cons_zero]; rfl) (by as_aux_lemma => kernel_rfl) (fun K' hK' => ?_)
    have rq2 := ((bV).block qb (by omega)).trans rq
    have d8 : V0.cell? ⟨qb, 8, none⟩ = some (.int .i64 (ly : Int)) := cell_of_row _ _ 8 _ _ (0, 0) rq2
    have dz : V0.frozen? ⟨qb, 8, none⟩ = false := frozen_of_row _ _ 8 _ _ rq2
    go_simp
    obtain ⟨U9, hV, x9', b9⟩ : ∃ V, V0.setCell ⟨qb, 8, none⟩ (.int .i64 (lz : Int)) = V ∧ V.heap[qb]? = some (.cells #[.int .i64 (tx : Int), .int .i64 (ty : Int), .int .i64 (lv : Int), .int .i64 (cw : Int), .int .i64 (ch : Int), .int .i64 (pr : Int), .int .i64 (st : Int), .int .i64 (o5 : Int), .int .i64 (lz : Int), .bool rct, .bool fsop, .bool feph] 30 (0, 0)) ∧ Below qb V8 V := ⟨_, rfl, heap_setCell_same _ _ 8 _ _ _ rq2, (Below.mono (bV) (show qb ≤ V8.heap.size by rw [z8]; exact Nat.le_succ _)).setCell (p := ⟨qb, 8, none⟩) (Nat.le_refl _) _⟩
    rw [hV]
    clear hV
    refine hK'.out _ _ (?_)
    clear d8 dz
    clear hK' K'
    try simp only [Act.put, List.setIfInBounds_toArray, List.set_cons_zero, List.set_cons_succ]
    refine wpAnyL_done (by as_aux_lemma => kernel_rfl) ?_ _
    simp only [OnlyN]
    refine ⟨?_, x9', b9⟩
    (try simp only [Act.put, List.setIfInBounds_toArray, List.set_cons_zero, List.set_cons_succ])
  rintro a' W9 ⟨rfl, rq9, h9⟩
  simp only [Act.put, List.setIfInBounds_toArray, List.set_cons_zero, List.set_cons_succ]
  have h79 := hb8.trans h9
  have HR9 := Lib.hid (And.intro ((h79.block tb (by omega)).trans HR7.out.1) (And.intro ((h79.block gm (by omega)).trans HR7.out.2.1) ((h79.block (gm + 1) (by omega)).trans HR7.out.2.2)))
  have HOA9 := Lib.hid (HOA.out.below (by rw [hqb]; exact h79))
  have HC9 := Lib.hid (HC7.out.below (h79.mono (by omega)))
  have b9 := b7.trans (h79.mono (by omega))
  have z9 : qb + 1 ≤ W9.heap.size := by have := h9.size; omega
  clear h9 h79 hb8 pm rq HR7 HOA HC7 b7 z8 HK Z1 Z2
  have HQ2 := Lib.hid (show ({ Q with ly := lz } : OrdQ).Ok from ⟨HOk.out.t, HOk.out.lv, HOk.out.pr, HOk.out.od, (by show lz ≤ 9; omega), HOk.out.n, HOk.out.d⟩)
  have hq2 := HQE.out
  have HF2 := Lib.hid (frame_ly HFR.out hwy.out (ways_ly (lz := (lz : Int)) hwy.out (by omega)))
  go_upto_region 9 with fail
  refine wp_region_lit ?_
  refine wpList_loadRow rfl rfl (by kernel_rfl) HR9.out.1 (by kernel_rfl) (by kernel_rfl) ?_
  refine wpList_loadRow rfl rfl (by kernel_rfl) HR9.out.2.1 (by kernel_rfl) (by kernel_rfl) ?_
  refine wpList_loadRow rfl rfl (by kernel_rfl) rq9 (by kernel_rfl) (by kernel_rfl) ?_
  go_wp2_with fail
  refine (list_any ({ Q with ly := lz } : OrdQ) HQ2.out Xn Yn On Pn (some ⟨g, 0, none⟩) n c F tx ty cw ch st rct fsop feph On Pn X1 Y1 lv pr o5 lz ⟨hq2.1, hq2.2.1, hq2.2.2.1, hq2.2.2.2.1, hq2.2.2.2.2.1, hq2.2.2.2.2.2.1, hq2.2.2.2.2.2.2.1, rfl, hq2.2.2.2.2.2.2.2.2⟩ hnc HD.out HF2.out W9 (HC9.out.more (by omega))).mono ?_
  rintro e' V1 ⟨Kb, Ab, cb, rfl, hpb, hsb, owb, h10⟩
  obtain ⟨NB, hNB⟩ : ∃ z, Kb.length = z := ⟨_, rfl⟩
  rw [hNB] at owb ⊢
  have hfil : Kb.filter (fewL ly) = Ka := OrdQ.layers (q := Q) (d := vv) HPA.out.1 HPA.out.2 (by rw [hlz]; exact hpb) hsb
  have hNBb : NB ≤ 912600 := by
    have h7 := Q.l1_len HOk.out lz
    have h8 := hpb.length_eq
    have h9 : (({ Q with ly := lz } : OrdQ).l1 lz) = Q.l1 lz := rfl
    rw [h9] at h8
    omega
  have hNAb : NA' ≤ NB := by
    rw [← HNA.out, ← hfil, ← hNB]
    exact List.length_filter_le _ _
  have HFI := Lib.hid (And.intro hfil (And.intro hNB HNA.out))
  have HR10 := Lib.hid ((h10.block (gm + 1) (by omega)).trans HR9.out.2.2)
  have HOA10 := Lib.hid (HOA9.out.below h10)
  have HOB := Lib.hid owb
  have z10 : qb + 1 ≤ V1.heap.size := by have := h10.size; omega
  have b10 := b9.trans (h10.mono (by omega))
  clear h10 owb hpb hsb hNB hfil HR9 HOA9 HC9 b9 rq9 HQ2 hq2 HF2 hwy HPA HOk HQE HD HFR HGood HP
  go_wp2_with fail
  go_loopg [13, 14] NB (fun kx s13 s14 wr => ∃ (i k : Nat), s14 = .int .i64 (i : Int) ∧ s13 = .int .i64 (k : Int) ∧ i ≤ NB ∧ NB - i ≤ kx ∧ k ≤ NA' ∧ Hid ((Kb.take i).filter (fewL ly) = Ka.take k) ∧ Hid (Below V1.heap.size V1 wr))
  case atStart => exact ⟨0, 0, rfl, rfl, by omega, by omega, by omega, Lib.hid (by simp), Lib.hid (Below.refl _ _)⟩
  case round =>
    obtain ⟨i, k, rfl, rfl, hi, hkx, hk, HM, HB⟩ := hrel
    by_cases hlt : i < NB
    · have hltz : (i : Int) < (NB : Int) := by omega
      obtain ⟨gb, hgb, hgb1, hgb2⟩ := HOB.out.row (by omega)
      subst hgb
      obtain ⟨s, hs⟩ : ∃ s, Kb[i]?.getD default = s := ⟨_, rfl⟩
      have kb := (key4_of HOB.out hlt).below HB.out hgb2
      rw [hs] at kb
      have HS := Lib.hid hs
      clear hs
      have zw := HB.out.size
      have WI := wrap_add1 (a := i) (c := i + 1) rfl (by omega)
      have pm := (HB.out.block (gm + 1) (by omega)).trans HR10.out
      have kb0 := kb.1
      go_wp2_with fail
      refine last_cut (by kernel_rfl) (fun U => U.cell? ⟨gb, i * 4, none⟩ = some (.int .i64 s.ly) ∧ U.heap[gm + 1]? = some (.cells #[.int .i64 (tx : Int), .int .i64 (ty : Int), .int .i64 (lv : Int), .int .i64 (cw : Int), .int .i64 (ch : Int), .int .i64 (pr : Int), .int .i64 (st : Int), .int .i64 (o5 : Int), .int .i64 (ly : Int), .bool rct, .bool fsop, .bool feph] 30 (0, 0))) (fun aF a' W' => a' = ((((((((aF.put (some 54) (.slice (some ⟨gb, 0, none⟩) NB cb)).put (some 55) (.int .i64 (i : Int))).put (some 56) (.pointer (some ⟨gb, i * 4, none⟩))).put (some 57) (.pointer (some ⟨gb, i * 4, none⟩))).put (some 58) (.int .i64 s.ly)).put (some 59) (.pointer (some ⟨gm + 1, 8, none⟩))).put (some 60) (.int .i64 (ly : Int))).put (some 61) (.bool (decide ((ly : Int) ≤ s.ly)))) ∧ Below wr.heap.size wr W') ⟨kb0, pm⟩ (fun hS => ?_) ?_
      · skip
        have hSB : ∀ U : World, Below (wr.heap.size) wr U → U.cell? ⟨gb, i * 4, none⟩ = some (.int .i64 s.ly) ∧ U.heap[gm + 1]? = some (.cells #[.int .i64 (tx : Int), .int .i64 (ty : Int), .int .i64 (lv : Int), .int .i64 (cw : Int), .int .i64 (ch : Int), .int .i64 (pr : Int), .int .i64 (st : Int), .int .i64 (o5 : Int), .int .i64 (ly : Int), .bool rct, .bool fsop, .bool feph] 30 (0, 0)) := fun U h => ⟨(h.cell (p := ⟨gb, i * 4, none⟩) (by simp only; omega)).trans (kb0), (h.block (gm + 1) (by omega)).trans (pm)⟩
        have bV : Below wr.heap.size wr wr.drew := (Below.refl _ _).drew
        generalize wr.drew = V0 at *
        change wpAnyL _ _ _ _ _ 8 #[false, false, false, false, false, false, false, false] _ _
        refine wpAnyL_take (i := 0) (v := .slice (some ⟨gb, 0, none⟩) NB cb) (by simp only [List.getElem?_toArray, List.getElem?_cons_succ, List.getElem?_cons_zero]; rfl) (by as_aux_lemma => kernel_rfl) (by as_aux_lemma => kernel_rfl) (by as_aux_lemma => kernel_rfl) (fun _ _ _ h => h) (Or.inl ⟨by rfl, ?_⟩) hS ?_
        · intro U hU
          obtain ⟨s0, s1⟩ := hU
          kernel_rfl
        simp only [Act.put, List.setIfInBounds_toArray, List.set_cons_zero, List.set_cons_succ]
        refine wpAnyL_take (i := 1) (v := .int .i64 (i : Int)) (by simp only [List.getElem?_toArray, List.getElem?_cons_succ, List.getElem?_cons_zero]; rfl) (by as_aux_lemma => kernel_rfl) (by as_aux_lemma => kernel_rfl) (by as_aux_lemma => kernel_rfl) (fun _ _ _ h => h) (Or.inl ⟨by rfl, ?_⟩) hS ?_
        · intro U hU
          obtain ⟨s0, s1⟩ := hU
          kernel_rfl
        simp only [Act.put, List.setIfInBounds_toArray, List.set_cons_zero, List.set_cons_succ]
        refine wpAnyL_take (i := 2) (v := .pointer (some ⟨gb, i * 4, none⟩)) (by simp only [List.getElem?_toArray, List.getElem?_cons_succ, List.getElem?_cons_zero]; rfl) (by as_aux_lemma => kernel_rfl) (by as_aux_lemma => kernel_rfl) (by as_aux_lemma => kernel_rfl) (fun _ _ _ h => h) (Or.inl ⟨by rfl, ?_⟩) hS ?_
        · intro U hU
          obtain ⟨s0, s1⟩ := hU
          go_simp
        simp only [Act.put, List.setIfInBounds_toArray, List.set_cons_zero, List.set_cons_succ]
        refine wpAnyL_take (i := 3) (v := .pointer (some ⟨gb, i * 4, none⟩)) (by simp only [List.getElem?_toArray, List.getElem?_cons_succ, List.getElem?_cons_zero]; rfl) (by as_aux_lemma => kernel_rfl) (by as_aux_lemma => kernel_rfl) (by as_aux_lemma => kernel_rfl) (fun _ _ _ h => h) (Or.inl ⟨by rfl, ?_⟩) hS ?_
        · intro U hU
          obtain ⟨s0, s1⟩ := hU
          kernel_rfl
        simp only [Act.put, List.setIfInBounds_toArray, List.set_cons_zero, List.set_cons_succ]
        refine wpAnyL_take (i := 4) (v := .int .i64 s.ly) (by simp only [List.getElem?_toArray, List.getElem?_cons_succ, List.getElem?_cons_zero]; rfl) (by as_aux_lemma => kernel_rfl) (by as_aux_lemma => kernel_rfl) (by as_aux_lemma => kernel_rfl) (fun _ _ _ h => h) (Or.inl ⟨by rfl, ?_⟩) hS ?_
        · intro U hU
          obtain ⟨s0, s1⟩ := hU
          exact exec_loadCell rfl rfl s0 (by kernel_rfl)
        simp only [Act.put, List.setIfInBounds_toArray, List.set_cons_zero, List.set_cons_succ]
        refine wpAnyL_take (i := 5) (v := .pointer (some ⟨gm + 1, 8, none⟩)) (by simp only [List.getElem?_toArray, List.getElem?_cons_succ, List.getElem?_cons_zero]; rfl) (by as_aux_lemma => kernel_rfl) (by as_aux_lemma => kernel_rfl) (by as_aux_lemma => kernel_rfl) (fun _ _ _ h => h) (Or.inl ⟨by rfl, ?_⟩) hS ?_
        · intro U hU
          obtain ⟨s0, s1⟩ := hU
          kernel_rfl
        simp only [Act.put, List.setIfInBounds_toArray, List.set_cons_zero, List.set_cons_succ]
        refine wpAnyL_take (i := 6) (v := .int .i64 (ly : Int)) (by simp only [List.getElem?_toArray, List.getElem?_cons_succ, List.getElem?_cons_zero]; rfl) (by as_aux_lemma => kernel_rfl) (by as_aux_lemma => kernel_rfl) (by as_aux_lemma => kernel_rfl) (fun _ _ _ h => h) (Or.inl ⟨by rfl, ?_⟩) hS ?_
        · intro U hU
          obtain ⟨s0, s1⟩ := hU
          have r1_8 : U.cell? ⟨gm + 1, 8, none⟩ = some (.int .i64 (ly : Int)) := cell_of_row _ _ 8 _ _ (0, 0) s1
          exact exec_loadCell rfl rfl r1_8 (by kernel_rfl)
        simp only [Act.put, List.setIfInBounds_toArray, List.set_cons_zero, List.set_cons_succ]
        refine wpAnyL_take (i := 7) (v := .bool (decide ((ly : Int) ≤ s.ly))) (by simp only [List.getElem?_toArray, List.getElem?_cons_succ, List.getElem?_cons_zero]; rfl) (by as_aux_lemma => kernel_rfl) (by as_aux_lemma => kernel_rfl) (by as_aux_lemma => kernel_rfl) (fun _ _ _ h => h) (Or.inl ⟨by rfl, ?_⟩) hS ?_
        · intro U hU
          obtain ⟨s0, s1⟩ := hU
          go_simp
        simp only [Act.put, List.setIfInBounds_toArray, List.set_cons_zero, List.set_cons_succ]
        refine wpAnyL_done (by as_aux_lemma => kernel_rfl) ?_ _
        simp only [OnlyN]
        refine ⟨?_, bV⟩
        (try simp only [Act.put, List.setIfInBounds_toArray, List.set_cons_zero, List.set_cons_succ])
      rintro a' Wa ⟨rfl, ha⟩
      simp only [Act.put, List.setIfInBounds_toArray, List.set_cons_zero, List.set_cons_succ]
      have HBa := Lib.hid (HB.out.trans (ha.mono zw))
      by_cases hf : fewL ly s = true
      · have hfz : ¬ (ly : Int) ≤ s.ly := by
          have h7 := of_decide_eq_true hf
          omega
        obtain ⟨hk1, hk2, hk3⟩ := few_step HFI.out.1 HM.out (by rw [HFI.out.2.2]; exact hk) (by rw [HFI.out.2.1]; exact hlt) (by rw [HS.out]; exact hf)
        rw [HFI.out.2.2] at hk1
        rw [HS.out] at hk2
        have hkz : ¬ (NA' : Int) ≤ (k : Int) := by omega
        have hkz2 : (k : Int) < (NA' : Int) := by omega
        obtain ⟨ga, hga, hga1, hga2⟩ := HOA10.out.row (by omega)
        subst hga
        have ka := (key4_of HOA10.out hk1).below HBa.out hga2
        rw [hk2] at ka
        have kb2 := kb.below ha (by omega)
        have HM3 := Lib.hid hk3
        clear hk3 HM kb0 pm kb hk2 HB ha
        have zwa := HBa.out.size
        go_wp2_with fail
        refine last_cut (by kernel_rfl) (fun U => Key4 U ga (k * 4) (.int .i64 s.ly) (.int .i64 s.rs) (.int .i64 s.cm) (.int .i64 s.pc) ∧ Key4 U gb (i * 4) (.int .i64 s.ly) (.int .i64 s.rs) (.int .i64 s.cm) (.int .i64 s.pc)) (fun aF a' W' => a' = (((((((((((((((aF.put (some 62) (.int .i64 (k : Int))).put (some 63) (.slice (some ⟨ga, 0, none⟩) NA' ca)).put (some 64) (.int .i64 (NA' : Int))).put (some 65) (.bool false)).put (some 66) (.bool false)).put (some 67) (.slice (some ⟨ga, 0, none⟩) NA' ca)).put (some 68) (.int .i64 (k : Int))).put (some 69) (.pointer (some ⟨ga, k * 4, none⟩))).put (some 70) (.agg #[.int .i64 s.ly, .int .i64 s.rs, .int .i64 s.cm, .int .i64 s.pc])).put (some 71) (.slice (some ⟨gb, 0, none⟩) NB cb)).put (some 72) (.int .i64 (i : Int))).put (some 73) (.pointer (some ⟨gb, i * 4, none⟩))).put (some 74) (.agg #[.int .i64 s.ly, .int .i64 s.rs, .int .i64 s.cm, .int .i64 s.pc])).put (some 75) (.bool false)).put (some 76) (.bool false)) ∧ Below Wa.heap.size Wa W') ⟨ka, kb2⟩ (fun hS => ?_) ?_
        · skip
          have hSB : ∀ U : World, Below (Wa.heap.size) Wa U → Key4 U ga (k * 4) (.int .i64 s.ly) (.int .i64 s.rs) (.int .i64 s.cm) (.int .i64 s.pc) ∧ Key4 U gb (i * 4) (.int .i64 s.ly) (.int .i64 s.rs) (.int .i64 s.cm) (.int .i64 s.pc) := fun U h => ⟨(ka).below (h) (by omega), (kb2).below (h) (by omega)⟩
          have bV : Below Wa.heap.size Wa Wa.drew := (Below.refl _ _).drew
          generalize Wa.drew = V0 at *
          change wpAnyL _ _ _ _ _ 15 #[false, false, false, false, false, false, false, false, false, false, false, false, false, false, false] _ _
          refine wpAnyL_take (i := 0) (v := .int .i64 (k : Int)) (by simp only [List.getElem?_toArray, List.getElem?_cons_succ, List.getElem?_cons_zero]; rfl) (by as_aux_lemma => kernel_rfl) (by as_aux_lemma => kernel_rfl) (by as_aux_lemma => kernel_rfl) (fun _ _ _ h => h) (Or.inl ⟨by rfl, ?_⟩) hS ?_
          · intro U hU
            obtain ⟨s0, s1⟩ := hU
            kernel_rfl
          simp only [Act.put, List.setIfInBounds_toArray, List.set_cons_zero, List.set_cons_succ]
          refine wpAnyL_take (i := 1) (v := .slice (some ⟨ga, 0, none⟩) NA' ca) (by simp only [List.getElem?_toArray, List.getElem?_cons_succ, List.getElem?_cons_zero]; rfl) (by as_aux_lemma => kernel_rfl) (by as_aux_lemma => kernel_rfl) (by as_aux_lemma => kernel_rfl) (fun _ _ _ h => h) (Or.inl ⟨by rfl, ?_⟩) hS ?_
          · intro U hU
            obtain ⟨s0, s1⟩ := hU
            kernel_rfl
          simp only [Act.put, List.setIfInBounds_toArray, List.set_cons_zero, List.set_cons_succ]
          refine wpAnyL_take (i := 2) (v := .int .i64 (NA' : Int)) (by simp only [List.getElem?_toArray, List.getElem?_cons_succ, List.getElem?_cons_zero]; rfl) (by as_aux_lemma => kernel_rfl) (by as_aux_lemma => kernel_rfl) (by as_aux_lemma => kernel_rfl) (fun _ _ _ h => h) (Or.inl ⟨by rfl, ?_⟩) hS ?_
          · intro U hU
            obtain ⟨s0, s1⟩ := hU
            go_simp
          simp only [Act.put, List.setIfInBounds_toArray, List.set_cons_zero, List.set_cons_succ]
          refine wpAnyL_take (i := 3) (v := .bool false) (by simp only [List.getElem?_toArray, List.getElem?_cons_succ, List.getElem?_cons_zero]; rfl) (by as_aux_lemma => kernel_rfl) (by as_aux_lemma => kernel_rfl) (by as_aux_lemma => kernel_rfl) (fun _ _ _ h => h) (Or.inl ⟨by rfl, ?_⟩) hS ?_
          · intro U hU
            obtain ⟨s0, s1⟩ := hU
            go_simp
          simp only [Act.put, List.setIfInBounds_toArray, List.set_cons_zero, List.set_cons_succ]
          refine wpAnyL_take (i := 4) (v := .bool false) (by simp only [List.getElem?_toArray, List.getElem?_cons_succ, List.getElem?_cons_zero]; rfl) (by as_aux_lemma => kernel_rfl) (by as_aux_lemma => kernel_rfl) (by as_aux_lemma => kernel_rfl) (fun _ _ _ h => h) (Or.inl ⟨by rfl, ?_⟩) hS ?_
          · intro U hU
            obtain ⟨s0, s1⟩ := hU
            kernel_rfl
          simp only [Act.put, List.setIfInBounds_toArray, List.set_cons_zero, List.set_cons_succ]
          refine wpAnyL_take (i := 5) (v := .slice (some ⟨ga, 0, none⟩) NA' ca) (by simp only [List.getElem?_toArray, List.getElem?_cons_succ, List.getElem?_cons_zero]; rfl) (by as_aux_lemma => kernel_rfl) (by as_aux_lemma => kernel_rfl) (by as_aux_lemma => kernel_rfl) (fun _ _ _ h => h) (Or.inl ⟨by rfl, ?_⟩) hS ?_
          · intro U hU
            obtain ⟨s0, s1⟩ := hU
            kernel_rfl
          simp only [Act.put, List.setIfInBounds_toArray, List.set_cons_zero, List.set_cons_succ]
          refine wpAnyL_take (i := 6) (v := .int .i64 (k : Int)) (by simp only [List.getElem?_toArray, List.getElem?_cons_succ, List.getElem?_cons_zero]; rfl) (by as_aux_lemma => kernel_rfl) (by as_aux_lemma => kernel_rfl) (by as_aux_lemma => kernel_rfl) (fun _ _ _ h => h) (Or.inl ⟨by rfl, ?_⟩) hS ?_
          · intro U hU
            obtain ⟨s0, s1⟩ := hU
            kernel_rfl
          simp only [Act.put, List.setIfInBounds_toArray, List.set_cons_zero, List.set_cons_succ]
          refine wpAnyL_take (i := 7) (v := .pointer (some ⟨ga, k * 4, none⟩)) (by simp only [List.getElem?_toArray, List.getElem?_cons_succ, List.getElem?_cons_zero]; rfl) (by as_aux_lemma => kernel_rfl) (by as_aux_lemma => kernel_rfl) (by as_aux_lemma => kernel_rfl) (fun _ _ _ h => h) (Or.inl ⟨by rfl, ?_⟩) hS ?_
          · intro U hU
            obtain ⟨s0, s1⟩ := hU
            go_simp
          simp only [Act.put, List.setIfInBounds_toArray, List.set_cons_zero, List.set_cons_succ]
          refine wpAnyL_take (i := 8) (v := .agg #[.int .i64 s.ly, .int .i64 s.rs, .int .i64 s.cm, .int .i64 s.pc]) (by simp only [List.getElem?_toArray, List.getElem?_cons_succ, List.getElem?_cons_zero]; rfl) (by as_aux_lemma => kernel_rfl) (by as_aux_lemma => kernel_rfl) (by as_aux_lemma => kernel_rfl) (fun _ _ _ h => h) (Or.inl ⟨by rfl, ?_⟩) hS ?_
          · intro U hU
            obtain ⟨s0, s1⟩ := hU
            exact exec_loadK rfl rfl (by kernel_rfl) (by kernel_rfl) s0.load
          simp only [Act.put, List.setIfInBounds_toArray, List.set_cons_zero, List.set_cons_succ]
          refine wpAnyL_take (i := 9) (v := .slice (some ⟨gb, 0, none⟩) NB cb) (by simp only [List.getElem?_toArray, List.getElem?_cons_succ, List.getElem?_cons_zero]; rfl) (by as_aux_lemma => kernel_rfl) (by as_aux_lemma => kernel_rfl) (by as_aux_lemma => kernel_rfl) (fun _ _ _ h => h) (Or.inl ⟨by rfl, ?_⟩) hS ?_
          · intro U hU
            obtain ⟨s0, s1⟩ := hU
            kernel_rfl
          simp only [Act.put, List.setIfInBounds_toArray, List.set_cons_zero, List.set_cons_succ]
          refine wpAnyL_take (i := 10) (v := .int .i64 (i : Int)) (by simp only [List.getElem?_toArray, List.getElem?_cons_succ, List.getElem?_cons_zero]; rfl) (by as_aux_lemma => kernel_rfl) (by as_aux_lemma => kernel_rfl) (by as_aux_lemma => kernel_rfl) (fun _ _ _ h => h) (Or.inl ⟨by rfl, ?_⟩) hS ?_
          · intro U hU
            obtain ⟨s0, s1⟩ := hU
            kernel_rfl
          simp only [Act.put, List.setIfInBounds_toArray, List.set_cons_zero, List.set_cons_succ]
          refine wpAnyL_take (i := 11) (v := .pointer (some ⟨gb, i * 4, none⟩)) (by simp only [List.getElem?_toArray, List.getElem?_cons_succ, List.getElem?_cons_zero]; rfl) (by as_aux_lemma => kernel_rfl) (by as_aux_lemma => kernel_rfl) (by as_aux_lemma => kernel_rfl) (fun _ _ _ h => h) (Or.inl ⟨by rfl, ?_⟩) hS ?_
          · intro U hU
            obtain ⟨s0, s1⟩ := hU
            go_simp
          simp only [Act.put, List.setIfInBounds_toArray, List.set_cons_zero, List.set_cons_succ]
          refine wpAnyL_take (i := 12) (v := .agg #[.int .i64 s.ly, .int .i64 s.rs, .int .i64 s.cm, .int .i64 s.pc]) (by simp only [List.getElem?_toArray, List.getElem?_cons_succ, List.getElem?_cons_zero]; rfl) (by as_aux_lemma => kernel_rfl) (by as_aux_lemma => kernel_rfl) (by as_aux_lemma => kernel_rfl) (fun _ _ _ h => h) (Or.inl ⟨by rfl, ?_⟩) hS ?_
          · intro U hU
            obtain ⟨s0, s1⟩ := hU
            exact exec_loadK rfl rfl (by kernel_rfl) (by kernel_rfl) s1.load
          simp only [Act.put, List.setIfInBounds_toArray, List.set_cons_zero, List.set_cons_succ]
          refine wpAnyL_take (i := 13) (v := .bool false) (by simp only [List.getElem?_toArray, List.getElem?_cons_succ, List.getElem?_cons_zero]; rfl) (by as_aux_lemma => kernel_rfl) (by as_aux_lemma => kernel_rfl) (by as_aux_lemma => kernel_rfl) (fun _ _ _ h => h) (Or.inl ⟨by rfl, ?_⟩) hS ?_
          · intro U hU
            obtain ⟨s0, s1⟩ := hU
            go_simp
          simp only [Act.put, List.setIfInBounds_toArray, List.set_cons_zero, List.set_cons_succ]
          refine wpAnyL_take (i := 14) (v := .bool false) (by simp only [List.getElem?_toArray, List.getElem?_cons_succ, List.getElem?_cons_zero]; rfl) (by as_aux_lemma => kernel_rfl) (by as_aux_lemma => kernel_rfl) (by as_aux_lemma => kernel_rfl) (fun _ _ _ h => h) (Or.inl ⟨by rfl, ?_⟩) hS ?_
          · intro U hU
            obtain ⟨s0, s1⟩ := hU
            kernel_rfl
          simp only [Act.put, List.setIfInBounds_toArray, List.set_cons_zero, List.set_cons_succ]
          refine wpAnyL_done (by as_aux_lemma => kernel_rfl) ?_ _
          simp only [OnlyN]
          refine ⟨?_, bV⟩
          (try simp only [Act.put, List.setIfInBounds_toArray, List.set_cons_zero, List.set_cons_succ])
        rintro a' Wb ⟨rfl, hb⟩
        simp only [Act.put, List.setIfInBounds_toArray, List.set_cons_zero, List.set_cons_succ]
        have HBb := Lib.hid (HBa.out.trans (hb.mono zwa))
        have WK := wrap_add1 (a := k) (c := k + 1) rfl (by omega)
        clear ka kb2 HBa hb
        go_wp2_with fail
        go_roundg (NB - (i + 1))
        case measure => omega
        case rel => exact ⟨i + 1, k + 1, by go_num, by go_num, by omega, Nat.le_refl _, by omega, HM3, HBb⟩
      · have hff : fewL ly s = false := by simpa using hf
        have hfz : (ly : Int) ≤ s.ly := by
          have h7 := of_decide_eq_false hff
          omega
        have HM3 := Lib.hid (few_skip HM.out (by rw [HFI.out.2.1]; exact hlt) (by rw [HS.out]; exact hff))
        clear HM kb0 pm kb HB ha
        go_wp2_with fail
        go_roundg (NB - (i + 1))
        case measure => omega
        case rel => exact ⟨i + 1, k, by go_num, rfl, by omega, Nat.le_refl _, by omega, HM3, HBa⟩
    · have hltz : ¬ (i : Int) < (NB : Int) := by omega
      have he : i = NB := by omega
      have hke : k = NA' := by
        have h7 := few_end (k := k) HFI.out.1 (by rw [HFI.out.2.1, ← he]; exact HM.out) (by rw [HFI.out.2.2]; exact hk)
        rw [HFI.out.2.2] at h7
        exact h7
      have bz := b10.trans (HB.out.mono (by omega))
      have hkz : (k : Int) = (NA' : Int) := by omega
      clear he HM
      subst hke
      go_wp2_with fail
      go_ret
      exact ⟨by go_num, bz⟩
end Go.Proofs.Ytpgkdpoehkdhcaa
