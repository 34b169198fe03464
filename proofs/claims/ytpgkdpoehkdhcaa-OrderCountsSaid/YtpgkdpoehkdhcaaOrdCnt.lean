/- THE WALK of waveletlaw16.OrderCounts. -/
import Derived.Test.YtpgkdpoehkdhcaaOrdM
import Derived.Test.YtpgkdpoehkdhcaaRTiles
import Derived.Deep.LoopGhost
import Derived.Deep.CutBlock
namespace Go.Proofs.Ytpgkdpoehkdhcaa
open Go.RowKit
attribute [local go_sem] opv opnd
set_option maxHeartbeats 40000000
set_option linter.unusedVariables false
set_option linter.unusedSimpArgs false
set_option maxRecDepth 1000000
theorem ordCnt_walk (fX fY fOx fOy fC fD fS : Int) (fsg frct fsop feph : Bool) (fTx fTy fL fcw fch fP fSt fO fLy : Int) (NA : Option Addr) (nN cN : Nat) (Nf : Nat → Int) (o : Int) (w : World) (hN : IntsAt w w.heap.size NA nN Nf) (hNf : ∀ k, k < nN → -9223372036854775808 ≤ Nf k ∧ Nf k ≤ 9223372036854775807) (hNn : nN ≤ 9223372036854775807) (hSb : -9223372036854775808 ≤ fS ∧ fS ≤ 9223372036854775807) (ho : -9223372036854775808 ≤ o ∧ o ≤ 9223372036854775807) :
    Calls Try.prog 7 #[.agg #[.int .i64 fX, .int .i64 fY, .int .i64 fOx, .int .i64 fOy, .int .i64 fC, .int .i64 fD, .int .i64 fS, .bool fsg, .bool frct, .bool fsop, .bool feph, .int .i64 fTx, .int .i64 fTy, .int .i64 fL, .int .i64 fcw, .int .i64 fch, .int .i64 fP, .int .i64 fSt, .int .i64 fO, .int .i64 fLy, .slice NA nN cN], .int .i64 o] w fun e w' => e = .returned (.bool true) ∧ Below w.heap.size w w' := by
  have HMk := Lib.hid (fun (v : World) (h : IntsAt v v.heap.size NA nN Nf) => make_any fX fY fOx fOy fC fD fS fsg frct fsop feph fTx fTy fL fcw fch fP fSt fO fLy NA nN cN Nf 14 (by omega) (by omega) v h hNf hNn hSb)
  rw [show ((14 : Nat) : Int) = 14 from rfl] at HMk
  have HN := Lib.hid hN
  clear hN hNf hNn hSb
  go_enter Try.func7, Try.ntmps7
  go_wp2_with fail
  obtain ⟨q, hq⟩ : ∃ q, w.heap.size = q := ⟨_, rfl⟩
  generalize hw0 : World.alloc w _ = W0
  have f0 : W0.heap[q]? = some (.cells #[.int .i64 fX, .int .i64 fY, .int .i64 fOx, .int .i64 fOy, .int .i64 fC, .int .i64 fD, .int .i64 fS, .bool fsg, .bool frct, .bool fsop, .bool feph, .int .i64 fTx, .int .i64 fTy, .int .i64 fL, .int .i64 fcw, .int .i64 fch, .int .i64 fP, .int .i64 fSt, .int .i64 fO, .int .i64 fLy, .slice NA nN cN] 24 (0, 0)) := by rw [← hw0, ← hq]; exact heap_alloc_new w _
  have z0 : W0.heap.size = q + 1 := by rw [← hw0, ← hq]; simp
  have b0 : Below q w W0 := by rw [← hw0, ← hq]; exact below_alloc (Below.refl _ _) _
  clear hw0
  refine (known16_any _).mono ?_
  rintro e' W1 ⟨rfl, h1⟩
  have f1 := (h1.block q (by omega)).trans f0
  have b1 := b0.trans (h1.mono (by omega))
  have z1 : q + 1 ≤ W1.heap.size := by have := h1.size; omega
  clear h1 f0 b0 z0
  go_upto_region 3 with fail
  refine wp_region_lit ?_
  refine wpList_loadRow rfl rfl rfl f1 (by kernel_rfl) (by kernel_rfl) ?_
  go_wp2_with fail
  refine (HMk.out W1 ((HN.out.below (by rw [hq]; exact b1)).more (by have := b1.size; omega))).mono ?_
  rintro e' W2 ⟨Xn, Yn, On, Pn, tx, ty, lv, cw, ch, pr, st, od, ly, n, dn, rct, PL, A, c, F, G, rfl, hP, hI, h2⟩
  have b2 := b1.trans (h2.mono (by omega))
  have z2 : q + 1 ≤ W2.heap.size := by have := h2.size; omega
  have hI := hI.mono z1
  clear h2 b1 f1
  have HP := Lib.hid hP
  have HI := Lib.hid hI
  clear hP hI HMk HN
  unfold imgV parV
  go_upto_region 4 with fail
  obtain ⟨gm, hgm⟩ : ∃ g, W2.heap.size = g := ⟨_, rfl⟩
  generalize hV3 : World.alloc (World.alloc W2 _) _ = V3
  have img : V3.heap[gm]? = some (.cells #[.int .i64 Xn, .int .i64 Yn, .int .i64 On, .int .i64 Pn, .slice A n c] 28 (0, 0)) := by rw [← hV3, ← hgm]; exact (Below.heap_alloc _ _ _ (by simp)).trans (heap_alloc_new W2 _)
  have par : V3.heap[gm + 1]? = some (.cells #[.int .i64 tx, .int .i64 ty, .int .i64 lv, .int .i64 cw, .int .i64 ch, .int .i64 pr, .int .i64 st, .int .i64 od, .int .i64 ly, .bool rct, .bool fsop, .bool feph] 30 (0, 0)) := by rw [← hV3, ← hgm]; exact heap_alloc_new2 W2 _ _
  have h3 : Below gm W2 V3 := by rw [← hV3, ← hgm]; exact below_alloc (below_alloc (Below.refl _ _) _) _
  have z3 : V3.heap.size = gm + 2 := by rw [← hV3, ← hgm]; simp
  rw [hgm] at z2 ⊢
  clear hV3
  have HI3 := Lib.hid (HI.out.below (by rw [hgm]; exact h3))
  have b3 := b2.trans (h3.mono (by omega))
  clear HI b2 h3
  have hnum : 1 ≤ n ∧ n ≤ 4 := ⟨HP.out.num.1, HP.out.num.2.1⟩
  obtain ⟨g, rfl, hgq, hgl⟩ := HI3.out.comps.row (by omega)
  obtain ⟨o5, ho5, ho5e, HK0⟩ := within16v o 5 5 rfl (by omega) (by omega)
  have HK := Lib.hid HK0
  clear HK0 ho5e
  have p7 : V3.cell? ⟨gm + 1, 7, none⟩ = some (.int .i64 (od : Int)) := cell_of_row _ _ 7 _ _ (0, 0) par
  have p5 : V3.cell? ⟨gm + 1, 5, none⟩ = some (.int .i64 (pr : Int)) := cell_of_row _ _ 5 _ _ (0, 0) par
  have f7 : V3.frozen? ⟨gm + 1, 7, none⟩ = false := frozen_of_row _ _ 7 _ _ par
  have f5 : V3.frozen? ⟨gm + 1, 5, none⟩ = false := frozen_of_row _ _ 5 _ _ par
  go_wp2_with fail
  refine (HK.out _).mono ?_
  rintro e' wa ⟨rfl, hwa⟩
  subst hwa
  go_upto_region 5 with fail
  clear p7 p5 f7 f5 HK
  have par4 : ((V3.setCell ⟨gm + 1, 7, none⟩ (.int .i64 (o5 : Int))).setCell ⟨gm + 1, 5, none⟩ (.int .i64 15)).heap[gm + 1]? = some (.cells #[.int .i64 (tx : Int), .int .i64 (ty : Int), .int .i64 (lv : Int), .int .i64 (cw : Int), .int .i64 (ch : Int), .int .i64 15, .int .i64 (st : Int), .int .i64 (o5 : Int), .int .i64 (ly : Int), .bool rct, .bool fsop, .bool feph] 30 (0, 0)) := heap_setCell_same _ _ 5 _ _ _ (heap_setCell_same _ _ 7 _ _ _ par)
  have hb4 : Below gm V3 ((V3.setCell ⟨gm + 1, 7, none⟩ (.int .i64 (o5 : Int))).setCell ⟨gm + 1, 5, none⟩ (.int .i64 15)) := ((Below.refl _ _).setCell (p := ⟨gm + 1, 7, none⟩) (by simp only; omega) _).setCell (p := ⟨gm + 1, 5, none⟩) (by simp only; omega) _
  have img4 : ((V3.setCell ⟨gm + 1, 7, none⟩ (.int .i64 (o5 : Int))).setCell ⟨gm + 1, 5, none⟩ (.int .i64 15)).heap[gm]? = some (.cells #[.int .i64 (Xn : Int), .int .i64 (Yn : Int), .int .i64 (On : Int), .int .i64 (Pn : Int), .slice (some ⟨g, 0, none⟩) n c] 28 (0, 0)) := (Below.heap_setCell _ _ _ _ (by simp only; omega)).trans ((Below.heap_setCell _ _ _ _ (by simp only; omega)).trans img)
  have hP2 := HP.out.with_ (pr' := 15) (od' := o5) (by omega) (by omega)
  have hfr := made_frame hP2 (by omega) HI3.out.good
  have hgg : g < gm := by
    have e1 : g ≠ gm := fun e => HI3.out.comps.ne_block img (by decide) (by rw [e]; rfl)
    have e2 : g ≠ gm + 1 := fun e => HI3.out.comps.ne_block par (by decide) (by rw [e]; rfl)
    omega
  have hca : CompsAt V3 gm (some ⟨g, 0, none⟩) n F := fun h0 => by
    obtain ⟨b, off, e, _, hk⟩ := HI3.out.compsAt.1 h0
    cases e
    exact ⟨g, 0, rfl, hgg, hk⟩
  have hnc := HI3.out.compsAt.2
  have HGood := Lib.hid HI3.out.good
  have hz4 : ((V3.setCell ⟨gm + 1, 7, none⟩ (.int .i64 (o5 : Int))).setCell ⟨gm + 1, 5, none⟩ (.int .i64 15)).heap.size = gm + 2 := by simp [z3]
  have b4 := b3.trans (hb4.mono (by omega))
  have HCA := Lib.hid (hca.below hb4)
  generalize (V3.setCell ⟨gm + 1, 7, none⟩ (.int .i64 (o5 : Int))).setCell ⟨gm + 1, 5, none⟩ (.int .i64 15) = V4 at *
  clear hb4 hca par img HI3 hI z3 b3 hgl
  have hon := HP.out.on
  have hxs := HP.out.xs
  have hts := HP.out.ts
  have hlv : lv ≤ 5 := HP.out.bds.1
  have hly : 1 ≤ ly ∧ ly ≤ 4 := by have := HP.out.bds; omega
  have HFR := Lib.hid hfr
  clear hfr hP2
  refine wp_region_lit ?_
  refine wpList_loadRow rfl rfl (by kernel_rfl) img4 (by kernel_rfl) (by kernel_rfl) ?_
  refine wpList_loadRow rfl rfl (by kernel_rfl) par4 (by kernel_rfl) (by kernel_rfl) ?_
  go_wp2_with fail
  refine (rtiles_any Xn Yn On Pn tx ty (some ⟨g, 0, none⟩) n c lv cw ch 15 st o5 ly rct fsop feph (by omega) (by omega) (by omega) (by omega) (by omega) (by omega) (by omega) (by omega) V4 _ _ rfl rfl).mono ?_
  rintro e' W5 ⟨At, ct, rfl, ot, h5⟩
  have hWp : 1 ≤ byN Xn tx := by unfold byN; exact (Nat.le_div_iff_mul_le (by omega)).2 (by omega)
  have hHp : 1 ≤ byN Yn ty := by unfold byN; exact (Nat.le_div_iff_mul_le (by omega)).2 (by omega)
  have hT0 : tileR Xn Yn On Pn tx ty (gridAt (byN Xn tx) 0) = ⟨(On : Nat), (Pn : Nat), (min Xn tx : Nat), (min Yn ty : Nat)⟩ := by
    have e : gridAt (byN Xn tx) 0 = (0, 0) := by unfold gridAt; rw [Nat.zero_mod, Nat.zero_div]
    rw [e]
    exact tile0 (by omega) (by omega)
  obtain ⟨X1, hX1⟩ : ∃ z, min Xn tx = z := ⟨_, rfl⟩
  obtain ⟨Y1, hY1⟩ : ∃ z, min Yn ty = z := ⟨_, rfl⟩
  rw [hX1, hY1] at hT0
  have hX1b : X1 ≤ 20 := by omega
  have hY1b : Y1 ≤ 20 := by omega
  clear hX1 hY1
  have hTpos : 0 < byN Xn tx * byN Yn ty := Nat.mul_pos hWp hHp
  generalize byN Xn tx * byN Yn ty = NT at *
  obtain ⟨gt, hgt, _, _⟩ := ot.row hTpos
  subst hgt
  have htc := fun (j : Nat) (u : Value) (hu : (rcL ⟨(On : Nat), (Pn : Nat), (X1 : Nat), (Y1 : Nat)⟩)[j]? = some u) => ot.at_.cells hTpos (j := j) (u := u) (by rw [hT0]; exact hu)
  simp only [Nat.zero_add, Nat.zero_mul] at htc
  have tc0 : W5.cell? ⟨gt, 0, none⟩ = some (.int .i64 (On : Int)) := htc 0 _ rfl
  have tc1 : W5.cell? ⟨gt, 1, none⟩ = some (.int .i64 (Pn : Int)) := htc 1 _ rfl
  have tc2 : W5.cell? ⟨gt, 2, none⟩ = some (.int .i64 (X1 : Int)) := htc 2 _ rfl
  have tc3 : W5.cell? ⟨gt, 3, none⟩ = some (.int .i64 (Y1 : Int)) := htc 3 _ rfl
  clear ot htc hT0 hWp hHp
  have img5 := (h5.block gm (by omega)).trans img4
  have par5 := (h5.block (gm + 1) (by omega)).trans par4
  have b5 := b4.trans (h5.mono (by omega))
  have HC5 := Lib.hid (HCA.out.below (h5.mono (by omega)))
  have z5 : gm + 2 ≤ W5.heap.size := by have := h5.size; omega
  clear h5 img4 par4 b4 HCA hz4
  go_upto_region 6 with fail
  clear tc0 tc1 tc2 tc3
  obtain ⟨tb, htb⟩ : ∃ z, W5.heap.size = z := ⟨_, rfl⟩
  generalize hV6 : World.alloc W5 _ = V6
  have rt : V6.heap[tb]? = some (.cells #[.int .i64 (On : Int), .int .i64 (Pn : Int), .int .i64 (X1 : Int), .int .i64 (Y1 : Int)] 38 (0, 0)) := by rw [← hV6, ← htb]; exact heap_alloc_new W5 _
  have hb6 : Below W5.heap.size W5 V6 := by rw [← hV6]; exact below_alloc (Below.refl _ _) _
  have z6 : V6.heap.size = tb + 1 := by rw [← hV6, ← htb]; simp
  clear hV6
  rw [htb]
  have img6 := (hb6.block gm (by omega)).trans img5
  have par6 := (hb6.block (gm + 1) (by omega)).trans par5
  have b6 := b5.trans (hb6.mono (by omega))
  have HC6 := Lib.hid (HC5.out.below (hb6.mono (by omega)))
  rw [htb] at z5
  clear hb6 img5 par5 b5 HC5 htb
  have HR := Lib.hid (And.intro rt (And.intro img6 par6))
  clear rt img6 par6
  obtain ⟨Q, hQ⟩ : ∃ Q, Q = madeQ On Pn X1 Y1 lv 15 o5 ly n F := ⟨_, rfl⟩
  have HQ := Lib.hid hQ
  have HOk := Lib.hid (show Q.Ok by rw [hQ]; exact madeQ_ok (by omega) hlv (by omega) (by omega) (by omega) hnum.2 HGood.out)
  have hqe : Q.x0 = On ∧ Q.y0 = Pn ∧ Q.x1 = X1 ∧ Q.y1 = Y1 ∧ Q.lv = lv ∧ Q.pr = 15 ∧ Q.od = o5 ∧ Q.ly = ly ∧ Q.n = n := by rw [hQ]; exact ⟨rfl, rfl, rfl, rfl, rfl, rfl, rfl, rfl, rfl⟩
  have HQE := Lib.hid hqe
  have HD := Lib.hid (show ∀ k, k < n → (F k).dx = (Q.dx k : Int) ∧ (F k).dy = (Q.dy k : Int) by rw [hQ]; exact madeQ_d HGood.out)
  clear hQ hqe
  go_wp2_with fail
  go_loopg [8, 9] n (fun kx s8 s9 wr => ∃ (k m : Nat), s8 = .int .i64 (m : Int) ∧ s9 = .int .i64 (k : Int) ∧ k ≤ n ∧ n - k ≤ kx ∧ m ≤ 6 * k ∧ Hid (m = sumN (fun c => sumN (fun r => Q.w r c * Q.h r c) (lv + 1)) k) ∧ Hid (Below (tb + 1) V6 wr))
  case atStart => exact ⟨0, 0, rfl, rfl, by omega, by omega, by omega, Lib.hid rfl, Lib.hid (Below.refl _ _)⟩
  case round =>
    obtain ⟨k, m, rfl, rfl, hk, hkx, hm, HM, HB⟩ := hrel
    have mc4 : wr.cell? ⟨gm, 4, none⟩ = some (.slice (some ⟨g, 0, none⟩) n c) := cell_of_row _ _ 4 _ _ (0, 0) ((HB.out.block gm (by omega)).trans HR.out.2.1)
    by_cases hlt : k < n
    · have hltz : (k : Int) < (n : Int) := by omega
      clear mc4
      obtain ⟨DX, hDX⟩ : ∃ z, Q.dx k = z := ⟨_, rfl⟩
      obtain ⟨DY, hDY⟩ : ∃ z, Q.dy k = z := ⟨_, rfl⟩
      have hdb := HOk.out.d k (by have h7 := HQE.out; omega)
      rw [hDX, hDY] at hdb
      have hcc := (HC6.out.below (HB.out.mono (show gm ≤ tb + 1 by omega))) (by omega)
      obtain ⟨bc, oc, hA, _, hcl⟩ := hcc
      cases hA
      obtain ⟨_, _, k2, k3, _⟩ := hcl k hlt
      rw [(HD.out k hlt).1, hDX] at k2
      rw [(HD.out k hlt).2, hDY] at k3
      simp only [Nat.zero_add] at k2 k3
      clear hcl
      have hres := Q.wh HOk.out (r := 0) (c := k) (by have h7 := HQE.out; omega)
      have hb1 : byN On DX ≤ 64 := Nat.le_trans (byN_le hdb.1) (by omega)
      have hb2 : byN Pn DY ≤ 64 := Nat.le_trans (byN_le hdb.2.2.1) (by omega)
      have hb3 : byN X1 DX ≤ 64 := Nat.le_trans (byN_le hdb.1) (by omega)
      have hb4 : byN Y1 DY ≤ 64 := Nat.le_trans (byN_le hdb.2.2.1) (by omega)
      have HPt := Lib.hid (fun V : World => by
        have := partR_any ⟨(On : Nat), (Pn : Nat), (X1 : Nat), (Y1 : Nat)⟩ DX DY (by simp only; omega) (by simp only; omega) (by simp only; omega) (by simp only; omega) (by omega) (by omega) V
        simp only [clI_nat _ _ hdb.1, clI_nat _ _ hdb.2.2.1] at this
        exact this)
      unfold rcV at HPt
      simp only at HPt
      have HRes := Lib.hid (show ∀ r, r ≤ lv → resR ⟨(byN On DX : Nat), (byN Pn DY : Nat), (byN X1 DX : Nat), (byN Y1 DY : Nat)⟩ (lv - r) = ⟨(ceN On DX (lv - r) : Nat), (ceN Pn DY (lv - r) : Nat), (ceN X1 DX (lv - r) : Nat), (ceN Y1 DY (lv - r) : Nat)⟩ ∧ (ceN On DX (lv - r) ≤ 64 ∧ ceN Pn DY (lv - r) ≤ 64 ∧ ceN X1 DX (lv - r) ≤ 64 ∧ ceN Y1 DY (lv - r) ≤ 64) ∧ Q.w r k * Q.h r k = if 0 < areaR ⟨(ceN On DX (lv - r) : Nat), (ceN Pn DY (lv - r) : Nat), (ceN X1 DX (lv - r) : Nat), (ceN Y1 DY (lv - r) : Nat)⟩ then 1 else 0 from fun r hr => by
        have h7 := HQE.out
        have h8 := Q.wh HOk.out (r := r) (c := k) (by omega)
        have h9 : Q.w r k * Q.h r k = (preW ⟨(ceN Q.x0 (Q.dx k) (Q.lv - r) : Nat), (ceN Q.y0 (Q.dy k) (Q.lv - r) : Nat), (ceN Q.x1 (Q.dx k) (Q.lv - r) : Nat), (ceN Q.y1 (Q.dy k) (Q.lv - r) : Nat)⟩ Q.pr).toNat * (preH ⟨(ceN Q.x0 (Q.dx k) (Q.lv - r) : Nat), (ceN Q.y0 (Q.dy k) (Q.lv - r) : Nat), (ceN Q.x1 (Q.dx k) (Q.lv - r) : Nat), (ceN Q.y1 (Q.dy k) (Q.lv - r) : Nat)⟩ Q.pr).toNat := rfl
        have hrs := h8.rs
        have hbd := h8.bd
        rw [h7.1, h7.2.1, h7.2.2.1, h7.2.2.2.1, h7.2.2.2.2.1, hDX, hDY] at hrs hbd h9
        rw [h7.2.2.2.2.2.1, one_prec hbd] at h9
        exact ⟨hrs, hbd, h9⟩)
      clear hres
      generalize byN On DX = P0 at *
      generalize byN Pn DY = P1 at *
      generalize byN X1 DX = P2 at *
      generalize byN Y1 DY = P3 at *
      have rt := (HB.out.block tb (by omega)).trans HR.out.1
      have im := (HB.out.block gm (by omega)).trans HR.out.2.1
      have zw : tb + 1 ≤ wr.heap.size := by have h7 := HB.out.size; omega
      have mc4 : wr.cell? ⟨gm, 4, none⟩ = some (.slice (some ⟨g, 0, none⟩) n c) := cell_of_row _ _ 4 _ _ (0, 0) im
      go_wp2_with fail
      clear mc4
      have bcl : g < wr.heap.size := by omega
      refine last_cut (by kernel_rfl) (fun U => U.heap[tb]? = some (.cells #[.int .i64 (On : Int), .int .i64 (Pn : Int), .int .i64 (X1 : Int), .int .i64 (Y1 : Int)] 38 (0, 0)) ∧ U.heap[gm]? = some (.cells #[.int .i64 (Xn : Int), .int .i64 (Yn : Int), .int .i64 (On : Int), .int .i64 (Pn : Int), .slice (some ⟨g, 0, none⟩) n c] 28 (0, 0)) ∧ U.cell? ⟨g, k * 5 + 2, none⟩ = some (.int .i64 (DX : Int)) ∧ U.cell? ⟨g, k * 5 + 3, none⟩ = some (.int .i64 (DY : Int))) (fun aF a' W' => ∃ g9, a' = (((((((((((((((aF.put (some 35) (.agg #[.int .i64 (On : Int), .int .i64 (Pn : Int), .int .i64 (X1 : Int), .int .i64 (Y1 : Int)])).put (some 36) (.pointer (some ⟨gm, 4, none⟩))).put (some 37) (.slice (some ⟨g, 0, none⟩) n c)).put (some 38) (.int .i64 (k : Int))).put (some 39) (.pointer (some ⟨g, k * 5, none⟩))).put (some 40) (.pointer (some ⟨g, k * 5 + 2, none⟩))).put (some 41) (.int .i64 (DX : Int))).put (some 42) (.pointer (some ⟨gm, 4, none⟩))).put (some 43) (.slice (some ⟨g, 0, none⟩) n c)).put (some 44) (.int .i64 (k : Int))).put (some 45) (.pointer (some ⟨g, k * 5, none⟩))).put (some 46) (.pointer (some ⟨g, k * 5 + 3, none⟩))).put (some 47) (.int .i64 (DY : Int))).put (some 48) (.agg #[.int .i64 (P0 : Int), .int .i64 (P1 : Int), .int .i64 (P2 : Int), .int .i64 (P3 : Int)])).put (some 10) (.pointer (some ⟨g9, 0, none⟩))) ∧ W'.heap[g9]? = some (.cells #[.int .i64 (P0 : Int), .int .i64 (P1 : Int), .int .i64 (P2 : Int), .int .i64 (P3 : Int)] 38 (0, 0)) ∧ wr.heap.size ≤ g9 ∧ g9 < W'.heap.size ∧ Below wr.heap.size wr W') ⟨rt, im, k2, k3⟩ (fun hS => ?_) ?_
      · skip
        have hSB : ∀ U : World, Below (wr.heap.size) wr U → U.heap[tb]? = some (.cells #[.int .i64 (On : Int), .int .i64 (Pn : Int), .int .i64 (X1 : Int), .int .i64 (Y1 : Int)] 38 (0, 0)) ∧ U.heap[gm]? = some (.cells #[.int .i64 (Xn : Int), .int .i64 (Yn : Int), .int .i64 (On : Int), .int .i64 (Pn : Int), .slice (some ⟨g, 0, none⟩) n c] 28 (0, 0)) ∧ U.cell? ⟨g, k * 5 + 2, none⟩ = some (.int .i64 (DX : Int)) ∧ U.cell? ⟨g, k * 5 + 3, none⟩ = some (.int .i64 (DY : Int)) := fun U h => ⟨(h.block (tb) (by omega)).trans (rt), (h.block (gm) (by omega)).trans (im), (h.cell (p := ⟨g, k * 5 + 2, none⟩) (by simp only; omega)).trans (k2), (h.cell (p := ⟨g, k * 5 + 3, none⟩) (by simp only; omega)).trans (k3)⟩
        have bV : Below wr.heap.size wr wr.drew := (Below.refl _ _).drew
        generalize wr.drew = V0 at *
        change wpAnyL _ _ _ _ _ 16 #[false, false, false, false, false, false, false, false, false, false, false, false, false, false, false, false] _ _
        refine wpAnyL_take (i := 0) (v := .agg #[.int .i64 (On : Int), .int .i64 (Pn : Int), .int .i64 (X1 : Int), .int .i64 (Y1 : Int)]) (by simp only [List.getElem?_toArray, List.getElem?_cons_succ, List.getElem?_cons_zero]; rfl) (by as_aux_lemma => kernel_rfl) (by as_aux_lemma => kernel_rfl) (by as_aux_lemma => kernel_rfl) (fun _ _ _ h => h) (Or.inl ⟨by rfl, ?_⟩) hS ?_
        · intro U hU
          obtain ⟨s0, s1, s2, s3⟩ := hU
          exact exec_loadRow (cs := [.int .i64 (On : Int), .int .i64 (Pn : Int), .int .i64 (X1 : Int), .int .i64 (Y1 : Int)]) rfl rfl s0 (by kernel_rfl) (by kernel_rfl)
        simp only [Act.put, List.setIfInBounds_toArray, List.set_cons_zero, List.set_cons_succ]
        refine wpAnyL_take (i := 1) (v := .pointer (some ⟨gm, 4, none⟩)) (by simp only [List.getElem?_toArray, List.getElem?_cons_succ, List.getElem?_cons_zero]; rfl) (by as_aux_lemma => kernel_rfl) (by as_aux_lemma => kernel_rfl) (by as_aux_lemma => kernel_rfl) (fun _ _ _ h => h) (Or.inl ⟨by rfl, ?_⟩) hS ?_
        · intro U hU
          obtain ⟨s0, s1, s2, s3⟩ := hU
          kernel_rfl
        simp only [Act.put, List.setIfInBounds_toArray, List.set_cons_zero, List.set_cons_succ]
        refine wpAnyL_take (i := 2) (v := .slice (some ⟨g, 0, none⟩) n c) (by simp only [List.getElem?_toArray, List.getElem?_cons_succ, List.getElem?_cons_zero]; rfl) (by as_aux_lemma => kernel_rfl) (by as_aux_lemma => kernel_rfl) (by as_aux_lemma => kernel_rfl) (fun _ _ _ h => h) (Or.inl ⟨by rfl, ?_⟩) hS ?_
        · intro U hU
          obtain ⟨s0, s1, s2, s3⟩ := hU
          have r1_4 : U.cell? ⟨gm, 4, none⟩ = some (.slice (some ⟨g, 0, none⟩) n c) := cell_of_row _ _ 4 _ _ (0, 0) s1
          exact exec_loadCell rfl rfl r1_4 (by kernel_rfl)
        simp only [Act.put, List.setIfInBounds_toArray, List.set_cons_zero, List.set_cons_succ]
        refine wpAnyL_take (i := 3) (v := .int .i64 (k : Int)) (by simp only [List.getElem?_toArray, List.getElem?_cons_succ, List.getElem?_cons_zero]; rfl) (by as_aux_lemma => kernel_rfl) (by as_aux_lemma => kernel_rfl) (by as_aux_lemma => kernel_rfl) (fun _ _ _ h => h) (Or.inl ⟨by rfl, ?_⟩) hS ?_
        · intro U hU
          obtain ⟨s0, s1, s2, s3⟩ := hU
          kernel_rfl
        simp only [Act.put, List.setIfInBounds_toArray, List.set_cons_zero, List.set_cons_succ]
        refine wpAnyL_take (i := 4) (v := .pointer (some ⟨g, k * 5, none⟩)) (by simp only [List.getElem?_toArray, List.getElem?_cons_succ, List.getElem?_cons_zero]; rfl) (by as_aux_lemma => kernel_rfl) (by as_aux_lemma => kernel_rfl) (by as_aux_lemma => kernel_rfl) (fun _ _ _ h => h) (Or.inl ⟨by rfl, ?_⟩) hS ?_
        · intro U hU
          obtain ⟨s0, s1, s2, s3⟩ := hU
          go_simp
        simp only [Act.put, List.setIfInBounds_toArray, List.set_cons_zero, List.set_cons_succ]
        refine wpAnyL_take (i := 5) (v := .pointer (some ⟨g, k * 5 + 2, none⟩)) (by simp only [List.getElem?_toArray, List.getElem?_cons_succ, List.getElem?_cons_zero]; rfl) (by as_aux_lemma => kernel_rfl) (by as_aux_lemma => kernel_rfl) (by as_aux_lemma => kernel_rfl) (fun _ _ _ h => h) (Or.inl ⟨by rfl, ?_⟩) hS ?_
        · intro U hU
          obtain ⟨s0, s1, s2, s3⟩ := hU
          kernel_rfl
        simp only [Act.put, List.setIfInBounds_toArray, List.set_cons_zero, List.set_cons_succ]
        refine wpAnyL_take (i := 6) (v := .int .i64 (DX : Int)) (by simp only [List.getElem?_toArray, List.getElem?_cons_succ, List.getElem?_cons_zero]; rfl) (by as_aux_lemma => kernel_rfl) (by as_aux_lemma => kernel_rfl) (by as_aux_lemma => kernel_rfl) (fun _ _ _ h => h) (Or.inl ⟨by rfl, ?_⟩) hS ?_
        · intro U hU
          obtain ⟨s0, s1, s2, s3⟩ := hU
          exact exec_loadCell rfl rfl s2 (by kernel_rfl)
        simp only [Act.put, List.setIfInBounds_toArray, List.set_cons_zero, List.set_cons_succ]
        refine wpAnyL_take (i := 7) (v := .pointer (some ⟨gm, 4, none⟩)) (by simp only [List.getElem?_toArray, List.getElem?_cons_succ, List.getElem?_cons_zero]; rfl) (by as_aux_lemma => kernel_rfl) (by as_aux_lemma => kernel_rfl) (by as_aux_lemma => kernel_rfl) (fun _ _ _ h => h) (Or.inl ⟨by rfl, ?_⟩) hS ?_
        · intro U hU
          obtain ⟨s0, s1, s2, s3⟩ := hU
          kernel_rfl
        simp only [Act.put, List.setIfInBounds_toArray, List.set_cons_zero, List.set_cons_succ]
        refine wpAnyL_take (i := 8) (v := .slice (some ⟨g, 0, none⟩) n c) (by simp only [List.getElem?_toArray, List.getElem?_cons_succ, List.getElem?_cons_zero]; rfl) (by as_aux_lemma => kernel_rfl) (by as_aux_lemma => kernel_rfl) (by as_aux_lemma => kernel_rfl) (fun _ _ _ h => h) (Or.inl ⟨by rfl, ?_⟩) hS ?_
        · intro U hU
          obtain ⟨s0, s1, s2, s3⟩ := hU
          have r1_4 : U.cell? ⟨gm, 4, none⟩ = some (.slice (some ⟨g, 0, none⟩) n c) := cell_of_row _ _ 4 _ _ (0, 0) s1
          exact exec_loadCell rfl rfl r1_4 (by kernel_rfl)
        simp only [Act.put, List.setIfInBounds_toArray, List.set_cons_zero, List.set_cons_succ]
        refine wpAnyL_take (i := 9) (v := .int .i64 (k : Int)) (by simp only [List.getElem?_toArray, List.getElem?_cons_succ, List.getElem?_cons_zero]; rfl) (by as_aux_lemma => kernel_rfl) (by as_aux_lemma => kernel_rfl) (by as_aux_lemma => kernel_rfl) (fun _ _ _ h => h) (Or.inl ⟨by rfl, ?_⟩) hS ?_
        · intro U hU
          obtain ⟨s0, s1, s2, s3⟩ := hU
          kernel_rfl
        simp only [Act.put, List.setIfInBounds_toArray, List.set_cons_zero, List.set_cons_succ]
        refine wpAnyL_take (i := 10) (v := .pointer (some ⟨g, k * 5, none⟩)) (by simp only [List.getElem?_toArray, List.getElem?_cons_succ, List.getElem?_cons_zero]; rfl) (by as_aux_lemma => kernel_rfl) (by as_aux_lemma => kernel_rfl) (by as_aux_lemma => kernel_rfl) (fun _ _ _ h => h) (Or.inl ⟨by rfl, ?_⟩) hS ?_
        · intro U hU
          obtain ⟨s0, s1, s2, s3⟩ := hU
          go_simp
        simp only [Act.put, List.setIfInBounds_toArray, List.set_cons_zero, List.set_cons_succ]
        refine wpAnyL_take (i := 11) (v := .pointer (some ⟨g, k * 5 + 3, none⟩)) (by simp only [List.getElem?_toArray, List.getElem?_cons_succ, List.getElem?_cons_zero]; rfl) (by as_aux_lemma => kernel_rfl) (by as_aux_lemma => kernel_rfl) (by as_aux_lemma => kernel_rfl) (fun _ _ _ h => h) (Or.inl ⟨by rfl, ?_⟩) hS ?_
        · intro U hU
          obtain ⟨s0, s1, s2, s3⟩ := hU
          kernel_rfl
        simp only [Act.put, List.setIfInBounds_toArray, List.set_cons_zero, List.set_cons_succ]
        refine wpAnyL_take (i := 12) (v := .int .i64 (DY : Int)) (by simp only [List.getElem?_toArray, List.getElem?_cons_succ, List.getElem?_cons_zero]; rfl) (by as_aux_lemma => kernel_rfl) (by as_aux_lemma => kernel_rfl) (by as_aux_lemma => kernel_rfl) (fun _ _ _ h => h) (Or.inl ⟨by rfl, ?_⟩) hS ?_
        · intro U hU
          obtain ⟨s0, s1, s2, s3⟩ := hU
          exact exec_loadCell rfl rfl s3 (by kernel_rfl)
        simp only [Act.put, List.setIfInBounds_toArray, List.set_cons_zero, List.set_cons_succ]
        refine wpAnyL_ready (rs := [13, 14]) (by as_aux_lemma => kernel_rfl) (by simp) ?_
        refine AllReadyL.cons (by simp only [List.getElem?_toArray, List.getElem?_cons_succ, List.getElem?_cons_zero]; rfl) (fun K' hK' => ?_) (AllReadyL.cons (by simp only [List.getElem?_toArray, List.getElem?_cons_succ, List.getElem?_cons_zero]; rfl) (fun K' hK' => ?_) AllReadyL.nil)
        · go_simp
          go_at_call 16
          refine (HPt.out _).mono ?_
          rintro e' U13 ⟨rfl, hb13⟩
          have b13 := below_trans bV hb13
          have hS := hSB _ b13
          dsimp only
          refine hK'.out _ _ hS (fun _ => ?_)
          clear hb13 bV
          clear hK' K'
          try simp only [Act.put, List.setIfInBounds_toArray, List.set_cons_zero, List.set_cons_succ]
          refine wpAnyL_ready (rs := [14]) (by as_aux_lemma => kernel_rfl) (by simp) ?_
          refine AllReadyL.cons (by simp only [List.getElem?_toArray, List.getElem?_cons_succ, List.getElem?_cons_zero]; rfl) (fun K' hK' => ?_) AllReadyL.nil
          go_simp
          have hb14 := below_alloc (Below.refl U13.heap.size U13) (.cells #[.int .i64 0, .int .i64 0, .int .i64 0, .int .i64 0] 38)
          obtain ⟨g9, hg9⟩ : ∃ g, U13.heap.size = g := ⟨_, rfl⟩
          have x9 := heap_alloc_new U13 (.cells #[.int .i64 0, .int .i64 0, .int .i64 0, .int .i64 0] 38)
          have l9 : U13.heap.size < (U13.alloc (.cells #[.int .i64 0, .int .i64 0, .int .i64 0, .int .i64 0] 38)).heap.size := by simp
          have y9 : wr.heap.size ≤ U13.heap.size := b13.size
          have b14 := below_alloc b13 (.cells #[.int .i64 0, .int .i64 0, .int .i64 0, .int .i64 0] 38)
          generalize U13.alloc (.cells #[.int .i64 0, .int .i64 0, .int .i64 0, .int .i64 0] 38) = U14 at *
          rw [hg9] at x9 l9 y9 ⊢
          clear hg9 hb14 b13
          have hS := hSB _ b14
          refine hK'.out _ _ hS (fun _ => ?_)
          clear hK' K'
          try simp only [Act.put, List.setIfInBounds_toArray, List.set_cons_zero, List.set_cons_succ]
          refine wpAnyL_ready (rs := [15]) (by as_aux_lemma => kernel_rfl) (by simp) ?_
          refine AllReadyL.last (by simp only [List.getElem?_toArray, List.getElem?_cons_succ, List.getElem?_cons_zero]; rfl) (by as_aux_lemma => kernel_rfl) (fun K' hK' => ?_)
          have d0 : U14.cell? ⟨g9, 0, none⟩ = some (.int .i64 0) := cell_of_row _ _ 0 _ _ (0, 0) x9
          have d1 : U14.cell? ⟨g9, 1, none⟩ = some (.int .i64 0) := cell_of_row _ _ 1 _ _ (0, 0) x9
          have d2 : U14.cell? ⟨g9, 2, none⟩ = some (.int .i64 0) := cell_of_row _ _ 2 _ _ (0, 0) x9
          have d3 : U14.cell? ⟨g9, 3, none⟩ = some (.int .i64 0) := cell_of_row _ _ 3 _ _ (0, 0) x9
          have dz : ∀ i, U14.frozen? ⟨g9, i, none⟩ = false := fun i => frozen_of_row _ _ i _ _ x9
          go_simp
          obtain ⟨U15, hV, x9', b15⟩ : ∃ V, ((((U14.setCell ⟨g9, 0, none⟩ (.int .i64 (P0 : Int))).setCell ⟨g9, 1, none⟩ (.int .i64 (P1 : Int))).setCell ⟨g9, 2, none⟩ (.int .i64 (P2 : Int))).setCell ⟨g9, 3, none⟩ (.int .i64 (P3 : Int))) = V ∧ V.heap[g9]? = some (.cells #[.int .i64 (P0 : Int), .int .i64 (P1 : Int), .int .i64 (P2 : Int), .int .i64 (P3 : Int)] 38 (0, 0)) ∧ Below wr.heap.size wr V := ⟨_, rfl, setRow_at (old := [.int .i64 0, .int .i64 0, .int .i64 0, .int .i64 0]) [.int .i64 (P0 : Int), .int .i64 (P1 : Int), .int .i64 (P2 : Int), .int .i64 (P3 : Int)] rfl x9, setRow_below y9 [.int .i64 (P0 : Int), .int .i64 (P1 : Int), .int .i64 (P2 : Int), .int .i64 (P3 : Int)] 0 _ b14⟩
          have l9' : g9 < U15.heap.size := (Array.getElem?_eq_some_iff.1 x9').1
          rw [hV]
          clear hV
          refine hK'.out _ _ (?_)
          clear d0 d1 d2 d3 dz
          clear hK' K'
          try simp only [Act.put, List.setIfInBounds_toArray, List.set_cons_zero, List.set_cons_succ]
          refine wpAnyL_done (by as_aux_lemma => kernel_rfl) ?_ _
          simp only [OnlyN]
          refine ⟨g9, ?_, x9', y9, l9', b15⟩
          (try simp only [Act.put, List.setIfInBounds_toArray, List.set_cons_zero, List.set_cons_succ])
        · go_simp
          have hb14 := below_alloc (Below.refl V0.heap.size V0) (.cells #[.int .i64 0, .int .i64 0, .int .i64 0, .int .i64 0] 38)
          obtain ⟨g9, hg9⟩ : ∃ g, V0.heap.size = g := ⟨_, rfl⟩
          have x9 := heap_alloc_new V0 (.cells #[.int .i64 0, .int .i64 0, .int .i64 0, .int .i64 0] 38)
          have l9 : V0.heap.size < (V0.alloc (.cells #[.int .i64 0, .int .i64 0, .int .i64 0, .int .i64 0] 38)).heap.size := by simp
          have y9 : wr.heap.size ≤ V0.heap.size := bV.size
          have b14 := below_alloc bV (.cells #[.int .i64 0, .int .i64 0, .int .i64 0, .int .i64 0] 38)
          generalize V0.alloc (.cells #[.int .i64 0, .int .i64 0, .int .i64 0, .int .i64 0] 38) = U14 at *
          rw [hg9] at x9 l9 y9 ⊢
          clear hg9 hb14 bV
          have hS := hSB _ b14
          refine hK'.out _ _ hS (fun _ => ?_)
          clear hK' K'
          try simp only [Act.put, List.setIfInBounds_toArray, List.set_cons_zero, List.set_cons_succ]
          refine wpAnyL_ready (rs := [13]) (by as_aux_lemma => kernel_rfl) (by simp) ?_
          refine AllReadyL.cons (by simp only [List.getElem?_toArray, List.getElem?_cons_succ, List.getElem?_cons_zero]; rfl) (fun K' hK' => ?_) AllReadyL.nil
          go_simp
          go_at_call 16
          refine (HPt.out _).mono ?_
          rintro e' U13 ⟨rfl, hb13⟩
          replace x9 := (hb13.block g9 l9).trans x9
          replace l9 := Nat.lt_of_lt_of_le l9 hb13.size
          have b13 := below_trans b14 hb13
          have hS := hSB _ b13
          dsimp only
          refine hK'.out _ _ hS (fun _ => ?_)
          clear hb13 b14
          clear hK' K'
          try simp only [Act.put, List.setIfInBounds_toArray, List.set_cons_zero, List.set_cons_succ]
          refine wpAnyL_ready (rs := [15]) (by as_aux_lemma => kernel_rfl) (by simp) ?_
          refine AllReadyL.last (by simp only [List.getElem?_toArray, List.getElem?_cons_succ, List.getElem?_cons_zero]; rfl) (by as_aux_lemma => kernel_rfl) (fun K' hK' => ?_)
          have d0 : U13.cell? ⟨g9, 0, none⟩ = some (.int .i64 0) := cell_of_row _ _ 0 _ _ (0, 0) x9
          have d1 : U13.cell? ⟨g9, 1, none⟩ = some (.int .i64 0) := cell_of_row _ _ 1 _ _ (0, 0) x9
          have d2 : U13.cell? ⟨g9, 2, none⟩ = some (.int .i64 0) := cell_of_row _ _ 2 _ _ (0, 0) x9
          have d3 : U13.cell? ⟨g9, 3, none⟩ = some (.int .i64 0) := cell_of_row _ _ 3 _ _ (0, 0) x9
          have dz : ∀ i, U13.frozen? ⟨g9, i, none⟩ = false := fun i => frozen_of_row _ _ i _ _ x9
          go_simp
          obtain ⟨U15, hV, x9', b15⟩ : ∃ V, ((((U13.setCell ⟨g9, 0, none⟩ (.int .i64 (P0 : Int))).setCell ⟨g9, 1, none⟩ (.int .i64 (P1 : Int))).setCell ⟨g9, 2, none⟩ (.int .i64 (P2 : Int))).setCell ⟨g9, 3, none⟩ (.int .i64 (P3 : Int))) = V ∧ V.heap[g9]? = some (.cells #[.int .i64 (P0 : Int), .int .i64 (P1 : Int), .int .i64 (P2 : Int), .int .i64 (P3 : Int)] 38 (0, 0)) ∧ Below wr.heap.size wr V := ⟨_, rfl, setRow_at (old := [.int .i64 0, .int .i64 0, .int .i64 0, .int .i64 0]) [.int .i64 (P0 : Int), .int .i64 (P1 : Int), .int .i64 (P2 : Int), .int .i64 (P3 : Int)] rfl x9, setRow_below y9 [.int .i64 (P0 : Int), .int .i64 (P1 : Int), .int .i64 (P2 : Int), .int .i64 (P3 : Int)] 0 _ b13⟩
          have l9' : g9 < U15.heap.size := (Array.getElem?_eq_some_iff.1 x9').1
          rw [hV]
          clear hV
          refine hK'.out _ _ (?_)
          clear d0 d1 d2 d3 dz
          clear hK' K'
          try simp only [Act.put, List.setIfInBounds_toArray, List.set_cons_zero, List.set_cons_succ]
          refine wpAnyL_done (by as_aux_lemma => kernel_rfl) ?_ _
          simp only [OnlyN]
          refine ⟨g9, ?_, x9', y9, l9', b15⟩
          (try simp only [Act.put, List.setIfInBounds_toArray, List.set_cons_zero, List.set_cons_succ])
      rintro a' W7 ⟨pb, rfl, rp, y9, l9, h7⟩
      simp only [Act.put, List.setIfInBounds_toArray, List.set_cons_zero, List.set_cons_succ]
      have HB7 := Lib.hid (HB.out.trans (h7.mono zw))
      clear h7 rt im k2 k3 HB
      obtain ⟨B7, hB7⟩ : ∃ z, W7.heap.size = z := ⟨_, rfl⟩
      rw [hB7] at l9
      have HRP := Lib.hid rp
      clear rp
      go_wp2_with fail
      go_loopg [8, 11] (lv + 1) (fun ky s8 s11 wr2 => ∃ (r m2 : Nat), s8 = .int .i64 (m2 : Int) ∧ s11 = .int .i64 (r : Int) ∧ r ≤ lv + 1 ∧ lv + 1 - r ≤ ky ∧ m2 ≤ 6 * k + r ∧ Hid (m2 = sumN (fun c => sumN (fun r => Q.w r c * Q.h r c) (lv + 1)) k + sumN (fun r => Q.w r k * Q.h r k) r) ∧ Hid (Below B7 W7 wr2))
      case atStart => exact ⟨0, m, rfl, rfl, by omega, by omega, by omega, Lib.hid HM.out, Lib.hid (Below.refl _ _)⟩
      case round =>
        clear HM hm
        obtain ⟨r, m2, rfl, rfl, hr, hky, hm2, HM2, HB2⟩ := hrel
        have hszB : tb + 1 ≤ B7 := by omega
        have pc2 : wr.cell? ⟨gm + 1, 2, none⟩ = some (.int .i64 (lv : Int)) := cell_of_row _ _ 2 _ _ (0, 0) ((HB2.out.block (gm + 1) (by omega)).trans ((HB7.out.block (gm + 1) (by omega)).trans HR.out.2.2))
        by_cases hle : r ≤ lv
        · have hlez : (r : Int) ≤ (lv : Int) := by omega
          have rp2 := (HB2.out.block pb (by omega)).trans HRP.out
          have qc0 : wr.cell? ⟨pb, 0, none⟩ = some (.int .i64 (P0 : Int)) := cell_of_row _ _ 0 _ _ (0, 0) rp2
          have qc1 : wr.cell? ⟨pb, 1, none⟩ = some (.int .i64 (P1 : Int)) := cell_of_row _ _ 1 _ _ (0, 0) rp2
          have qc2 : wr.cell? ⟨pb, 2, none⟩ = some (.int .i64 (P2 : Int)) := cell_of_row _ _ 2 _ _ (0, 0) rp2
          have qc3 : wr.cell? ⟨pb, 3, none⟩ = some (.int .i64 (P3 : Int)) := cell_of_row _ _ 3 _ _ (0, 0) rp2
          have hrr := HRes.out r hle
          have HQR := Lib.hid (resolutionR_any ⟨(P0 : Nat), (P1 : Nat), (P2 : Nat), (P3 : Nat)⟩ lv r (lv - r) (by omega) (by omega) (by omega) (by unfold okR; simp only; omega))
          rw [hrr.1] at HQR
          unfold rcV at HQR
          simp only at HQR
          have hbd := hrr.2.1
          have hcnt := hrr.2.2
          clear hrr
          generalize ceN On DX (lv - r) = R0 at *
          generalize ceN Pn DY (lv - r) = R1 at *
          generalize ceN X1 DX (lv - r) = R2 at *
          generalize ceN Y1 DY (lv - r) = R3 at *
          obtain ⟨ar, har⟩ : ∃ z, areaR ⟨(R0 : Nat), (R1 : Nat), (R2 : Nat), (R3 : Nat)⟩ = z := ⟨_, rfl⟩
          have HAr := Lib.hid (fun V : World => har ▸ areaR_any ⟨(R0 : Nat), (R1 : Nat), (R2 : Nat), (R3 : Nat)⟩ (by simp only; omega) (by simp only; omega) (by simp only; omega) (by simp only; omega) V)
          unfold rcV at HAr
          simp only at HAr
          rw [har] at hcnt
          clear har
          have hcnt2 := Lib.hid hcnt
          clear hcnt
          go_wp2_with fail
          refine (HQR.out _).mono ?_
          rintro e' W8 ⟨rfl, h8⟩
          go_wp2_with fail
          refine (HAr.out _).mono ?_
          rintro e' W9 ⟨rfl, h9⟩
          have HB9 := Lib.hid (HB2.out.trans ((h8.mono (by have h7 := HB2.out.size; omega)).trans (h9.mono (by have h7 := HB2.out.size; have h6 := h8.size; omega))))
          clear h8 h9 qc0 qc1 qc2 qc3 rp2 HQR HAr pc2
          have WR := wrap_add1 (a := r) (c := r + 1) rfl (by omega)
          have WM := wrap_add1 (a := m2) (c := m2 + 1) rfl (by omega)
          by_cases hpos : 0 < ar
          · have hpz : (0 : Int) < (ar : Int) := by omega
            go_wp2_with fail
            go_roundg (lv + 1 - (r + 1))
            case measure => omega
            case rel => exact ⟨r + 1, m2 + 1, by go_num, by go_num, by omega, Nat.le_refl _, by omega, Lib.hid (by rw [sumN, hcnt2.out, if_pos hpos, ← Nat.add_assoc, ← HM2.out]), HB9⟩
          · have hpz : ¬ (0 : Int) < (ar : Int) := by omega
            go_wp2_with fail
            go_roundg (lv + 1 - (r + 1))
            case measure => omega
            case rel => exact ⟨r + 1, m2, rfl, by go_num, by omega, Nat.le_refl _, by omega, Lib.hid (by rw [sumN, hcnt2.out, if_neg hpos]; exact HM2.out), HB9⟩
        · have hlez : ¬ (r : Int) ≤ (lv : Int) := by omega
          have he := Lib.hid (show r = lv + 1 by omega)
          have WK := wrap_add1 (a := k) (c := k + 1) rfl (by omega)
          go_wp2_with fail
          go_roundg (n - (k + 1))
          case measure => omega
          case rel => exact ⟨k + 1, m2, rfl, by go_num, by omega, Nat.le_refl _, by omega, Lib.hid (by rw [sumN, HM2.out, he.out]), Lib.hid (HB7.out.trans (HB2.out.mono hszB))⟩
    · have hltz : ¬ (k : Int) < (n : Int) := by omega
      have he := Lib.hid (show k = n by omega)
      obtain ⟨lm, hlm⟩ : ∃ z, m * ly = z := ⟨_, rfl⟩
      have hlmb : lm ≤ 24 * 4 := by rw [← hlm]; exact Nat.mul_le_mul (by omega) hly.2
      have WL := Lib.hid (show IntKind.i64.wrap ((m : Int) * (ly : Int)) = (lm : Int) by rw [← Int.natCast_mul, hlm, IntKind.wrap_i64]; omega)
      have HLM := Lib.hid (show (Q.l1 ly).length = lm by
        have h7 := HQE.out
        rw [Q.l1_cnt, h7.2.2.2.2.1, h7.2.2.2.2.2.2.2.2, ← hlm, HM.out, he.out, Nat.mul_comm])
      clear hlm
      have HLs := Lib.hid (fun V : World => list_any Q HOk.out Xn Yn On Pn (some ⟨g, 0, none⟩) n c F tx ty cw ch st rct fsop feph On Pn X1 Y1 lv 15 o5 ly HQE.out hnc HD.out HFR.out V)
      have rt := (HB.out.block tb (by omega)).trans HR.out.1
      have im := (HB.out.block gm (by omega)).trans HR.out.2.1
      have pm := (HB.out.block (gm + 1) (by omega)).trans HR.out.2.2
      have zw : tb + 1 ≤ wr.heap.size := by have h7 := HB.out.size; omega
      have HCw := Lib.hid (HC6.out.below (HB.out.mono (show gm ≤ tb + 1 by omega)))
      go_wp2_with fail
      clear mc4
      refine last_cut (by kernel_rfl) (fun U => U.heap[tb]? = some (.cells #[.int .i64 (On : Int), .int .i64 (Pn : Int), .int .i64 (X1 : Int), .int .i64 (Y1 : Int)] 38 (0, 0)) ∧ U.heap[gm]? = some (.cells #[.int .i64 (Xn : Int), .int .i64 (Yn : Int), .int .i64 (On : Int), .int .i64 (Pn : Int), .slice (some ⟨g, 0, none⟩) n c] 28 (0, 0)) ∧ U.heap[gm + 1]? = some (.cells #[.int .i64 (tx : Int), .int .i64 (ty : Int), .int .i64 (lv : Int), .int .i64 (cw : Int), .int .i64 (ch : Int), .int .i64 15, .int .i64 (st : Int), .int .i64 (o5 : Int), .int .i64 (ly : Int), .bool rct, .bool fsop, .bool feph] 30 (0, 0))) (fun aF a' W' => ∃ AK cK, a' = (((((((((((aF.put (some 64) (.agg #[.int .i64 (On : Int), .int .i64 (Pn : Int), .int .i64 (X1 : Int), .int .i64 (Y1 : Int)])).put (some 65) (.agg #[.int .i64 (Xn : Int), .int .i64 (Yn : Int), .int .i64 (On : Int), .int .i64 (Pn : Int), .slice (some ⟨g, 0, none⟩) n c])).put (some 66) (.agg #[.int .i64 (tx : Int), .int .i64 (ty : Int), .int .i64 (lv : Int), .int .i64 (cw : Int), .int .i64 (ch : Int), .int .i64 15, .int .i64 (st : Int), .int .i64 (o5 : Int), .int .i64 (ly : Int), .bool rct, .bool fsop, .bool feph])).put (some 67) (.slice AK lm cK)).put (some 68) (.int .i64 (lm : Int))).put (some 69) (.int .i64 (m : Int))).put (some 70) (.pointer (some ⟨gm + 1, 8, none⟩))).put (some 71) (.int .i64 (ly : Int))).put (some 72) (.int .i64 (lm : Int))).put (some 73) (.bool true)).put (some 4) (.bool true)) ∧ Below wr.heap.size wr W') ⟨rt, im, pm⟩ (fun hS => ?_) ?_
      · skip
        have hSB : ∀ U : World, Below (wr.heap.size) wr U → U.heap[tb]? = some (.cells #[.int .i64 (On : Int), .int .i64 (Pn : Int), .int .i64 (X1 : Int), .int .i64 (Y1 : Int)] 38 (0, 0)) ∧ U.heap[gm]? = some (.cells #[.int .i64 (Xn : Int), .int .i64 (Yn : Int), .int .i64 (On : Int), .int .i64 (Pn : Int), .slice (some ⟨g, 0, none⟩) n c] 28 (0, 0)) ∧ U.heap[gm + 1]? = some (.cells #[.int .i64 (tx : Int), .int .i64 (ty : Int), .int .i64 (lv : Int), .int .i64 (cw : Int), .int .i64 (ch : Int), .int .i64 15, .int .i64 (st : Int), .int .i64 (o5 : Int), .int .i64 (ly : Int), .bool rct, .bool fsop, .bool feph] 30 (0, 0)) := fun U h => ⟨(h.block (tb) (by omega)).trans (rt), (h.block (gm) (by omega)).trans (im), (h.block (gm + 1) (by omega)).trans (pm)⟩
        have bV : Below wr.heap.size wr wr.drew := (Below.refl _ _).drew
        generalize wr.drew = V0 at *
        change wpAnyL _ _ _ _ _ 11 #[false, false, false, false, false, false, false, false, false, false, false] _ _
        refine wpAnyL_take (i := 0) (v := .agg #[.int .i64 (On : Int), .int .i64 (Pn : Int), .int .i64 (X1 : Int), .int .i64 (Y1 : Int)]) (by simp only [List.getElem?_toArray, List.getElem?_cons_succ, List.getElem?_cons_zero]; rfl) (by as_aux_lemma => kernel_rfl) (by as_aux_lemma => kernel_rfl) (by as_aux_lemma => kernel_rfl) (fun _ _ _ h => h) (Or.inl ⟨by rfl, ?_⟩) hS ?_
        · intro U hU
          obtain ⟨s0, s1, s2⟩ := hU
          exact exec_loadRow (cs := [.int .i64 (On : Int), .int .i64 (Pn : Int), .int .i64 (X1 : Int), .int .i64 (Y1 : Int)]) rfl rfl s0 (by kernel_rfl) (by kernel_rfl)
        simp only [Act.put, List.setIfInBounds_toArray, List.set_cons_zero, List.set_cons_succ]
        refine wpAnyL_take (i := 1) (v := .agg #[.int .i64 (Xn : Int), .int .i64 (Yn : Int), .int .i64 (On : Int), .int .i64 (Pn : Int), .slice (some ⟨g, 0, none⟩) n c]) (by simp only [List.getElem?_toArray, List.getElem?_cons_succ, List.getElem?_cons_zero]; rfl) (by as_aux_lemma => kernel_rfl) (by as_aux_lemma => kernel_rfl) (by as_aux_lemma => kernel_rfl) (fun _ _ _ h => h) (Or.inl ⟨by rfl, ?_⟩) hS ?_
        · intro U hU
          obtain ⟨s0, s1, s2⟩ := hU
          exact exec_loadRow (cs := [.int .i64 (Xn : Int), .int .i64 (Yn : Int), .int .i64 (On : Int), .int .i64 (Pn : Int), .slice (some ⟨g, 0, none⟩) n c]) rfl rfl s1 (by kernel_rfl) (by kernel_rfl)
        simp only [Act.put, List.setIfInBounds_toArray, List.set_cons_zero, List.set_cons_succ]
        refine wpAnyL_take (i := 2) (v := .agg #[.int .i64 (tx : Int), .int .i64 (ty : Int), .int .i64 (lv : Int), .int .i64 (cw : Int), .int .i64 (ch : Int), .int .i64 15, .int .i64 (st : Int), .int .i64 (o5 : Int), .int .i64 (ly : Int), .bool rct, .bool fsop, .bool feph]) (by simp only [List.getElem?_toArray, List.getElem?_cons_succ, List.getElem?_cons_zero]; rfl) (by as_aux_lemma => kernel_rfl) (by as_aux_lemma => kernel_rfl) (by as_aux_lemma => kernel_rfl) (fun _ _ _ h => h) (Or.inl ⟨by rfl, ?_⟩) hS ?_
        · intro U hU
          obtain ⟨s0, s1, s2⟩ := hU
          exact exec_loadRow (cs := [.int .i64 (tx : Int), .int .i64 (ty : Int), .int .i64 (lv : Int), .int .i64 (cw : Int), .int .i64 (ch : Int), .int .i64 15, .int .i64 (st : Int), .int .i64 (o5 : Int), .int .i64 (ly : Int), .bool rct, .bool fsop, .bool feph]) rfl rfl s2 (by kernel_rfl) (by kernel_rfl)
        simp only [Act.put, List.setIfInBounds_toArray, List.set_cons_zero, List.set_cons_succ]
        refine wpAnyL_take (i := 5) (v := .int .i64 (m : Int)) (by simp only [List.getElem?_toArray, List.getElem?_cons_succ, List.getElem?_cons_zero]; rfl) (by as_aux_lemma => kernel_rfl) (by as_aux_lemma => kernel_rfl) (by as_aux_lemma => kernel_rfl) (fun _ _ _ h => h) (Or.inl ⟨by rfl, ?_⟩) hS ?_
        · intro U hU
          obtain ⟨s0, s1, s2⟩ := hU
          kernel_rfl
        simp only [Act.put, List.setIfInBounds_toArray, List.set_cons_zero, List.set_cons_succ]
        refine wpAnyL_take (i := 6) (v := .pointer (some ⟨gm + 1, 8, none⟩)) (by simp only [List.getElem?_toArray, List.getElem?_cons_succ, List.getElem?_cons_zero]; rfl) (by as_aux_lemma => kernel_rfl) (by as_aux_lemma => kernel_rfl) (by as_aux_lemma => kernel_rfl) (fun _ _ _ h => h) (Or.inl ⟨by rfl, ?_⟩) hS ?_
        · intro U hU
          obtain ⟨s0, s1, s2⟩ := hU
          kernel_rfl
        simp only [Act.put, List.setIfInBounds_toArray, List.set_cons_zero, List.set_cons_succ]
        refine wpAnyL_take (i := 7) (v := .int .i64 (ly : Int)) (by simp only [List.getElem?_toArray, List.getElem?_cons_succ, List.getElem?_cons_zero]; rfl) (by as_aux_lemma => kernel_rfl) (by as_aux_lemma => kernel_rfl) (by as_aux_lemma => kernel_rfl) (fun _ _ _ h => h) (Or.inl ⟨by rfl, ?_⟩) hS ?_
        · intro U hU
          obtain ⟨s0, s1, s2⟩ := hU
          have r2_8 : U.cell? ⟨gm + 1, 8, none⟩ = some (.int .i64 (ly : Int)) := cell_of_row _ _ 8 _ _ (0, 0) s2
          exact exec_loadCell rfl rfl r2_8 (by kernel_rfl)
        simp only [Act.put, List.setIfInBounds_toArray, List.set_cons_zero, List.set_cons_succ]
        refine wpAnyL_take (i := 8) (v := .int .i64 (lm : Int)) (by simp only [List.getElem?_toArray, List.getElem?_cons_succ, List.getElem?_cons_zero]; rfl) (by as_aux_lemma => kernel_rfl) (by as_aux_lemma => kernel_rfl) (by as_aux_lemma => kernel_rfl) (fun _ _ _ h => h) (Or.inl ⟨by rfl, ?_⟩) hS ?_
        · intro U hU
          obtain ⟨s0, s1, s2⟩ := hU
          have z1 := WL.out
          go_simp
        simp only [Act.put, List.setIfInBounds_toArray, List.set_cons_zero, List.set_cons_succ]
        refine wpAnyL_ready (rs := [3]) (by as_aux_lemma => kernel_rfl) (by simp) ?_
        refine AllReadyL.cons (by simp only [List.getElem?_toArray, List.getElem?_cons_succ, List.getElem?_cons_zero]; rfl) (fun K' hK' => ?_) AllReadyL.nil
        go_simp
        go_at_call 13
        refine (HLs.out _ ((HCw.out.below ((bV).mono (by omega))).more (by have h7 := (bV).size; omega))).mono ?_
        rintro e' U3 ⟨K, AK, cK, rfl, hp, hs, own, hb3⟩
        have hKl : K.length = lm := by rw [hp.length_eq, HLM.out]
        rw [hKl]
        have b3 := below_trans bV hb3
        have hS := hSB _ b3
        dsimp only
        refine hK'.out _ _ hS (fun _ => ?_)
        clear hb3 own hp hs hKl
        clear hK' K'
        try simp only [Act.put, List.setIfInBounds_toArray, List.set_cons_zero, List.set_cons_succ]
        refine wpAnyL_take (i := 4) (v := .int .i64 (lm : Int)) (by simp only [List.getElem?_toArray, List.getElem?_cons_succ, List.getElem?_cons_zero]; rfl) (by as_aux_lemma => kernel_rfl) (by as_aux_lemma => kernel_rfl) (by as_aux_lemma => kernel_rfl) (fun _ _ _ h => h) (Or.inl ⟨by rfl, ?_⟩) hS ?_
        · intro U hU
          obtain ⟨s0, s1, s2⟩ := hU
          go_simp
        simp only [Act.put, List.setIfInBounds_toArray, List.set_cons_zero, List.set_cons_succ]
        refine wpAnyL_take (i := 9) (v := .bool true) (by simp only [List.getElem?_toArray, List.getElem?_cons_succ, List.getElem?_cons_zero]; rfl) (by as_aux_lemma => kernel_rfl) (by as_aux_lemma => kernel_rfl) (by as_aux_lemma => kernel_rfl) (fun _ _ _ h => h) (Or.inl ⟨by rfl, ?_⟩) hS ?_
        · intro U hU
          obtain ⟨s0, s1, s2⟩ := hU
          go_simp
        simp only [Act.put, List.setIfInBounds_toArray, List.set_cons_zero, List.set_cons_succ]
        refine wpAnyL_take (i := 10) (v := .bool true) (by simp only [List.getElem?_toArray, List.getElem?_cons_succ, List.getElem?_cons_zero]; rfl) (by as_aux_lemma => kernel_rfl) (by as_aux_lemma => kernel_rfl) (by as_aux_lemma => kernel_rfl) (fun _ _ _ h => h) (Or.inl ⟨by rfl, ?_⟩) hS ?_
        · intro U hU
          obtain ⟨s0, s1, s2⟩ := hU
          kernel_rfl
        simp only [Act.put, List.setIfInBounds_toArray, List.set_cons_zero, List.set_cons_succ]
        refine wpAnyL_done (by as_aux_lemma => kernel_rfl) ?_ _
        simp only [OnlyN]
        refine ⟨AK, cK, ?_, b3⟩
        (try simp only [Act.put, List.setIfInBounds_toArray, List.set_cons_zero, List.set_cons_succ])
      rintro a' Wz ⟨AK, cK, rfl, hz⟩
      simp only [Act.put, List.setIfInBounds_toArray, List.set_cons_zero, List.set_cons_succ]
      have bz := b6.trans ((HB.out.mono (by omega)).trans (hz.mono (by omega)))
      go_wp2_with fail
      go_ret
      exact ⟨rfl, by rw [hq]; exact bz⟩
end Go.Proofs.Ytpgkdpoehkdhcaa
