/- THE WALK OF waveletlaw12.CanvasPlaces. -/
import Derived.Test.YtmieoifagnpbiaaMake
import Derived.Test.YtmieoifagnpbiaaMadeLaw
import Derived.Test.YtmieoifagnpbiaaRTiles
import Derived.Test.YtmieoifagnpbiaaKnown12
import Derived.Test.YtmieoifagnpbiaaPl1
namespace Go.Proofs.Ytmieoifagnpbiaa
open Go.RowKit
attribute [local go_sem] opv opnd
set_option maxHeartbeats 40000000
set_option linter.unusedVariables false
set_option linter.unusedSimpArgs false
set_option maxRecDepth 100000

theorem wpList_val {P : Program} {ops : Array Oper} {rest : List Oper} {o : Oper} {a : Act} {Q : Exit → Act → World → Prop} {w : World} (hgd : o.guard = none) {v : Value} (h1 : (execOp a.eval o).run P w = .ok (.value v) w)
    (h : wpList P ops Q rest (a.put o.dst v) w) : wpList P ops Q (o :: rest) a w := by
  refine wpList_plain hgd fun K hK => ?_
  unfold Oper.wp
  simp only [h1]
  exact hK _ _ h
theorem byN_posP {n d : Nat} (hn : 1 ≤ n) (hd : 1 ≤ d) : 1 ≤ byN n d := by
  unfold byN
  exact (Nat.le_div_iff_mul_le (by omega)).2 (by omega)
theorem canPla_walk (fX fY fOx fOy fC fD fS : Int) (fsg frct fsop feph : Bool) (fTx fTy fL fcw fch fP fSt fO fLy : Int) (NA : Option Addr) (nN cN : Nat) (Nf : Nat → Int) (w : World) (hN : IntsAt w w.heap.size NA nN Nf) (hNf : ∀ k, k < nN → -9223372036854775808 ≤ Nf k ∧ Nf k ≤ 9223372036854775807) (hNn : nN ≤ 9223372036854775807) (hSb : -9223372036854775808 ≤ fS ∧ fS ≤ 9223372036854775807) :
    Calls Try.prog 7 #[.agg #[.int .i64 fX, .int .i64 fY, .int .i64 fOx, .int .i64 fOy, .int .i64 fC, .int .i64 fD, .int .i64 fS, .bool fsg, .bool frct, .bool fsop, .bool feph, .int .i64 fTx, .int .i64 fTy, .int .i64 fL, .int .i64 fcw, .int .i64 fch, .int .i64 fP, .int .i64 fSt, .int .i64 fO, .int .i64 fLy, .slice NA nN cN]] w fun e' w' => e' = .returned (.bool true) ∧ Below w.heap.size w w' := by
  have HMk := Lib.hid (fun (v : World) (h : IntsAt v v.heap.size NA nN Nf) => make_any fX fY fOx fOy fC fD fS fsg frct fsop feph fTx fTy fL fcw fch fP fSt fO fLy NA nN cN Nf 16 (by omega) (by omega) v h hNf hNn hSb)
  rw [show ((16 : Nat) : Int) = 16 from rfl] at HMk
  have HN := Lib.hid hN
  clear hN hNf hNn hSb
  go_enter Try.func7, Try.ntmps7
  go_wp2_with fail
  obtain ⟨q, hq⟩ : ∃ q, w.heap.size = q := ⟨_, rfl⟩
  generalize hw0 : World.alloc w _ = W0
  have f0 : W0.heap[q]? = some (.cells #[.int .i64 fX, .int .i64 fY, .int .i64 fOx, .int .i64 fOy, .int .i64 fC, .int .i64 fD, .int .i64 fS, .bool fsg, .bool frct, .bool fsop, .bool feph, .int .i64 fTx, .int .i64 fTy, .int .i64 fL, .int .i64 fcw, .int .i64 fch, .int .i64 fP, .int .i64 fSt, .int .i64 fO, .int .i64 fLy, .slice NA nN cN] 39 (0, 0)) := by rw [← hw0, ← hq]; exact heap_alloc_new w _
  have z0 : W0.heap.size = q + 1 := by rw [← hw0, ← hq]; simp
  have b0 : Below q w W0 := by rw [← hw0, ← hq]; exact below_alloc (Below.refl _ _) _
  clear hw0
  refine (known12 _).mono ?_
  rintro e' W1 ⟨rfl, h1⟩
  have f1 := (h1.block q (by omega)).trans f0
  have b1 := b0.trans (h1.mono (by omega))
  have z1 : q + 1 ≤ W1.heap.size := by have := h1.size; omega
  clear h1 f0 b0 z0
  go_upto_region 3 with fail
  refine wp_region_lit ?_
  refine wpList_loadRow rfl rfl rfl f1 (by kernel_rfl) (by kernel_rfl) ?_
  go_wp2_with fail
  refine (HMk.out W1 ((HN.out.below (by rw [hq]; exact b1)).more (by have := b1.size; omega))).mono ?_
  rintro e' W2 ⟨Xn, Yn, On, Pn, tx, ty, lv, cw, ch, pr, st, od, ly, n, dn, rct, PL, A, c, F, G, rfl, hP, hI, h2⟩
  have b2 := b1.trans (h2.mono (by omega))
  have z2 : q + 1 ≤ W2.heap.size := by have := h2.size; omega
  have hI := hI.mono z1
  clear h2 b1 f1
  have HP := Lib.hid hP
  have HI := Lib.hid hI
  clear hP hI HMk HN
  unfold imgV parV
  go_upto_region 4 with fail
  obtain ⟨gm, hgm⟩ : ∃ g, W2.heap.size = g := ⟨_, rfl⟩
  generalize hV3 : World.alloc (World.alloc W2 _) _ = V3
  have img : V3.heap[gm]? = some (.cells #[.int .i64 Xn, .int .i64 Yn, .int .i64 On, .int .i64 Pn, .slice A n c] 25 (0, 0)) := by rw [← hV3, ← hgm]; exact (Below.heap_alloc _ _ _ (by simp)).trans (heap_alloc_new W2 _)
  have par : V3.heap[gm + 1]? = some (.cells #[.int .i64 tx, .int .i64 ty, .int .i64 lv, .int .i64 cw, .int .i64 ch, .int .i64 pr, .int .i64 st, .int .i64 od, .int .i64 ly, .bool rct, .bool fsop, .bool feph] 27 (0, 0)) := by rw [← hV3, ← hgm]; exact heap_alloc_new2 W2 _ _
  have h3 : Below gm W2 V3 := by rw [← hV3, ← hgm]; exact below_alloc (below_alloc (Below.refl _ _) _) _
  have z3 : V3.heap.size = gm + 2 := by rw [← hV3, ← hgm]; simp
  rw [hgm] at z2 ⊢
  clear hV3
  have HI3 := Lib.hid (HI.out.below (by rw [hgm]; exact h3))
  have b3 := b2.trans (h3.mono (by omega))
  clear HI b2 h3
  have hP := HP.out
  obtain ⟨o1, o2⟩ := hP.on
  obtain ⟨x1, x2, x3, x4⟩ := hP.xs
  obtain ⟨t1, t2, t3, t4⟩ := hP.ts
  obtain ⟨m1, m2, m3⟩ := hP.num
  obtain ⟨d1, d2, d3, d4, d5, d6, d7, d8, d9, d10, d11⟩ := hP.bds
  have hT6 := hP.tiles
  have hway := made_ways hP
  have hF : ∀ j, j < n → (1 ≤ (F j).dx ∧ (F j).dx ≤ 4) ∧ (1 ≤ (F j).dy ∧ (F j).dy ≤ 4) := fun j hj => by
    have h1 := (HI3.out.good j hj).dx
    have h2 := (HI3.out.good j hj).dy
    omega
  obtain ⟨hca, hnc⟩ := HI3.out.compsAt
  have HTl := Lib.hid (fun (v : World) (h : CompsAt v v.heap.size A n F) => tiles_any Xn Yn On Pn A n c F tx ty lv cw ch pr st od ly rct fsop feph v h hnc (made_frame hP (by omega) (fun j hj => HI3.out.good j hj)) _ _ rfl rfl)
  simp only [Int.toNat_natCast] at HTl
  have HTr := Lib.hid (fun (v : World) => rtiles_any Xn Yn On Pn tx ty A n c lv cw ch pr st od ly rct fsop feph (by omega) (by omega) (by omega) (by omega) (by omega) (by omega) (by omega) (by omega) v _ _ rfl rfl)
  obtain ⟨NT, hNTd⟩ : ∃ z, byN Xn tx * byN Yn ty = z := ⟨_, rfl⟩
  have hNT : 0 < NT := by rw [← hNTd]; exact Nat.mul_pos (byN_posP (by omega) (by omega)) (byN_posP (by omega) (by omega))
  rw [hNTd] at HTl HTr hT6
  unfold imgV parV at HTl HTr
  have HCA := Lib.hid hca
  have HWAY := Lib.hid hway
  have HF := Lib.hid hF
  have HNT := Lib.hid hNTd
  have hsz : gm + 2 ≤ V3.heap.size := by omega
  clear hway hF hNTd m3 HI3
  refine wp_region_lit ?_
  refine wpList_loadRow rfl rfl rfl img (by kernel_rfl) (by kernel_rfl) ?_
  refine wpList_loadRow rfl rfl rfl par (by kernel_rfl) (by kernel_rfl) ?_
  clear hca
  go_wp2_with fail
  refine (HTl.out _ HCA.out).mono ?_
  rintro e' V4 ⟨At, cT, rfl, oT, h4⟩
  have img4 := (h4.block gm (by omega)).trans img
  have par4 := (h4.block (gm + 1) (by omega)).trans par
  have b4 := b3.trans (h4.mono (by omega))
  have sz4 := h4.size
  have HCA4 := Lib.hid (HCA.out.below h4)
  obtain ⟨bt, ot, hAt, hbt, _⟩ := oT.at_.at_ (k := 0) hNT
  subst hAt
  have HT4 := Lib.hid oT.at_
  clear img par b3 h4 HCA HTl oT
  go_upto_region 5 with fail
  refine wp_region_lit ?_
  refine wpList_val rfl (v := .slice (some ⟨bt, ot, none⟩) NT cT) (by kernel_rfl) ?_
  refine wpList_loadRow rfl rfl (by kernel_rfl) img4 (by kernel_rfl) (by kernel_rfl) ?_
  refine wpList_loadRow rfl rfl (by kernel_rfl) par4 (by kernel_rfl) (by kernel_rfl) ?_
  go_wp2_with fail
  refine (HTr.out _).mono ?_
  rintro e' V5 ⟨Bt, cU, rfl, oU, h5⟩
  have img5 := (h5.block gm (by omega)).trans img4
  have par5 := (h5.block (gm + 1) (by omega)).trans par4
  have b5 := b4.trans (h5.mono (by omega))
  have sz5 := h5.size
  have HCA5 := Lib.hid ((HCA4.out.more sz4).below h5)
  have HT5 := Lib.hid (HT4.out.below h5)
  have HU5 := Lib.hid oU.at_
  clear img4 par4 b4 h5 HCA4 HT4 HTr oU
  have HR := Lib.hid (rects12 (some ⟨bt, ot, none⟩) Bt NT cT cU _ V5 _ _ HT5.out HU5.out (by omega))
  go_wp2_with fail
  refine HR.out.mono ?_
  rintro e' w'' ⟨rfl, qq, rfl⟩
  have h6 := below_drewN (Below.refl V5.heap.size V5) qq
  have s6 : V5.heap.size ≤ (V5.drewN qq).heap.size := h6.size
  generalize hV6 : World.drewN V5 qq = V6 at *
  have img6 := (h6.block gm (by omega)).trans img5
  have par6 := (h6.block (gm + 1) (by omega)).trans par5
  have b6 := b5.trans (h6.mono (by omega))
  have hca6 := ((HCA5.out.more (Nat.le_trans (by omega) sz5)).below h6).more s6
  have hT6' := ((HT5.out.more sz5).below h6).more s6
  clear img5 par5 b5 HCA5 HT5 HU5 HR hV6
  go_wp2_with fail
  refine pl1 gm (gm + 1) bt ot NT cT Xn Yn On Pn A n c F tx ty lv cw ch pr st od ly rct fsop feph V6 (by omega) (by omega) (by omega) (by omega) (by omega) (by omega) HNT.out (by omega) (by omega) (by omega) (by omega) ⟨by omega, by omega⟩ HWAY.out (by omega) HF.out img6 par6 hT6' hca6 _ ?_
  intro u2 u6 u7 u8 u9 u10 u11 u12 u13 u14 u15 u16 u17 u18 u19 u20 u21 u22 u23 u24 u41 u42 u43 u44 u45 u46 u47 u48 u49 u50 u51 u52 u53 u54 u55 u56 u57 u58 u59 u60 u61 u62 u63 u64 u65 u66 u67 u68 u69 u70 u71 u72 u73 u74 u75 u76 u77 u78 u79 u80 u81 u82 u83 u84 u85 u86 u87 u88 u89 u90 u91 u92 u93 u94 u95 u96 u97 u98 u99 u100 u101 u102 u103 u104 u105 u106 u107 u108 u109 u110 u111 u112 u113 u114 u115 u116 u117 u118 u119 u120 u121 u122 u123 u124 u125 u126 u127 u128 u129 u130 u131 u132 u133 u134 u135 u136 u137 u138 u139 u140 u141 u142 u143 u144 u145 u146 u147 u148 u149 u150 u151 u152 u153 u154 u155 u156 u157 u158 u159 u160 u161 u162 u163 u164 u165 u166 u167 u168 u169 u170 u171 u172 u173 u174 u175 u176 u177 u178 u179 u180 u181 u182 u183 u184 u185 u186 u187 u188 u189 u190 u191 u192 u193 u194 u195 u196 u197 u198 u199 u200 u201 u202 u203 u204 u205 u206 u207 u208 u209 wz hbi
  have bz := b6.trans (hbi.mono (by omega))
  clear img6 par6 hca6 hT6' hbi b6
  go_wp2_with fail
  go_ret
  exact ⟨rfl, by rw [hq]; exact bz⟩
end Go.Proofs.Ytmieoifagnpbiaa
