/- THE WALK OF waveletlaw12.CanvasChecks. -/
import Derived.Test.YtmieoifagnpbiaaMake
import Derived.Test.YtmieoifagnpbiaaMadeLaw
import Derived.Test.YtmieoifagnpbiaaKnown12
import Derived.Test.YtmieoifagnpbiaaFew12
import Derived.Test.YtmieoifagnpbiaaChkFive
import Derived.Test.YtmieoifagnpbiaaChkSw
namespace Go.Proofs.Ytmieoifagnpbiaa
open Go.RowKit
attribute [local go_sem] opv opnd
set_option maxHeartbeats 40000000
set_option linter.unusedVariables false
set_option linter.unusedSimpArgs false
set_option maxRecDepth 100000
theorem canChk_walk (m0 m1 m2 m3 : Int) (IA : Option Addr) (In Ic : Nat) (IF : Nat → CompD) (IG : Nat → Nat → Int) (b0 b1 b2 b3 b4 b5 b6 b7 b8 : Int) (b9 b10 b11 : Bool) (fX fY fOx fOy fC fD fS : Int) (fsg frct fsop feph : Bool) (fTx fTy fL fcw fch fP fSt fO fLy : Int) (NA : Option Addr) (nN cN : Nat) (Nf : Nat → Int) (which nn : Int) (w : World) (hN : IntsAt w w.heap.size NA nN Nf) (hNf : ∀ k, k < nN → -9223372036854775808 ≤ Nf k ∧ Nf k ≤ 9223372036854775807) (hNn : nN ≤ 9223372036854775807) (hSb : -9223372036854775808 ≤ fS ∧ fS ≤ 9223372036854775807)
    (hi : In ≤ Ic ∧ Ic ≤ maxLen ∧ CompsAt w w.heap.size IA In IF ∧ (∀ k, k < In → IntsAt w w.heap.size (IF k).A (IF k).n (IG k)) ∧ ∀ k, k < In → (IF k).n ≤ 9223372036854775807) (hw1 : -9223372036854775808 ≤ which ∧ which ≤ 9223372036854775807) (hw2 : -9223372036854775808 ≤ nn ∧ nn ≤ 9223372036854775807) :
    Calls Try.prog 5 #[.agg #[.int .i64 m0, .int .i64 m1, .int .i64 m2, .int .i64 m3, .slice IA In Ic], .agg #[.int .i64 b0, .int .i64 b1, .int .i64 b2, .int .i64 b3, .int .i64 b4, .int .i64 b5, .int .i64 b6, .int .i64 b7, .int .i64 b8, .bool b9, .bool b10, .bool b11], .agg #[.int .i64 fX, .int .i64 fY, .int .i64 fOx, .int .i64 fOy, .int .i64 fC, .int .i64 fD, .int .i64 fS, .bool fsg, .bool frct, .bool fsop, .bool feph, .int .i64 fTx, .int .i64 fTy, .int .i64 fL, .int .i64 fcw, .int .i64 fch, .int .i64 fP, .int .i64 fSt, .int .i64 fO, .int .i64 fLy, .slice NA nN cN], .int .i64 which, .int .i64 nn] w fun e' w' => e' = .returned (.bool true) ∧ Below w.heap.size w w' := by
  obtain ⟨hic, hicm, hca, hig, hin⟩ := hi
  have HMk := Lib.hid (fun (v : World) (h : IntsAt v v.heap.size NA nN Nf) => make_any fX fY fOx fOy fC fD fS fsg frct fsop feph fTx fTy fL fcw fch fP fSt fO fLy NA nN cN Nf 12 (by omega) (by omega) v h hNf hNn hSb)
  rw [show (((12 : Nat) : Int)) = 12 from rfl] at HMk
  have HN := Lib.hid hN
  have HCA := Lib.hid hca
  have HIG := Lib.hid hig
  have HIN := Lib.hid hin
  clear hN hNf hNn hSb hca hig hin
  go_enter Try.func5, Try.ntmps5
  go_upto_region 1 with fail
  obtain ⟨q, hq⟩ : ∃ q, w.heap.size = q := ⟨_, rfl⟩
  generalize hW0 : World.alloc (World.alloc (World.alloc w _) _) _ = W0
  have im0 : W0.heap[q]? = some (.cells #[.int .i64 m0, .int .i64 m1, .int .i64 m2, .int .i64 m3, .slice IA In Ic] 25 (0, 0)) := by rw [← hW0, ← hq]; exact (Below.heap_alloc _ _ _ (by simp; omega)).trans ((Below.heap_alloc _ _ _ (by simp)).trans (heap_alloc_new w _))
  have z0 : W0.heap.size = q + 3 := by rw [← hW0, ← hq]; simp
  have b_0 : Below q w W0 := by rw [← hW0, ← hq]; exact below_alloc (below_alloc (below_alloc (Below.refl _ _) _) _) _
  have pa0 : W0.heap[q + 1]? = some (.cells #[.int .i64 b0, .int .i64 b1, .int .i64 b2, .int .i64 b3, .int .i64 b4, .int .i64 b5, .int .i64 b6, .int .i64 b7, .int .i64 b8, .bool b9, .bool b10, .bool b11] 27 (0, 0)) := by rw [← hW0, ← hq]; exact (Below.heap_alloc _ _ _ (by simp)).trans (heap_alloc_new2 w _ _)
  have fo0 : W0.heap[q + 2]? = some (.cells #[.int .i64 fX, .int .i64 fY, .int .i64 fOx, .int .i64 fOy, .int .i64 fC, .int .i64 fD, .int .i64 fS, .bool fsg, .bool frct, .bool fsop, .bool feph, .int .i64 fTx, .int .i64 fTy, .int .i64 fL, .int .i64 fcw, .int .i64 fch, .int .i64 fP, .int .i64 fSt, .int .i64 fO, .int .i64 fLy, .slice NA nN cN] 39 (0, 0)) := by rw [← hW0, ← hq]; exact (by simpa using heap_alloc_new (World.alloc (World.alloc w _) _) _)
  clear hW0
  rw [hq]
  go_wp2_with fail
  refine (known12 _).mono ?_
  rintro e' W1 ⟨rfl, h1⟩
  have im1 := (h1.block q (by omega)).trans im0
  have pa1 := (h1.block (q + 1) (by omega)).trans pa0
  have fo1 := (h1.block (q + 2) (by omega)).trans fo0
  have b_1 := b_0.trans (h1.mono (by omega))
  have z1 : q + 3 ≤ W1.heap.size := by have := h1.size; omega
  have hq1 : w.heap.size ≤ W1.heap.size := by omega
  have HCA1 := Lib.hid ((HCA.out.below (by rw [hq]; exact b_1)).more hq1)
  have HIG1 := Lib.hid (fun k hk => ((HIG.out k hk).below (by rw [hq]; exact b_1)).more hq1)
  clear h1 im0 pa0 b_0 z0 fo0
  go_upto_region 3 with fail
  refine wp_region_lit ?_
  refine wpList_loadRow rfl rfl (by kernel_rfl) im1 (by kernel_rfl) (by kernel_rfl) ?_
  go_wp2_with fail
  have hin4 : In ≤ 9223372036854775807 := by unfold maxLen at hicm; omega
  refine (few_any m0 m1 m2 m3 IA In Ic IF W1 HCA1.out hin4).mono ?_
  rintro e' W2 ⟨rfl, h2⟩
  have im2 := (h2.block q (by omega)).trans im1
  have pa2 := (h2.block (q + 1) (by omega)).trans pa1
  have fo2 := (h2.block (q + 2) (by omega)).trans fo1
  have b_2 := b_1.trans (h2.mono (by omega))
  have z2 : q + 3 ≤ W2.heap.size := by have := h2.size; omega
  have HCA2 := Lib.hid ((HCA1.out.below h2).more h2.size)
  have HIG2 := Lib.hid (fun k hk => ((HIG1.out k hk).below h2).more h2.size)
  clear h2 im1 pa1 b_1 z1 HCA1 HIG1 fo1
  cases hfew : fewB In IF with
  | false =>
    go_wp2_with fail
    go_ret
    exact ⟨rfl, by first | exact b_2 | (rw [hq]; exact b_2)⟩
  | true =>
    obtain ⟨hn6, hsm⟩ := fewB_at hfew
    clear hfew
    go_upto_region 5 with fail
    refine chk_five q (q + 1) m0 m1 m2 m3 IA In Ic b0 b1 b2 b3 b4 b5 b6 b7 b8 b9 b10 b11 IF IG W2 im2 pa2 HCA2.out hic HIG2.out (fun k hk => Nat.le_trans (hsm k hk) (by decide)) _ ?_
    intro u21 u22 u23 u24 u25 u26 u27 u28 u29 u30 u31 u32 u33 u34 u35 W3 h3
    have fo3 := (h3.block (q + 2) (by omega)).trans fo2
    have b_3 := b_2.trans (h3.mono (by omega))
    have z_3 : q + 3 ≤ W3.heap.size := by have := h3.size; omega
    clear h3 im2 pa2 b_2 fo2 HCA2 HIG2 HCA HIG HIN hic hicm hsm hn6 hin4 z2
    go_upto_region 7 with fail
    refine wp_region_lit ?_
    refine wpList_loadRow rfl rfl rfl fo3 (by kernel_rfl) (by kernel_rfl) ?_
    go_wp2_with fail
    refine (HMk.out W3 ((HN.out.below (by rw [hq]; exact b_3)).more (by omega))).mono ?_
    rintro e' W4 ⟨Xn, Yn, On, Pn, tx, ty, lv, cw, ch, pr, st, od, ly, n, dn, rct, PL, A, c, F, G, rfl, hP, hI, h4⟩
    have b_4 := b_3.trans (h4.mono (by omega))
    have z_4 : q + 3 ≤ W4.heap.size := by have := h4.size; omega
    have hI := hI.mono (show q ≤ W3.heap.size by omega)
    clear h4 b_3 fo3 HN HMk z_3
    have hsmall := made_small hP (by omega) hI
    have hnum : 1 ≤ n ∧ n ≤ 4 := ⟨hP.num.1, hP.num.2.1⟩
    have hcap := hI.compsAt.2
    obtain ⟨g, rfl, hgq, hg4⟩ := hI.comps.row (by omega)
    have HP := Lib.hid hP
    have HI := Lib.hid hI
    clear hP hI
    unfold imgV parV
    go_upto_region 8 with fail
    obtain ⟨gm, hgm⟩ : ∃ g, W4.heap.size = g := ⟨_, rfl⟩
    generalize hV5 : World.alloc (World.alloc W4 _) _ = W5
    have img : W5.heap[gm]? = some (.cells #[.int .i64 Xn, .int .i64 Yn, .int .i64 On, .int .i64 Pn, .slice (some ⟨g, 0, none⟩) n c] 25 (0, 0)) := by rw [← hV5, ← hgm]; exact (Below.heap_alloc _ _ _ (by simp)).trans (heap_alloc_new W4 _)
    have par : W5.heap[gm + 1]? = some (.cells #[.int .i64 tx, .int .i64 ty, .int .i64 lv, .int .i64 cw, .int .i64 ch, .int .i64 pr, .int .i64 st, .int .i64 od, .int .i64 ly, .bool rct, .bool fsop, .bool feph] 27 (0, 0)) := by rw [← hV5, ← hgm]; exact heap_alloc_new2 W4 _ _
    have h5 : Below gm W4 W5 := by rw [← hV5, ← hgm]; exact below_alloc (below_alloc (Below.refl _ _) _) _
    have z5 : W5.heap.size = gm + 2 := by rw [← hV5, ← hgm]; simp
    rw [hgm] at z_4 hg4 ⊢
    clear hV5
    have b_5 := b_4.trans (h5.mono (by omega))
    have HI5 := Lib.hid (And.intro (HI.out.below (by rw [hgm]; exact h5)) (show PicAt W5 gm (some ⟨g, 0, none⟩) n c F G by rw [← hgm]; exact (pic_of HI.out hsmall).below (by rw [hgm]; exact h5)))
    clear b_4 h5
    have HME := Lib.hid (And.intro (made_check HP.out (by omega) HI.out.good) (made_frame HP.out (by omega) HI.out.good))
    refine wp_region_lit ?_
    refine wpList_loadRow rfl rfl (by kernel_rfl) img (by kernel_rfl) (by kernel_rfl) ?_
    refine wpList_loadRow rfl rfl (by kernel_rfl) par (by kernel_rfl) (by kernel_rfl) ?_
    go_wp2_with fail
    refine (check_any Xn Yn On Pn (some ⟨g, 0, none⟩) n c F G tx ty lv cw ch pr st od ly rct fsop feph W5 (HI5.out.2.1.more (by omega)) hcap (fun k hk => (HI5.out.2.2.2.1 k hk).more (by omega)) HI5.out.2.2.2.2).mono ?_
    rintro e' W6 ⟨rfl, h6⟩
    rw [HME.out.1]
    have img6 := (h6.block gm (by omega)).trans img
    have par6 := (h6.block (gm + 1) (by omega)).trans par
    have b_6 := b_5.trans (h6.mono (by omega))
    have z6 : gm + 2 ≤ W6.heap.size := by have := h6.size; omega
    have HI6 := Lib.hid (And.intro (HI5.out.1.below h6) (HI5.out.2.below (h6.mono (by omega))))
    clear h6 img par b_5 HI5 z5
    have mc0 : W6.cell? ⟨gm, 0, none⟩ = some (.int .i64 Xn) := cell_of_row _ _ 0 _ _ (0, 0) img6
    have mc1 : W6.cell? ⟨gm, 1, none⟩ = some (.int .i64 Yn) := cell_of_row _ _ 1 _ _ (0, 0) img6
    have mc2 : W6.cell? ⟨gm, 2, none⟩ = some (.int .i64 On) := cell_of_row _ _ 2 _ _ (0, 0) img6
    have mc3 : W6.cell? ⟨gm, 3, none⟩ = some (.int .i64 Pn) := cell_of_row _ _ 3 _ _ (0, 0) img6
    have mc4 : W6.cell? ⟨gm, 4, none⟩ = some (.slice (some ⟨g, 0, none⟩) n c) := cell_of_row _ _ 4 _ _ (0, 0) img6
    have pc0 : W6.cell? ⟨gm + 1, 0, none⟩ = some (.int .i64 tx) := cell_of_row _ _ 0 _ _ (0, 0) par6
    have pc1 : W6.cell? ⟨gm + 1, 1, none⟩ = some (.int .i64 ty) := cell_of_row _ _ 1 _ _ (0, 0) par6
    have pc2 : W6.cell? ⟨gm + 1, 2, none⟩ = some (.int .i64 lv) := cell_of_row _ _ 2 _ _ (0, 0) par6
    have pc3 : W6.cell? ⟨gm + 1, 3, none⟩ = some (.int .i64 cw) := cell_of_row _ _ 3 _ _ (0, 0) par6
    have pc4 : W6.cell? ⟨gm + 1, 4, none⟩ = some (.int .i64 ch) := cell_of_row _ _ 4 _ _ (0, 0) par6
    have pc5 : W6.cell? ⟨gm + 1, 5, none⟩ = some (.int .i64 pr) := cell_of_row _ _ 5 _ _ (0, 0) par6
    have pc6 : W6.cell? ⟨gm + 1, 6, none⟩ = some (.int .i64 st) := cell_of_row _ _ 6 _ _ (0, 0) par6
    have pc7 : W6.cell? ⟨gm + 1, 7, none⟩ = some (.int .i64 od) := cell_of_row _ _ 7 _ _ (0, 0) par6
    have pc8 : W6.cell? ⟨gm + 1, 8, none⟩ = some (.int .i64 ly) := cell_of_row _ _ 8 _ _ (0, 0) par6
    have pc9 : W6.cell? ⟨gm + 1, 9, none⟩ = some (.bool rct) := cell_of_row _ _ 9 _ _ (0, 0) par6
    have pc10 : W6.cell? ⟨gm + 1, 10, none⟩ = some (.bool fsop) := cell_of_row _ _ 10 _ _ (0, 0) par6
    have pc11 : W6.cell? ⟨gm + 1, 11, none⟩ = some (.bool feph) := cell_of_row _ _ 11 _ _ (0, 0) par6
    go_wp2_with fail
    clear mc0 mc1 mc2 mc3 mc4 pc0 pc1 pc2 pc3 pc4 pc5 pc6 pc7 pc8 pc9 pc10 pc11
    refine (frame_any Xn Yn On Pn (some ⟨g, 0, none⟩) n c F tx ty lv cw ch pr st od ly rct fsop feph W6 (HI6.out.2.1.more (by omega)) hcap).mono ?_
    rintro e' W7 ⟨rfl, h7⟩
    rw [HME.out.2]
    have img7 := (h7.block gm (by omega)).trans img6
    have par7 := (h7.block (gm + 1) (by omega)).trans par6
    have b_7 := b_6.trans (h7.mono (by omega))
    have z7 : gm + 2 ≤ W7.heap.size := by have := h7.size; omega
    have HI7 := Lib.hid (And.intro (HI6.out.1.below h7) (HI6.out.2.below (h7.mono (by omega))))
    clear h7 img6 par6 b_6 HI6 z6 HME
    go_upto_region 10 with fail
    obtain ⟨kc, hkc, hke, HK0⟩ := within12v nn n (n : Int) rfl (by omega) (by omega)
    have HK := Lib.hid HK0
    clear HK0 hke
    refine last_cut (by kernel_rfl) (fun U => U.heap[gm]? = some (.cells #[.int .i64 Xn, .int .i64 Yn, .int .i64 On, .int .i64 Pn, .slice (some ⟨g, 0, none⟩) n c] 25 (0, 0))) (fun aF a' W' => a' = (((((((((aF.put (some 52) (.pointer (some ⟨gm, 4, none⟩))).put (some 53) (.slice (some ⟨g, 0, none⟩) n c)).put (some 54) (.int .i64 nn)).put (some 55) (.pointer (some ⟨gm, 4, none⟩))).put (some 56) (.slice (some ⟨g, 0, none⟩) n c)).put (some 57) (.int .i64 (n : Int))).put (some 58) (.int .i64 (kc : Int))).put (some 59) (.pointer (some ⟨g, kc * 5, none⟩))).put (some 13) (.pointer (some ⟨g, kc * 5, none⟩))) ∧ Below W7.heap.size W7 W') (img7) (fun hS => ?_) ?_
    · skip
      have hSB : ∀ U : World, Below (W7.heap.size) W7 U → U.heap[gm]? = some (.cells #[.int .i64 Xn, .int .i64 Yn, .int .i64 On, .int .i64 Pn, .slice (some ⟨g, 0, none⟩) n c] 25 (0, 0)) := fun U h => ((h.block (gm) (by omega)).trans (img7))
      have bV : Below W7.heap.size W7 W7.drew := (Below.refl _ _).drew
      generalize W7.drew = V0 at *
      change wpAnyL _ _ _ _ _ 9 #[false, false, false, false, false, false, false, false, false] _ _
      refine wpAnyL_take (i := 0) (v := .pointer (some ⟨gm, 4, none⟩)) (by simp only [List.getElem?_toArray, List.getElem?_cons_succ, List.getElem?_cons_zero]; rfl) (by as_aux_lemma => kernel_rfl) (by as_aux_lemma => kernel_rfl) (by as_aux_lemma => kernel_rfl) (fun _ _ _ h => h) (Or.inl ⟨by rfl, ?_⟩) hS ?_
      · intro U hU
        have s0 := hU
        show _ = _
        kernel_rfl
      simp only [Act.put, List.setIfInBounds_toArray, List.set_cons_zero, List.set_cons_succ]
      refine wpAnyL_take (i := 1) (v := .slice (some ⟨g, 0, none⟩) n c) (by simp only [List.getElem?_toArray, List.getElem?_cons_succ, List.getElem?_cons_zero]; rfl) (by as_aux_lemma => kernel_rfl) (by as_aux_lemma => kernel_rfl) (by as_aux_lemma => kernel_rfl) (fun _ _ _ h => h) (Or.inl ⟨by rfl, ?_⟩) hS ?_
      · intro U hU
        have s0 := hU
        show _ = _
        have r0_4 : U.cell? ⟨gm, 4, none⟩ = some (.slice (some ⟨g, 0, none⟩) n c) := cell_of_row _ _ 4 _ _ (0, 0) s0
        exact exec_loadCell rfl rfl r0_4 (by kernel_rfl)
      simp only [Act.put, List.setIfInBounds_toArray, List.set_cons_zero, List.set_cons_succ]
      refine wpAnyL_take (i := 2) (v := .int .i64 nn) (by simp only [List.getElem?_toArray, List.getElem?_cons_succ, List.getElem?_cons_zero]; rfl) (by as_aux_lemma => kernel_rfl) (by as_aux_lemma => kernel_rfl) (by as_aux_lemma => kernel_rfl) (fun _ _ _ h => h) (Or.inl ⟨by rfl, ?_⟩) hS ?_
      · intro U hU
        have s0 := hU
        show _ = _
        kernel_rfl
      simp only [Act.put, List.setIfInBounds_toArray, List.set_cons_zero, List.set_cons_succ]
      refine wpAnyL_take (i := 3) (v := .pointer (some ⟨gm, 4, none⟩)) (by simp only [List.getElem?_toArray, List.getElem?_cons_succ, List.getElem?_cons_zero]; rfl) (by as_aux_lemma => kernel_rfl) (by as_aux_lemma => kernel_rfl) (by as_aux_lemma => kernel_rfl) (fun _ _ _ h => h) (Or.inl ⟨by rfl, ?_⟩) hS ?_
      · intro U hU
        have s0 := hU
        show _ = _
        kernel_rfl
      simp only [Act.put, List.setIfInBounds_toArray, List.set_cons_zero, List.set_cons_succ]
      refine wpAnyL_take (i := 4) (v := .slice (some ⟨g, 0, none⟩) n c) (by simp only [List.getElem?_toArray, List.getElem?_cons_succ, List.getElem?_cons_zero]; rfl) (by as_aux_lemma => kernel_rfl) (by as_aux_lemma => kernel_rfl) (by as_aux_lemma => kernel_rfl) (fun _ _ _ h => h) (Or.inl ⟨by rfl, ?_⟩) hS ?_
      · intro U hU
        have s0 := hU
        show _ = _
        have r0_4 : U.cell? ⟨gm, 4, none⟩ = some (.slice (some ⟨g, 0, none⟩) n c) := cell_of_row _ _ 4 _ _ (0, 0) s0
        exact exec_loadCell rfl rfl r0_4 (by kernel_rfl)
      simp only [Act.put, List.setIfInBounds_toArray, List.set_cons_zero, List.set_cons_succ]
      refine wpAnyL_take (i := 5) (v := .int .i64 (n : Int)) (by simp only [List.getElem?_toArray, List.getElem?_cons_succ, List.getElem?_cons_zero]; rfl) (by as_aux_lemma => kernel_rfl) (by as_aux_lemma => kernel_rfl) (by as_aux_lemma => kernel_rfl) (fun _ _ _ h => h) (Or.inl ⟨by rfl, ?_⟩) hS ?_
      · intro U hU
        have s0 := hU
        show _ = _
        go_simp
      simp only [Act.put, List.setIfInBounds_toArray, List.set_cons_zero, List.set_cons_succ]
      refine wpAnyL_call (i := 6) (v := .int .i64 (kc : Int)) (f := 12) (args := #[.int .i64 nn, .int .i64 (n : Int)]) (by simp only [List.getElem?_toArray, List.getElem?_cons_succ, List.getElem?_cons_zero]; rfl) (by as_aux_lemma => kernel_rfl) (by as_aux_lemma => kernel_rfl) (by as_aux_lemma => kernel_rfl) (fun _ _ _ h => h) (by rfl) (fun w => HK.out w) ?_ hS ?_
      · intro U hU
        have s0 := hU
        show _ = _
        go_simp
      simp only [Act.put, List.setIfInBounds_toArray, List.set_cons_zero, List.set_cons_succ]
      refine wpAnyL_take (i := 7) (v := .pointer (some ⟨g, kc * 5, none⟩)) (by simp only [List.getElem?_toArray, List.getElem?_cons_succ, List.getElem?_cons_zero]; rfl) (by as_aux_lemma => kernel_rfl) (by as_aux_lemma => kernel_rfl) (by as_aux_lemma => kernel_rfl) (fun _ _ _ h => h) (Or.inl ⟨by rfl, ?_⟩) hS ?_
      · intro U hU
        have s0 := hU
        show _ = _
        go_simp
      simp only [Act.put, List.setIfInBounds_toArray, List.set_cons_zero, List.set_cons_succ]
      refine wpAnyL_take (i := 8) (v := .pointer (some ⟨g, kc * 5, none⟩)) (by simp only [List.getElem?_toArray, List.getElem?_cons_succ, List.getElem?_cons_zero]; rfl) (by as_aux_lemma => kernel_rfl) (by as_aux_lemma => kernel_rfl) (by as_aux_lemma => kernel_rfl) (fun _ _ _ h => h) (Or.inl ⟨by rfl, ?_⟩) hS ?_
      · intro U hU
        have s0 := hU
        show _ = _
        kernel_rfl
      simp only [Act.put, List.setIfInBounds_toArray, List.set_cons_zero, List.set_cons_succ]
      refine wpAnyL_done (by as_aux_lemma => kernel_rfl) ?_ _
      simp only [OnlyN]
      refine ⟨?_, bV⟩
      (try simp only [Act.put, List.setIfInBounds_toArray, List.set_cons_zero, List.set_cons_succ])
    rintro a' W8 ⟨rfl, h8⟩
    simp only [Act.put, List.setIfInBounds_toArray, List.set_cons_zero, List.set_cons_succ]
    have img8 := (h8.block gm (by omega)).trans img7
    have par8 := (h8.block (gm + 1) (by omega)).trans par7
    have b_8 := b_7.trans (h8.mono (by omega))
    have z8 : gm + 2 ≤ W8.heap.size := by have := h8.size; omega
    have HI8 := Lib.hid (And.intro (HI7.out.1.below h8) (HI7.out.2.below (h8.mono (by omega))))
    clear h8 img7 par7 b_7 HI7 z7 HK
    go_upto_region 11 with fail
    refine last_cut (by kernel_rfl) (fun U => U.heap[gm]? = some (.cells #[.int .i64 Xn, .int .i64 Yn, .int .i64 On, .int .i64 Pn, .slice (some ⟨g, 0, none⟩) n c] 25 (0, 0))) (fun aF a' W' => ∃ lb, a' = ((((((((((((((((((((((((aF.put (some 60) (.pointer (some ⟨gm, 0, none⟩))).put (some 61) (.pointer (some ⟨gm, 1, none⟩))).put (some 62) (.pointer (some ⟨gm, 2, none⟩))).put (some 63) (.pointer (some ⟨gm, 3, none⟩))).put (some 64) (.pointer (some ⟨gm + 1, 0, none⟩))).put (some 65) (.pointer (some ⟨gm + 1, 1, none⟩))).put (some 66) (.pointer (some ⟨gm + 1, 2, none⟩))).put (some 67) (.pointer (some ⟨gm + 1, 3, none⟩))).put (some 68) (.pointer (some ⟨gm + 1, 4, none⟩))).put (some 69) (.pointer (some ⟨gm + 1, 5, none⟩))).put (some 70) (.pointer (some ⟨gm + 1, 6, none⟩))).put (some 71) (.pointer (some ⟨gm + 1, 7, none⟩))).put (some 72) (.pointer (some ⟨gm + 1, 8, none⟩))).put (some 73) (.pointer (some ⟨g, kc * 5, none⟩))).put (some 74) (.pointer (some ⟨g, kc * 5, none⟩))).put (some 75) (.pointer (some ⟨g, kc * 5, none⟩))).put (some 76) (.pointer (some ⟨g, kc * 5, none⟩))).put (some 77) (.pointer (some ⟨g, kc * 5, none⟩))).put (some 78) (.pointer (some ⟨g, kc * 5 + 2, none⟩))).put (some 79) (.pointer (some ⟨g, kc * 5, none⟩))).put (some 80) (.pointer (some ⟨g, kc * 5, none⟩))).put (some 81) (.pointer (some ⟨g, kc * 5 + 3, none⟩))).put (some 82) (.slice (some ⟨lb, 0, none⟩) 16 16)).put (some 14) (.slice (some ⟨lb, 0, none⟩) 16 16)) ∧ W'.heap[lb]? = some (.cells (ptrs gm g kc) 44 (0, 0)) ∧ Below W8.heap.size W8 W') (img8) (fun hS => ?_) ?_
    · skip
      have hSB : ∀ U : World, Below (W8.heap.size) W8 U → U.heap[gm]? = some (.cells #[.int .i64 Xn, .int .i64 Yn, .int .i64 On, .int .i64 Pn, .slice (some ⟨g, 0, none⟩) n c] 25 (0, 0)) := fun U h => ((h.block (gm) (by omega)).trans (img8))
      have bV : Below W8.heap.size W8 W8.drew := (Below.refl _ _).drew
      generalize W8.drew = V0 at *
      change wpAnyL _ _ _ _ _ 24 #[false, false, false, false, false, false, false, false, false, false, false, false, false, false, false, false, false, false, false, false, false, false, false, false] _ _
      refine wpAnyL_take (i := 0) (v := .pointer (some ⟨gm, 0, none⟩)) (by simp only [List.getElem?_toArray, List.getElem?_cons_succ, List.getElem?_cons_zero]; rfl) (by as_aux_lemma => kernel_rfl) (by as_aux_lemma => kernel_rfl) (by as_aux_lemma => kernel_rfl) (fun _ _ _ h => h) (Or.inl ⟨by rfl, ?_⟩) hS ?_
      · intro U hU
        have s0 := hU
        show _ = _
        kernel_rfl
      simp only [Act.put, List.setIfInBounds_toArray, List.set_cons_zero, List.set_cons_succ]
      refine wpAnyL_take (i := 1) (v := .pointer (some ⟨gm, 1, none⟩)) (by simp only [List.getElem?_toArray, List.getElem?_cons_succ, List.getElem?_cons_zero]; rfl) (by as_aux_lemma => kernel_rfl) (by as_aux_lemma => kernel_rfl) (by as_aux_lemma => kernel_rfl) (fun _ _ _ h => h) (Or.inl ⟨by rfl, ?_⟩) hS ?_
      · intro U hU
        have s0 := hU
        show _ = _
        kernel_rfl
      simp only [Act.put, List.setIfInBounds_toArray, List.set_cons_zero, List.set_cons_succ]
      refine wpAnyL_take (i := 2) (v := .pointer (some ⟨gm, 2, none⟩)) (by simp only [List.getElem?_toArray, List.getElem?_cons_succ, List.getElem?_cons_zero]; rfl) (by as_aux_lemma => kernel_rfl) (by as_aux_lemma => kernel_rfl) (by as_aux_lemma => kernel_rfl) (fun _ _ _ h => h) (Or.inl ⟨by rfl, ?_⟩) hS ?_
      · intro U hU
        have s0 := hU
        show _ = _
        kernel_rfl
      simp only [Act.put, List.setIfInBounds_toArray, List.set_cons_zero, List.set_cons_succ]
      refine wpAnyL_take (i := 3) (v := .pointer (some ⟨gm, 3, none⟩)) (by simp only [List.getElem?_toArray, List.getElem?_cons_succ, List.getElem?_cons_zero]; rfl) (by as_aux_lemma => kernel_rfl) (by as_aux_lemma => kernel_rfl) (by as_aux_lemma => kernel_rfl) (fun _ _ _ h => h) (Or.inl ⟨by rfl, ?_⟩) hS ?_
      · intro U hU
        have s0 := hU
        show _ = _
        kernel_rfl
      simp only [Act.put, List.setIfInBounds_toArray, List.set_cons_zero, List.set_cons_succ]
      refine wpAnyL_take (i := 4) (v := .pointer (some ⟨gm + 1, 0, none⟩)) (by simp only [List.getElem?_toArray, List.getElem?_cons_succ, List.getElem?_cons_zero]; rfl) (by as_aux_lemma => kernel_rfl) (by as_aux_lemma => kernel_rfl) (by as_aux_lemma => kernel_rfl) (fun _ _ _ h => h) (Or.inl ⟨by rfl, ?_⟩) hS ?_
      · intro U hU
        have s0 := hU
        show _ = _
        kernel_rfl
      simp only [Act.put, List.setIfInBounds_toArray, List.set_cons_zero, List.set_cons_succ]
      refine wpAnyL_take (i := 5) (v := .pointer (some ⟨gm + 1, 1, none⟩)) (by simp only [List.getElem?_toArray, List.getElem?_cons_succ, List.getElem?_cons_zero]; rfl) (by as_aux_lemma => kernel_rfl) (by as_aux_lemma => kernel_rfl) (by as_aux_lemma => kernel_rfl) (fun _ _ _ h => h) (Or.inl ⟨by rfl, ?_⟩) hS ?_
      · intro U hU
        have s0 := hU
        show _ = _
        kernel_rfl
      simp only [Act.put, List.setIfInBounds_toArray, List.set_cons_zero, List.set_cons_succ]
      refine wpAnyL_take (i := 6) (v := .pointer (some ⟨gm + 1, 2, none⟩)) (by simp only [List.getElem?_toArray, List.getElem?_cons_succ, List.getElem?_cons_zero]; rfl) (by as_aux_lemma => kernel_rfl) (by as_aux_lemma => kernel_rfl) (by as_aux_lemma => kernel_rfl) (fun _ _ _ h => h) (Or.inl ⟨by rfl, ?_⟩) hS ?_
      · intro U hU
        have s0 := hU
        show _ = _
        kernel_rfl
      simp only [Act.put, List.setIfInBounds_toArray, List.set_cons_zero, List.set_cons_succ]
      refine wpAnyL_take (i := 7) (v := .pointer (some ⟨gm + 1, 3, none⟩)) (by simp only [List.getElem?_toArray, List.getElem?_cons_succ, List.getElem?_cons_zero]; rfl) (by as_aux_lemma => kernel_rfl) (by as_aux_lemma => kernel_rfl) (by as_aux_lemma => kernel_rfl) (fun _ _ _ h => h) (Or.inl ⟨by rfl, ?_⟩) hS ?_
      · intro U hU
        have s0 := hU
        show _ = _
        kernel_rfl
      simp only [Act.put, List.setIfInBounds_toArray, List.set_cons_zero, List.set_cons_succ]
      refine wpAnyL_take (i := 8) (v := .pointer (some ⟨gm + 1, 4, none⟩)) (by simp only [List.getElem?_toArray, List.getElem?_cons_succ, List.getElem?_cons_zero]; rfl) (by as_aux_lemma => kernel_rfl) (by as_aux_lemma => kernel_rfl) (by as_aux_lemma => kernel_rfl) (fun _ _ _ h => h) (Or.inl ⟨by rfl, ?_⟩) hS ?_
      · intro U hU
        have s0 := hU
        show _ = _
        kernel_rfl
      simp only [Act.put, List.setIfInBounds_toArray, List.set_cons_zero, List.set_cons_succ]
      refine wpAnyL_take (i := 9) (v := .pointer (some ⟨gm + 1, 5, none⟩)) (by simp only [List.getElem?_toArray, List.getElem?_cons_succ, List.getElem?_cons_zero]; rfl) (by as_aux_lemma => kernel_rfl) (by as_aux_lemma => kernel_rfl) (by as_aux_lemma => kernel_rfl) (fun _ _ _ h => h) (Or.inl ⟨by rfl, ?_⟩) hS ?_
      · intro U hU
        have s0 := hU
        show _ = _
        kernel_rfl
      simp only [Act.put, List.setIfInBounds_toArray, List.set_cons_zero, List.set_cons_succ]
      refine wpAnyL_take (i := 10) (v := .pointer (some ⟨gm + 1, 6, none⟩)) (by simp only [List.getElem?_toArray, List.getElem?_cons_succ, List.getElem?_cons_zero]; rfl) (by as_aux_lemma => kernel_rfl) (by as_aux_lemma => kernel_rfl) (by as_aux_lemma => kernel_rfl) (fun _ _ _ h => h) (Or.inl ⟨by rfl, ?_⟩) hS ?_
      · intro U hU
        have s0 := hU
        show _ = _
        kernel_rfl
      simp only [Act.put, List.setIfInBounds_toArray, List.set_cons_zero, List.set_cons_succ]
      refine wpAnyL_take (i := 11) (v := .pointer (some ⟨gm + 1, 7, none⟩)) (by simp only [List.getElem?_toArray, List.getElem?_cons_succ, List.getElem?_cons_zero]; rfl) (by as_aux_lemma => kernel_rfl) (by as_aux_lemma => kernel_rfl) (by as_aux_lemma => kernel_rfl) (fun _ _ _ h => h) (Or.inl ⟨by rfl, ?_⟩) hS ?_
      · intro U hU
        have s0 := hU
        show _ = _
        kernel_rfl
      simp only [Act.put, List.setIfInBounds_toArray, List.set_cons_zero, List.set_cons_succ]
      refine wpAnyL_take (i := 12) (v := .pointer (some ⟨gm + 1, 8, none⟩)) (by simp only [List.getElem?_toArray, List.getElem?_cons_succ, List.getElem?_cons_zero]; rfl) (by as_aux_lemma => kernel_rfl) (by as_aux_lemma => kernel_rfl) (by as_aux_lemma => kernel_rfl) (fun _ _ _ h => h) (Or.inl ⟨by rfl, ?_⟩) hS ?_
      · intro U hU
        have s0 := hU
        show _ = _
        kernel_rfl
      simp only [Act.put, List.setIfInBounds_toArray, List.set_cons_zero, List.set_cons_succ]
      refine wpAnyL_take (i := 13) (v := .pointer (some ⟨g, kc * 5, none⟩)) (by simp only [List.getElem?_toArray, List.getElem?_cons_succ, List.getElem?_cons_zero]; rfl) (by as_aux_lemma => kernel_rfl) (by as_aux_lemma => kernel_rfl) (by as_aux_lemma => kernel_rfl) (fun _ _ _ h => h) (Or.inl ⟨by rfl, ?_⟩) hS ?_
      · intro U hU
        have s0 := hU
        show _ = _
        kernel_rfl
      simp only [Act.put, List.setIfInBounds_toArray, List.set_cons_zero, List.set_cons_succ]
      refine wpAnyL_take (i := 14) (v := .pointer (some ⟨g, kc * 5, none⟩)) (by simp only [List.getElem?_toArray, List.getElem?_cons_succ, List.getElem?_cons_zero]; rfl) (by as_aux_lemma => kernel_rfl) (by as_aux_lemma => kernel_rfl) (by as_aux_lemma => kernel_rfl) (fun _ _ _ h => h) (Or.inl ⟨by rfl, ?_⟩) hS ?_
      · intro U hU
        have s0 := hU
        show _ = _
        kernel_rfl
      simp only [Act.put, List.setIfInBounds_toArray, List.set_cons_zero, List.set_cons_succ]
      refine wpAnyL_take (i := 15) (v := .pointer (some ⟨g, kc * 5, none⟩)) (by simp only [List.getElem?_toArray, List.getElem?_cons_succ, List.getElem?_cons_zero]; rfl) (by as_aux_lemma => kernel_rfl) (by as_aux_lemma => kernel_rfl) (by as_aux_lemma => kernel_rfl) (fun _ _ _ h => h) (Or.inl ⟨by rfl, ?_⟩) hS ?_
      · intro U hU
        have s0 := hU
        show _ = _
        kernel_rfl
      simp only [Act.put, List.setIfInBounds_toArray, List.set_cons_zero, List.set_cons_succ]
      refine wpAnyL_take (i := 16) (v := .pointer (some ⟨g, kc * 5, none⟩)) (by simp only [List.getElem?_toArray, List.getElem?_cons_succ, List.getElem?_cons_zero]; rfl) (by as_aux_lemma => kernel_rfl) (by as_aux_lemma => kernel_rfl) (by as_aux_lemma => kernel_rfl) (fun _ _ _ h => h) (Or.inl ⟨by rfl, ?_⟩) hS ?_
      · intro U hU
        have s0 := hU
        show _ = _
        kernel_rfl
      simp only [Act.put, List.setIfInBounds_toArray, List.set_cons_zero, List.set_cons_succ]
      refine wpAnyL_take (i := 17) (v := .pointer (some ⟨g, kc * 5, none⟩)) (by simp only [List.getElem?_toArray, List.getElem?_cons_succ, List.getElem?_cons_zero]; rfl) (by as_aux_lemma => kernel_rfl) (by as_aux_lemma => kernel_rfl) (by as_aux_lemma => kernel_rfl) (fun _ _ _ h => h) (Or.inl ⟨by rfl, ?_⟩) hS ?_
      · intro U hU
        have s0 := hU
        show _ = _
        kernel_rfl
      simp only [Act.put, List.setIfInBounds_toArray, List.set_cons_zero, List.set_cons_succ]
      refine wpAnyL_take (i := 18) (v := .pointer (some ⟨g, kc * 5 + 2, none⟩)) (by simp only [List.getElem?_toArray, List.getElem?_cons_succ, List.getElem?_cons_zero]; rfl) (by as_aux_lemma => kernel_rfl) (by as_aux_lemma => kernel_rfl) (by as_aux_lemma => kernel_rfl) (fun _ _ _ h => h) (Or.inl ⟨by rfl, ?_⟩) hS ?_
      · intro U hU
        have s0 := hU
        show _ = _
        kernel_rfl
      simp only [Act.put, List.setIfInBounds_toArray, List.set_cons_zero, List.set_cons_succ]
      refine wpAnyL_take (i := 19) (v := .pointer (some ⟨g, kc * 5, none⟩)) (by simp only [List.getElem?_toArray, List.getElem?_cons_succ, List.getElem?_cons_zero]; rfl) (by as_aux_lemma => kernel_rfl) (by as_aux_lemma => kernel_rfl) (by as_aux_lemma => kernel_rfl) (fun _ _ _ h => h) (Or.inl ⟨by rfl, ?_⟩) hS ?_
      · intro U hU
        have s0 := hU
        show _ = _
        kernel_rfl
      simp only [Act.put, List.setIfInBounds_toArray, List.set_cons_zero, List.set_cons_succ]
      refine wpAnyL_take (i := 20) (v := .pointer (some ⟨g, kc * 5, none⟩)) (by simp only [List.getElem?_toArray, List.getElem?_cons_succ, List.getElem?_cons_zero]; rfl) (by as_aux_lemma => kernel_rfl) (by as_aux_lemma => kernel_rfl) (by as_aux_lemma => kernel_rfl) (fun _ _ _ h => h) (Or.inl ⟨by rfl, ?_⟩) hS ?_
      · intro U hU
        have s0 := hU
        show _ = _
        kernel_rfl
      simp only [Act.put, List.setIfInBounds_toArray, List.set_cons_zero, List.set_cons_succ]
      refine wpAnyL_take (i := 21) (v := .pointer (some ⟨g, kc * 5 + 3, none⟩)) (by simp only [List.getElem?_toArray, List.getElem?_cons_succ, List.getElem?_cons_zero]; rfl) (by as_aux_lemma => kernel_rfl) (by as_aux_lemma => kernel_rfl) (by as_aux_lemma => kernel_rfl) (fun _ _ _ h => h) (Or.inl ⟨by rfl, ?_⟩) hS ?_
      · intro U hU
        have s0 := hU
        show _ = _
        kernel_rfl
      simp only [Act.put, List.setIfInBounds_toArray, List.set_cons_zero, List.set_cons_succ]
      refine wpAnyL_ready (rs := [22]) (by as_aux_lemma => kernel_rfl) (by simp) ?_
      refine AllReadyL.cons (by simp only [List.getElem?_toArray, List.getElem?_cons_succ, List.getElem?_cons_zero]; rfl) (fun K' hK' => ?_) AllReadyL.nil
      go_simp
      have hb22 := below_alloc bV (.cells #[.pointer (some ⟨gm, 0, none⟩), .pointer (some ⟨gm, 1, none⟩), .pointer (some ⟨gm, 2, none⟩), .pointer (some ⟨gm, 3, none⟩), .pointer (some ⟨gm + 1, 0, none⟩), .pointer (some ⟨gm + 1, 1, none⟩), .pointer (some ⟨gm + 1, 2, none⟩), .pointer (some ⟨gm + 1, 3, none⟩), .pointer (some ⟨gm + 1, 4, none⟩), .pointer (some ⟨gm + 1, 5, none⟩), .pointer (some ⟨gm + 1, 6, none⟩), .pointer (some ⟨gm + 1, 7, none⟩), .pointer (some ⟨gm + 1, 8, none⟩), .pointer (some ⟨g, kc * 5, none⟩), .pointer (some ⟨g, kc * 5 + 2, none⟩), .pointer (some ⟨g, kc * 5 + 3, none⟩)] 44)
      have xl := heap_alloc_new V0 (.cells #[.pointer (some ⟨gm, 0, none⟩), .pointer (some ⟨gm, 1, none⟩), .pointer (some ⟨gm, 2, none⟩), .pointer (some ⟨gm, 3, none⟩), .pointer (some ⟨gm + 1, 0, none⟩), .pointer (some ⟨gm + 1, 1, none⟩), .pointer (some ⟨gm + 1, 2, none⟩), .pointer (some ⟨gm + 1, 3, none⟩), .pointer (some ⟨gm + 1, 4, none⟩), .pointer (some ⟨gm + 1, 5, none⟩), .pointer (some ⟨gm + 1, 6, none⟩), .pointer (some ⟨gm + 1, 7, none⟩), .pointer (some ⟨gm + 1, 8, none⟩), .pointer (some ⟨g, kc * 5, none⟩), .pointer (some ⟨g, kc * 5 + 2, none⟩), .pointer (some ⟨g, kc * 5 + 3, none⟩)] 44)
      obtain ⟨lb, hlb⟩ : ∃ g, V0.heap.size = g := ⟨_, rfl⟩
      generalize V0.alloc (.cells #[.pointer (some ⟨gm, 0, none⟩), .pointer (some ⟨gm, 1, none⟩), .pointer (some ⟨gm, 2, none⟩), .pointer (some ⟨gm, 3, none⟩), .pointer (some ⟨gm + 1, 0, none⟩), .pointer (some ⟨gm + 1, 1, none⟩), .pointer (some ⟨gm + 1, 2, none⟩), .pointer (some ⟨gm + 1, 3, none⟩), .pointer (some ⟨gm + 1, 4, none⟩), .pointer (some ⟨gm + 1, 5, none⟩), .pointer (some ⟨gm + 1, 6, none⟩), .pointer (some ⟨gm + 1, 7, none⟩), .pointer (some ⟨gm + 1, 8, none⟩), .pointer (some ⟨g, kc * 5, none⟩), .pointer (some ⟨g, kc * 5 + 2, none⟩), .pointer (some ⟨g, kc * 5 + 3, none⟩)] 44) = U22 at *
      rw [hlb] at xl ⊢
      clear hlb
      have hS := hSB _ hb22
      refine hK'.out _ _ hS (fun _ => ?_)
      clear hK' K'
      try simp only [Act.put, List.setIfInBounds_toArray, List.set_cons_zero, List.set_cons_succ]
      refine wpAnyL_take (i := 23) (v := .slice (some ⟨lb, 0, none⟩) 16 16) (by simp only [List.getElem?_toArray, List.getElem?_cons_succ, List.getElem?_cons_zero]; rfl) (by as_aux_lemma => kernel_rfl) (by as_aux_lemma => kernel_rfl) (by as_aux_lemma => kernel_rfl) (fun _ _ _ h => h) (Or.inl ⟨by rfl, ?_⟩) hS ?_
      · intro U hU
        have s0 := hU
        show _ = _
        kernel_rfl
      simp only [Act.put, List.setIfInBounds_toArray, List.set_cons_zero, List.set_cons_succ]
      refine wpAnyL_done (by as_aux_lemma => kernel_rfl) ?_ _
      simp only [OnlyN]
      refine ⟨lb, ?_, xl, hb22⟩
      (try simp only [Act.put, List.setIfInBounds_toArray, List.set_cons_zero, List.set_cons_succ])
    rintro a' W9 ⟨lb, rfl, hL, h9⟩
    simp only [Act.put, List.setIfInBounds_toArray, List.set_cons_zero, List.set_cons_succ]
    have img9 := (h9.block gm (by omega)).trans img8
    have par9 := (h9.block (gm + 1) (by omega)).trans par8
    have b_9 := b_8.trans (h9.mono (by omega))
    have z9 : gm + 2 ≤ W9.heap.size := by have := h9.size; omega
    have HSI : SwIn W9 q gm g kc Xn Yn On Pn n c tx ty lv cw ch pr st od ly rct fsop feph F G _ := ⟨img9, par9, HI8.out.1.below h9, HI8.out.2.below (h9.mono (by omega)), hsmall, hkc, by omega, by omega, by omega⟩
    have HS := Lib.hid HSI
    clear h9 img8 par8 b_8 HI8 z8 HSI img9 par9
    obtain ⟨k, hk, hke, HK0⟩ := within12v which 20 20 rfl (by omega) (by omega)
    have HK := Lib.hid HK0
    clear HK0 hke
    go_upto_region 12 with fail
    go_wp2_with fail
    refine (HK.out _).mono ?_
    rintro e' wa ⟨rfl, hwa⟩
    subst hwa
    go_upto_block 0 with fail
    refine chk_sw q gm g kc lb k (k : Int) nn Xn Yn On Pn n c tx ty lv cw ch pr st od ly rct fsop feph F G _ W9 _ HS.out hL rfl hk _ ?_
    intro u88 u89 u90 u91 u92 u93 u94 u95 u96 u97 u98 u99 u100 u101 u102 u103 u104 u105 u106 u107 u108 u109 u110 u111 u112 u113 u114 u115 u116 u117 u118 u119 u120 u121 u122 u123 u124 u125 u126 u127 u128 u129 u130 u131 u132 u133 u134 u135 u136 u137 u138 u139 u140 u141 u142 u143 u144 u145 W10 h10
    obtain ⟨X', Y', Ox', Oy', A', n', c', tx', ty', lv', cw', ch', pr', st', od', ly', rct', sop', eph', F', G', r1, r2, r3, r4⟩ := h10
    have b_10 := b_9.trans r4
    go_upto_region 22 with fail
    refine chk_tail gm (gm + 1) X' Y' Ox' Oy' A' n' c' tx' ty' lv' cw' ch' pr' st' od' ly' rct' sop' eph' F' G' W10 r1 r2 r3.1 r3.2.1 r3.2.2.1 r3.2.2.2 _ ?_
    intro v146 v147 v148 v149 v150 v151 v152 v153 v154 v155 v156 v157 v158 v159 v160 v161 W11 h11
    have b_11 := b_10.trans (h11.mono (by have := b_10.size; omega))
    go_wp2_with fail
    go_ret
    exact ⟨rfl, by first | exact b_11 | (rw [hq]; exact b_11)⟩
end Go.Proofs.Ytmieoifagnpbiaa
