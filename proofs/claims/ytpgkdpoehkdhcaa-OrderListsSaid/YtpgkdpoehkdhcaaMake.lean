/- CONTRACT of (waveletlaw12.Form).Make. -/
import Derived.Test.YtpgkdpoehkdhcaaMkHead
import Derived.Deep.LoopGhost
import Derived.Deep.CutBlock
namespace Go.Proofs.Ytpgkdpoehkdhcaa
open Go.RowKit
set_option maxHeartbeats 16000000
set_option linter.unusedVariables false
set_option linter.unusedSimpArgs false
set_option maxRecDepth 100000

theorem make_any (fX fY fOx fOy fC fD fS : Int) (fsg frct fsop feph : Bool) (fTx fTy fL fcw fch fP fSt fO fLy : Int) (NA : Option Addr) (nN cN : Nat) (Nf : Nat → Int) (side : Nat) (hs1 : 1 ≤ side) (hs2 : side ≤ 32) (w : World) (hN : IntsAt w w.heap.size NA nN Nf) (hNf : ∀ k, k < nN → -9223372036854775808 ≤ Nf k ∧ Nf k ≤ 9223372036854775807) (hNn : nN ≤ 9223372036854775807) (hSb : -9223372036854775808 ≤ fS ∧ fS ≤ 9223372036854775807) :
    Calls Try.prog 11 #[.agg #[.int .i64 fX, .int .i64 fY, .int .i64 fOx, .int .i64 fOy, .int .i64 fC, .int .i64 fD, .int .i64 fS, .bool fsg, .bool frct, .bool fsop, .bool feph, .int .i64 fTx, .int .i64 fTy, .int .i64 fL, .int .i64 fcw, .int .i64 fch, .int .i64 fP, .int .i64 fSt, .int .i64 fO, .int .i64 fLy, .slice NA nN cN], .int .i64 side] w fun e w' => ∃ (Xn Yn On Pn tx ty lv cw ch pr st od ly n dn : Nat) (rct PL : Bool) (A : Option Addr) (c : Nat) (F : Nat → CompD) (G : Nat → Nat → Int), e = .returned (.tuple #[imgV Xn Yn On Pn A n c, parV tx ty lv cw ch pr st od ly rct fsop feph]) ∧ MadeP side fC fS Xn Yn On Pn tx ty lv cw ch pr st od ly n dn rct PL ∧ MadeI w' w.heap.size A n c F G (MadeC Xn Yn On Pn dn fsg PL) ∧ Below w.heap.size w w' := by
  obtain ⟨On, On_lt, On_eq, WOx0⟩ := within12v fOx 6 6 rfl (by omega) (by omega)
  have WOx := Lib.hid WOx0
  obtain ⟨Pn, Pn_lt, Pn_eq, WOy0⟩ := within12v fOy 6 6 rfl (by omega) (by omega)
  have WOy := Lib.hid WOy0
  obtain ⟨vX, vX_lt, vX_eq, WX0⟩ := within12v fX side (side : Int) rfl (by omega) (by omega)
  have WX := Lib.hid WX0
  obtain ⟨vY, vY_lt, vY_eq, WY0⟩ := within12v fY side (side : Int) rfl (by omega) (by omega)
  have WY := Lib.hid WY0
  obtain ⟨lv, lv_lt, lv_eq, WL0⟩ := within12v fL 6 6 rfl (by omega) (by omega)
  have WL := Lib.hid WL0
  obtain ⟨vcw, vcw_lt, vcw_eq, Wcw0⟩ := within12v fcw 3 3 rfl (by omega) (by omega)
  have Wcw := Lib.hid Wcw0
  obtain ⟨vch, vch_lt, vch_eq, Wch0⟩ := within12v fch 3 3 rfl (by omega) (by omega)
  have Wch := Lib.hid Wch0
  obtain ⟨vP, vP_lt, vP_eq, WP0⟩ := within12v fP 5 5 rfl (by omega) (by omega)
  have WP := Lib.hid WP0
  obtain ⟨st, st_lt, st_eq, WSt0⟩ := within12v fSt 64 64 rfl (by omega) (by omega)
  have WSt := Lib.hid WSt0
  obtain ⟨od, od_lt, od_eq, WO0⟩ := within12v fO 5 5 rfl (by omega) (by omega)
  have WO := Lib.hid WO0
  obtain ⟨vly, vly_lt, vly_eq, WLy0⟩ := within12v fLy 4 4 rfl (by omega) (by omega)
  have WLy := Lib.hid WLy0
  obtain ⟨vTx, vTx_lt, vTx_eq, WTx0⟩ := within12v fTx side (side : Int) rfl (by omega) (by omega)
  have WTx := Lib.hid WTx0
  obtain ⟨vTy, vTy_lt, vTy_eq, WTy0⟩ := within12v fTy side (side : Int) rfl (by omega) (by omega)
  have WTy := Lib.hid WTy0
  obtain ⟨vD, vD_lt, vD_eq, WD0⟩ := within12v fD 10 10 rfl (by omega) (by omega)
  have WD := Lib.hid WD0
  obtain ⟨vC, vC_lt, vC_eq, WC0⟩ := within12v fC 4 4 rfl (by omega) (by omega)
  have WC := Lib.hid WC0
  clear WOx0 WOy0 WX0 WY0 WL0 Wcw0 Wch0 WP0 WSt0 WO0 WLy0 WTx0 WTy0 WD0 WC0
  clear On_eq Pn_eq vX_eq vY_eq lv_eq vcw_eq vch_eq vP_eq st_eq od_eq vly_eq vTx_eq vTy_eq vD_eq
  have VCE := Lib.hid vC_eq
  clear vC_eq
  obtain ⟨O1, O1_def⟩ : ∃ z : Nat, z = On + 1 := ⟨_, rfl⟩
  have O1_b : O1 ≤ 128 := by omega
  have O1_w0 := Lib.hid (show IntKind.i64.wrap ((On : Int) + 1) = (O1 : Int) by rw [show (On : Int) + 1 = (O1 : Int) by omega]; exact wr (by omega))
  have O1_d := Lib.hid O1_def
  obtain ⟨P1, P1_def⟩ : ∃ z : Nat, z = Pn + 1 := ⟨_, rfl⟩
  have P1_b : P1 ≤ 128 := by omega
  have P1_w0 := Lib.hid (show IntKind.i64.wrap ((Pn : Int) + 1) = (P1 : Int) by rw [show (Pn : Int) + 1 = (P1 : Int) by omega]; exact wr (by omega))
  have P1_d := Lib.hid P1_def
  obtain ⟨Xn, Xn_def⟩ : ∃ z : Nat, z = O1 + vX := ⟨_, rfl⟩
  have Xn_b : Xn ≤ 128 := by omega
  have Xn_w0 := Lib.hid (show IntKind.i64.wrap ((O1 : Int) + vX) = (Xn : Int) by rw [show (O1 : Int) + vX = (Xn : Int) by omega]; exact wr (by omega))
  have Xn_d := Lib.hid Xn_def
  obtain ⟨Yn, Yn_def⟩ : ∃ z : Nat, z = P1 + vY := ⟨_, rfl⟩
  have Yn_b : Yn ≤ 128 := by omega
  have Yn_w0 := Lib.hid (show IntKind.i64.wrap ((P1 : Int) + vY) = (Yn : Int) by rw [show (P1 : Int) + vY = (Yn : Int) by omega]; exact wr (by omega))
  have Yn_d := Lib.hid Yn_def
  obtain ⟨cwn, cwn_def⟩ : ∃ z : Nat, z = 2 + vcw := ⟨_, rfl⟩
  have cwn_b : cwn ≤ 128 := by omega
  have cwn_w0 := Lib.hid (show IntKind.i64.wrap ((2 : Int) + vcw) = (cwn : Int) by rw [show (2 : Int) + vcw = (cwn : Int) by omega]; exact wr (by omega))
  have cwn_d := Lib.hid cwn_def
  obtain ⟨chn, chn_def⟩ : ∃ z : Nat, z = 2 + vch := ⟨_, rfl⟩
  have chn_b : chn ≤ 128 := by omega
  have chn_w0 := Lib.hid (show IntKind.i64.wrap ((2 : Int) + vch) = (chn : Int) by rw [show (2 : Int) + vch = (chn : Int) by omega]; exact wr (by omega))
  have chn_d := Lib.hid chn_def
  obtain ⟨pr1, pr1_def⟩ : ∃ z : Nat, z = 1 + vP := ⟨_, rfl⟩
  have pr1_b : pr1 ≤ 128 := by omega
  have pr1_w0 := Lib.hid (show IntKind.i64.wrap ((1 : Int) + vP) = (pr1 : Int) by rw [show (1 : Int) + vP = (pr1 : Int) by omega]; exact wr (by omega))
  have pr1_d := Lib.hid pr1_def
  obtain ⟨lyn, lyn_def⟩ : ∃ z : Nat, z = 1 + vly := ⟨_, rfl⟩
  have lyn_b : lyn ≤ 128 := by omega
  have lyn_w0 := Lib.hid (show IntKind.i64.wrap ((1 : Int) + vly) = (lyn : Int) by rw [show (1 : Int) + vly = (lyn : Int) by omega]; exact wr (by omega))
  have lyn_d := Lib.hid lyn_def
  obtain ⟨tx0, tx0_def⟩ : ∃ z : Nat, z = O1 + vTx := ⟨_, rfl⟩
  have tx0_b : tx0 ≤ 128 := by omega
  have tx0_w0 := Lib.hid (show IntKind.i64.wrap ((O1 : Int) + vTx) = (tx0 : Int) by rw [show (O1 : Int) + vTx = (tx0 : Int) by omega]; exact wr (by omega))
  have tx0_d := Lib.hid tx0_def
  obtain ⟨ty0, ty0_def⟩ : ∃ z : Nat, z = P1 + vTy := ⟨_, rfl⟩
  have ty0_b : ty0 ≤ 128 := by omega
  have ty0_w0 := Lib.hid (show IntKind.i64.wrap ((P1 : Int) + vTy) = (ty0 : Int) by rw [show (P1 : Int) + vTy = (ty0 : Int) by omega]; exact wr (by omega))
  have ty0_d := Lib.hid ty0_def
  obtain ⟨dn, dn_def⟩ : ∃ z : Nat, z = 1 + vD := ⟨_, rfl⟩
  have dn_b : dn ≤ 128 := by omega
  have dn_w0 := Lib.hid (show IntKind.i64.wrap ((1 : Int) + vD) = (dn : Int) by rw [show (1 : Int) + vD = (dn : Int) by omega]; exact wr (by omega))
  have dn_d := Lib.hid dn_def
  obtain ⟨nc, nc_def⟩ : ∃ z : Nat, z = 1 + vC := ⟨_, rfl⟩
  have nc_b : nc ≤ 128 := by omega
  have nc_w0 := Lib.hid (show IntKind.i64.wrap ((1 : Int) + vC) = (nc : Int) by rw [show (1 : Int) + vC = (nc : Int) by omega]; exact wr (by omega))
  have nc_d := Lib.hid nc_def
  clear O1_def P1_def Xn_def Yn_def cwn_def chn_def pr1_def lyn_def tx0_def ty0_def dn_def nc_def
  go_enter Try.func11, Try.ntmps11
  go_wp2_with fail
  generalize hv1 : World.alloc (World.alloc (World.alloc w _) _) _ = V1
  have gf : V1.heap[w.heap.size]? = some (.cells #[.int .i64 fX, .int .i64 fY, .int .i64 fOx, .int .i64 fOy, .int .i64 fC, .int .i64 fD, .int .i64 fS, .bool fsg, .bool frct, .bool fsop, .bool feph, .int .i64 fTx, .int .i64 fTy, .int .i64 fL, .int .i64 fcw, .int .i64 fch, .int .i64 fP, .int .i64 fSt, .int .i64 fO, .int .i64 fLy, .slice NA nN cN] 24 (0, 0)) := by rw [← hv1]; exact (Below.heap_alloc _ _ _ (by simp; omega)).trans ((Below.heap_alloc _ _ _ (by simp)).trans (heap_alloc_new w _))
  have gr1 : V1.heap[w.heap.size + 1]? = some (.cells #[.int .i64 0, .int .i64 0, .int .i64 0, .int .i64 0, .slice none 0 0] 28 (0, 0)) := by rw [← hv1]; exact (Below.heap_alloc _ _ _ (by simp)).trans (heap_alloc_new3 w _ _)
  have gr2 : V1.heap[w.heap.size + 2]? = some (.cells #[.int .i64 0, .int .i64 0, .int .i64 0, .int .i64 0, .int .i64 0, .int .i64 0, .int .i64 0, .int .i64 0, .int .i64 0, .bool false, .bool false, .bool false] 30 (0, 0)) := by rw [← hv1]; have := heap_alloc_new ((w.alloc (.cells #[.int .i64 fX, .int .i64 fY, .int .i64 fOx, .int .i64 fOy, .int .i64 fC, .int .i64 fD, .int .i64 fS, .bool fsg, .bool frct, .bool fsop, .bool feph, .int .i64 fTx, .int .i64 fTy, .int .i64 fL, .int .i64 fcw, .int .i64 fch, .int .i64 fP, .int .i64 fSt, .int .i64 fO, .int .i64 fLy, .slice NA nN cN] 24)).alloc (.cells #[.int .i64 0, .int .i64 0, .int .i64 0, .int .i64 0, .slice none 0 0] 28)) (.cells #[.int .i64 0, .int .i64 0, .int .i64 0, .int .i64 0, .int .i64 0, .int .i64 0, .int .i64 0, .int .i64 0, .int .i64 0, .bool false, .bool false, .bool false] 30); rwa [World.size_alloc, World.size_alloc] at this
  have hs1' : V1.heap.size = w.heap.size + 3 := by rw [← hv1]; simp
  have hb1 : Below w.heap.size w V1 := by rw [← hv1]; exact below_alloc (below_alloc (below_alloc (Below.refl _ _) _) _) _
  clear hv1
  obtain ⟨q, hq⟩ : ∃ q, w.heap.size = q := ⟨_, rfl⟩
  have HQ := Lib.hid hq
  rw [hq] at gf gr1 gr2 hs1' hb1 hN
  rw [hq]
  clear hq
  have FM := Lib.hid (fun i => cell_of_row _ _ i _ _ (0, 0) gf)
  refine held_cut (by as_aux_lemma => kernel_rfl) (fun U => U.cell? ⟨q, 2, none⟩ = some (.int .i64 fOx) ∧ U.cell? ⟨q, 3, none⟩ = some (.int .i64 fOy)) (fun a0 a' W' => a' = ((((((((a0.put (some 17) (.pointer (some ⟨q, 2, none⟩))).put (some 18) (.int .i64 fOx)).put (some 19) (.int .i64 On)).put (some 20) (.pointer (some ⟨q, 3, none⟩))).put (some 21) (.int .i64 fOy)).put (some 22) (.int .i64 Pn)).put (some 23) (.agg #[.int .i64 0, .int .i64 0, .int .i64 On, .int .i64 Pn, .slice none 0 0])).put (some 6) (.pointer (some ⟨q + 3, 0, none⟩))) ∧ W'.heap[q + 3]? = some (.cells #[.int .i64 0, .int .i64 0, .int .i64 On, .int .i64 Pn, .slice none 0 0] 28 (0, 0)) ∧ Below (q + 3) V1 W' ∧ W'.heap.size = q + 4) ⟨FM.out 2, FM.out 3⟩ (fun hS => ?_) ?_
  · skip
    have hSB : ∀ U : World, Below (q + 3) V1 U → U.cell? ⟨q, 2, none⟩ = some (.int .i64 fOx) ∧ U.cell? ⟨q, 3, none⟩ = some (.int .i64 fOy) := fun U h => ⟨(h.cell (p := ⟨q, 2, none⟩) (by simp only; omega)).trans (FM.out 2), (h.cell (p := ⟨q, 3, none⟩) (by simp only; omega)).trans (FM.out 3)⟩
    have bV : Below (q + 3) V1 V1.drew := (Below.refl _ _).drew
    have hsz : V1.drew.heap.size = q + 3 := hs1'
    clear gf gr1 gr2 hb1 hN hNf hs1'
    generalize V1.drew = V0 at *
    refine wpAnyH_take (i := 0) (v := .pointer (some ⟨q, 2, none⟩)) rfl (by as_aux_lemma => kernel_rfl) (by as_aux_lemma => kernel_rfl) (by as_aux_lemma => kernel_rfl) (fun _ _ _ h => h) (Or.inl ⟨by rfl, ?_⟩) hS ?_
    · intro U hU
      obtain ⟨s0, s1⟩ := hU
      go_simp
    simp only [Act.put, List.setIfInBounds_toArray, List.set_cons_zero, List.set_cons_succ]
    refine wpAnyH_take (i := 1) (v := .int .i64 fOx) rfl (by as_aux_lemma => kernel_rfl) (by as_aux_lemma => kernel_rfl) (by as_aux_lemma => kernel_rfl) (fun _ _ _ h => h) (Or.inl ⟨by rfl, ?_⟩) hS ?_
    · intro U hU
      obtain ⟨s0, s1⟩ := hU
      go_simp
    simp only [Act.put, List.setIfInBounds_toArray, List.set_cons_zero, List.set_cons_succ]
    refine wpAnyH_call (i := 2) (v := .int .i64 On) (f := 20) (args := #[.int .i64 fOx, .int .i64 6]) rfl (by as_aux_lemma => kernel_rfl) (by as_aux_lemma => kernel_rfl) (by as_aux_lemma => kernel_rfl) (fun _ _ _ h => h) (by rfl) WOx.out ?_ hS ?_
    · intro U hU
      obtain ⟨s0, s1⟩ := hU
      go_simp
    simp only [Act.put, List.setIfInBounds_toArray, List.set_cons_zero, List.set_cons_succ]
    refine wpAnyH_take (i := 3) (v := .pointer (some ⟨q, 3, none⟩)) rfl (by as_aux_lemma => kernel_rfl) (by as_aux_lemma => kernel_rfl) (by as_aux_lemma => kernel_rfl) (fun _ _ _ h => h) (Or.inl ⟨by rfl, ?_⟩) hS ?_
    · intro U hU
      obtain ⟨s0, s1⟩ := hU
      go_simp
    simp only [Act.put, List.setIfInBounds_toArray, List.set_cons_zero, List.set_cons_succ]
    refine wpAnyH_take (i := 4) (v := .int .i64 fOy) rfl (by as_aux_lemma => kernel_rfl) (by as_aux_lemma => kernel_rfl) (by as_aux_lemma => kernel_rfl) (fun _ _ _ h => h) (Or.inl ⟨by rfl, ?_⟩) hS ?_
    · intro U hU
      obtain ⟨s0, s1⟩ := hU
      go_simp
    simp only [Act.put, List.setIfInBounds_toArray, List.set_cons_zero, List.set_cons_succ]
    refine wpAnyH_call (i := 5) (v := .int .i64 Pn) (f := 20) (args := #[.int .i64 fOy, .int .i64 6]) rfl (by as_aux_lemma => kernel_rfl) (by as_aux_lemma => kernel_rfl) (by as_aux_lemma => kernel_rfl) (fun _ _ _ h => h) (by rfl) WOy.out ?_ hS ?_
    · intro U hU
      obtain ⟨s0, s1⟩ := hU
      go_simp
    simp only [Act.put, List.setIfInBounds_toArray, List.set_cons_zero, List.set_cons_succ]
    refine wpAnyH_take (i := 6) (v := .agg #[.int .i64 0, .int .i64 0, .int .i64 On, .int .i64 Pn, .slice none 0 0]) rfl (by as_aux_lemma => kernel_rfl) (by as_aux_lemma => kernel_rfl) (by as_aux_lemma => kernel_rfl) (fun _ _ _ h => h) (Or.inl ⟨by rfl, ?_⟩) hS ?_
    · intro U hU
      obtain ⟨s0, s1⟩ := hU
      go_simp
    simp only [Act.put, List.setIfInBounds_toArray, List.set_cons_zero, List.set_cons_succ]
    refine wpAnyH_ready (rs := [7]) (by as_aux_lemma => kernel_rfl) (by simp) ?_
    refine AllReadyH.cons (by simp only [List.getElem?_toArray, List.getElem?_cons_succ, List.getElem?_cons_zero]; rfl) (fun K' hK' => ?_) AllReadyH.nil
    go_simp
    have gm := heap_alloc_new V0 (.cells #[.int .i64 0, .int .i64 0, .int .i64 0, .int .i64 0, .slice none 0 0] 28)
    have bV' := bV.alloc (Nat.le_of_eq hsz.symm) (.cells #[.int .i64 0, .int .i64 0, .int .i64 0, .int .i64 0, .slice none 0 0] 28)
    have hS := hSB _ bV'
    refine hK'.out _ _ hS (fun _ => ?_)
    rw [hsz] at gm
    try rw [hsz]
    have hsz' : (V0.alloc (.cells #[.int .i64 0, .int .i64 0, .int .i64 0, .int .i64 0, .slice none 0 0] 28)).heap.size = q + 3 + 1 := by rw [World.size_alloc, hsz]
    generalize V0.alloc (.cells #[.int .i64 0, .int .i64 0, .int .i64 0, .int .i64 0, .slice none 0 0] 28) = U0 at *
    clear hK' K'
    try simp only [Act.put, List.setIfInBounds_toArray, List.set_cons_zero, List.set_cons_succ]
    refine wpAnyH_ready (rs := [8]) (by as_aux_lemma => kernel_rfl) (by simp) ?_
    refine AllReadyH.cons (by simp only [List.getElem?_toArray, List.getElem?_cons_succ, List.getElem?_cons_zero]; rfl) (fun K' hK' => ?_) AllReadyH.nil
    have d0 : U0.cell? ⟨q + 3, 0, none⟩ = some (.int .i64 0) := cell_of_row _ _ 0 _ _ (0, 0) gm
    have d1 : U0.cell? ⟨q + 3, 1, none⟩ = some (.int .i64 0) := cell_of_row _ _ 1 _ _ (0, 0) gm
    have d2 : U0.cell? ⟨q + 3, 2, none⟩ = some (.int .i64 0) := cell_of_row _ _ 2 _ _ (0, 0) gm
    have d3 : U0.cell? ⟨q + 3, 3, none⟩ = some (.int .i64 0) := cell_of_row _ _ 3 _ _ (0, 0) gm
    have d4 : U0.cell? ⟨q + 3, 4, none⟩ = some (.slice none 0 0) := cell_of_row _ _ 4 _ _ (0, 0) gm
    have dz : ∀ i, U0.frozen? ⟨q + 3, i, none⟩ = false := fun i => frozen_of_row _ _ i _ _ gm
    go_simp
    obtain ⟨U1, hV, g9, b9, s9⟩ : ∃ V, (((((U0.setCell ⟨q + 3, 0, none⟩ (.int .i64 0)).setCell ⟨q + 3, 1, none⟩ (.int .i64 0)).setCell ⟨q + 3, 2, none⟩ (.int .i64 On)).setCell ⟨q + 3, 3, none⟩ (.int .i64 Pn)).setCell ⟨q + 3, 4, none⟩ (.slice none 0 0)) = V ∧ V.heap[q + 3]? = some (.cells #[.int .i64 0, .int .i64 0, .int .i64 On, .int .i64 Pn, .slice none 0 0] 28 (0, 0)) ∧ Below (q + 3) V1 V ∧ V.heap.size = _ := ⟨_, rfl, setRow_at (old := [.int .i64 0, .int .i64 0, .int .i64 0, .int .i64 0, .slice none 0 0]) [.int .i64 0, .int .i64 0, .int .i64 On, .int .i64 Pn, .slice none 0 0] rfl gm, setRow_below (Nat.le_refl _) [.int .i64 0, .int .i64 0, .int .i64 On, .int .i64 Pn, .slice none 0 0] 0 _ bV', (setRow_size _ [.int .i64 0, .int .i64 0, .int .i64 On, .int .i64 Pn, .slice none 0 0] 0 _).trans hsz'⟩
    rw [hV]
    clear hV
    refine hK'.out _ _ (hSB _ b9) (fun _ => ?_)
    clear dz d0 d1 d2 d3 d4
    clear hK' K'
    try simp only [Act.put, List.setIfInBounds_toArray, List.set_cons_zero, List.set_cons_succ]
    refine wpAnyH_done (by as_aux_lemma => kernel_rfl) ?_ _
    simp only [OnlyN]
    refine ⟨?_, g9, b9, s9⟩
    first | trivial | rfl
  rintro a' V2 ⟨rfl, gm, b2, hs2'⟩
  simp only [Act.put, List.setIfInBounds_toArray, List.set_cons_zero, List.set_cons_succ]
  have gf2 := (b2.block q (by omega)).trans gf
  have gr1 := (b2.block (q + 1) (by omega)).trans gr1
  have gr2 := (b2.block (q + 2) (by omega)).trans gr2
  have hb2 := hb1.trans (b2.mono (by omega))
  clear gf FM b2 hb1 hs1'
  have FM := Lib.hid (fun i => cell_of_row _ _ i _ _ (0, 0) gf2)
  have MM := Lib.hid (fun i => cell_of_row _ _ i _ _ (0, 0) gm)
  go_wp2_with fail
  refine held_cut (by as_aux_lemma => kernel_rfl) (fun U => U.cell? ⟨q + 3, 2, none⟩ = some (.int .i64 On) ∧ U.cell? ⟨q + 3, 3, none⟩ = some (.int .i64 Pn) ∧ U.cell? ⟨q, 0, none⟩ = some (.int .i64 fX) ∧ U.cell? ⟨q, 1, none⟩ = some (.int .i64 fY)) (fun a0 a' W' => a' = ((((((((((((((((((a0.put (some 24) (.pointer (some ⟨q + 3, 2, none⟩))).put (some 25) (.int .i64 On)).put (some 26) (.int .i64 O1)).put (some 27) (.pointer (some ⟨q, 0, none⟩))).put (some 28) (.int .i64 fX)).put (some 29) (.int .i64 side)).put (some 30) (.int .i64 vX)).put (some 31) (.int .i64 Xn)).put (some 32) (.pointer (some ⟨q + 3, 3, none⟩))).put (some 33) (.int .i64 Pn)).put (some 34) (.int .i64 P1)).put (some 35) (.pointer (some ⟨q, 1, none⟩))).put (some 36) (.int .i64 fY)).put (some 37) (.int .i64 side)).put (some 38) (.int .i64 vY)).put (some 39) (.int .i64 Yn)).put (some 40) (.pointer (some ⟨q + 3, 0, none⟩))).put (some 41) (.pointer (some ⟨q + 3, 1, none⟩))) ∧ W'.heap[q + 3]? = some (.cells #[.int .i64 Xn, .int .i64 Yn, .int .i64 On, .int .i64 Pn, .slice none 0 0] 28 (0, 0)) ∧ Below (q + 3) V2 W' ∧ W'.heap.size = q + 4) ⟨MM.out 2, MM.out 3, FM.out 0, FM.out 1⟩ (fun hS => ?_) ?_
  · skip
    have bV : Below (q + 3) V2 V2.drew := (Below.refl _ _).drew
    have gm : V2.drew.heap[q + 3]? = _ := gm
    have hsz2 : V2.drew.heap.size = q + 4 := hs2'
    have O1_w0 := O1_w0.out
    have P1_w0 := P1_w0.out
    have Xn_w0 := Xn_w0.out
    have Yn_w0 := Yn_w0.out
    clear gf2 gr1 gr2 hb2 hN hNf hs2'
    generalize V2.drew = V0 at *
    refine wpAnyH_take (i := 0) (v := .pointer (some ⟨q + 3, 2, none⟩)) rfl (by as_aux_lemma => kernel_rfl) (by as_aux_lemma => kernel_rfl) (by as_aux_lemma => kernel_rfl) (fun _ _ _ h => h) (Or.inl ⟨by rfl, ?_⟩) hS ?_
    · intro U hU
      obtain ⟨s0, s1, s2, s3⟩ := hU
      go_simp
    simp only [Act.put, List.setIfInBounds_toArray, List.set_cons_zero, List.set_cons_succ]
    refine wpAnyH_take (i := 1) (v := .int .i64 On) rfl (by as_aux_lemma => kernel_rfl) (by as_aux_lemma => kernel_rfl) (by as_aux_lemma => kernel_rfl) (fun _ _ _ h => h) (Or.inl ⟨by rfl, ?_⟩) hS ?_
    · intro U hU
      obtain ⟨s0, s1, s2, s3⟩ := hU
      go_simp
    simp only [Act.put, List.setIfInBounds_toArray, List.set_cons_zero, List.set_cons_succ]
    refine wpAnyH_take (i := 2) (v := .int .i64 O1) rfl (by as_aux_lemma => kernel_rfl) (by as_aux_lemma => kernel_rfl) (by as_aux_lemma => kernel_rfl) (fun _ _ _ h => h) (Or.inl ⟨by rfl, ?_⟩) hS ?_
    · intro U hU
      obtain ⟨s0, s1, s2, s3⟩ := hU
      go_simp
    simp only [Act.put, List.setIfInBounds_toArray, List.set_cons_zero, List.set_cons_succ]
    refine wpAnyH_take (i := 3) (v := .pointer (some ⟨q, 0, none⟩)) rfl (by as_aux_lemma => kernel_rfl) (by as_aux_lemma => kernel_rfl) (by as_aux_lemma => kernel_rfl) (fun _ _ _ h => h) (Or.inl ⟨by rfl, ?_⟩) hS ?_
    · intro U hU
      obtain ⟨s0, s1, s2, s3⟩ := hU
      go_simp
    simp only [Act.put, List.setIfInBounds_toArray, List.set_cons_zero, List.set_cons_succ]
    refine wpAnyH_take (i := 4) (v := .int .i64 fX) rfl (by as_aux_lemma => kernel_rfl) (by as_aux_lemma => kernel_rfl) (by as_aux_lemma => kernel_rfl) (fun _ _ _ h => h) (Or.inl ⟨by rfl, ?_⟩) hS ?_
    · intro U hU
      obtain ⟨s0, s1, s2, s3⟩ := hU
      go_simp
    simp only [Act.put, List.setIfInBounds_toArray, List.set_cons_zero, List.set_cons_succ]
    refine wpAnyH_take (i := 5) (v := .int .i64 side) rfl (by as_aux_lemma => kernel_rfl) (by as_aux_lemma => kernel_rfl) (by as_aux_lemma => kernel_rfl) (fun _ _ _ h => h) (Or.inl ⟨by rfl, ?_⟩) hS ?_
    · intro U hU
      obtain ⟨s0, s1, s2, s3⟩ := hU
      go_simp
    simp only [Act.put, List.setIfInBounds_toArray, List.set_cons_zero, List.set_cons_succ]
    refine wpAnyH_call (i := 6) (v := .int .i64 vX) (f := 20) (args := #[.int .i64 fX, .int .i64 (side : Int)]) rfl (by as_aux_lemma => kernel_rfl) (by as_aux_lemma => kernel_rfl) (by as_aux_lemma => kernel_rfl) (fun _ _ _ h => h) (by rfl) WX.out ?_ hS ?_
    · intro U hU
      obtain ⟨s0, s1, s2, s3⟩ := hU
      go_simp
    simp only [Act.put, List.setIfInBounds_toArray, List.set_cons_zero, List.set_cons_succ]
    refine wpAnyH_take (i := 7) (v := .int .i64 Xn) rfl (by as_aux_lemma => kernel_rfl) (by as_aux_lemma => kernel_rfl) (by as_aux_lemma => kernel_rfl) (fun _ _ _ h => h) (Or.inl ⟨by rfl, ?_⟩) hS ?_
    · intro U hU
      obtain ⟨s0, s1, s2, s3⟩ := hU
      go_simp
    simp only [Act.put, List.setIfInBounds_toArray, List.set_cons_zero, List.set_cons_succ]
    refine wpAnyH_take (i := 8) (v := .pointer (some ⟨q + 3, 3, none⟩)) rfl (by as_aux_lemma => kernel_rfl) (by as_aux_lemma => kernel_rfl) (by as_aux_lemma => kernel_rfl) (fun _ _ _ h => h) (Or.inl ⟨by rfl, ?_⟩) hS ?_
    · intro U hU
      obtain ⟨s0, s1, s2, s3⟩ := hU
      go_simp
    simp only [Act.put, List.setIfInBounds_toArray, List.set_cons_zero, List.set_cons_succ]
    refine wpAnyH_take (i := 9) (v := .int .i64 Pn) rfl (by as_aux_lemma => kernel_rfl) (by as_aux_lemma => kernel_rfl) (by as_aux_lemma => kernel_rfl) (fun _ _ _ h => h) (Or.inl ⟨by rfl, ?_⟩) hS ?_
    · intro U hU
      obtain ⟨s0, s1, s2, s3⟩ := hU
      go_simp
    simp only [Act.put, List.setIfInBounds_toArray, List.set_cons_zero, List.set_cons_succ]
    refine wpAnyH_take (i := 10) (v := .int .i64 P1) rfl (by as_aux_lemma => kernel_rfl) (by as_aux_lemma => kernel_rfl) (by as_aux_lemma => kernel_rfl) (fun _ _ _ h => h) (Or.inl ⟨by rfl, ?_⟩) hS ?_
    · intro U hU
      obtain ⟨s0, s1, s2, s3⟩ := hU
      go_simp
    simp only [Act.put, List.setIfInBounds_toArray, List.set_cons_zero, List.set_cons_succ]
    refine wpAnyH_take (i := 11) (v := .pointer (some ⟨q, 1, none⟩)) rfl (by as_aux_lemma => kernel_rfl) (by as_aux_lemma => kernel_rfl) (by as_aux_lemma => kernel_rfl) (fun _ _ _ h => h) (Or.inl ⟨by rfl, ?_⟩) hS ?_
    · intro U hU
      obtain ⟨s0, s1, s2, s3⟩ := hU
      go_simp
    simp only [Act.put, List.setIfInBounds_toArray, List.set_cons_zero, List.set_cons_succ]
    refine wpAnyH_take (i := 12) (v := .int .i64 fY) rfl (by as_aux_lemma => kernel_rfl) (by as_aux_lemma => kernel_rfl) (by as_aux_lemma => kernel_rfl) (fun _ _ _ h => h) (Or.inl ⟨by rfl, ?_⟩) hS ?_
    · intro U hU
      obtain ⟨s0, s1, s2, s3⟩ := hU
      go_simp
    simp only [Act.put, List.setIfInBounds_toArray, List.set_cons_zero, List.set_cons_succ]
    refine wpAnyH_take (i := 13) (v := .int .i64 side) rfl (by as_aux_lemma => kernel_rfl) (by as_aux_lemma => kernel_rfl) (by as_aux_lemma => kernel_rfl) (fun _ _ _ h => h) (Or.inl ⟨by rfl, ?_⟩) hS ?_
    · intro U hU
      obtain ⟨s0, s1, s2, s3⟩ := hU
      go_simp
    simp only [Act.put, List.setIfInBounds_toArray, List.set_cons_zero, List.set_cons_succ]
    refine wpAnyH_call (i := 14) (v := .int .i64 vY) (f := 20) (args := #[.int .i64 fY, .int .i64 (side : Int)]) rfl (by as_aux_lemma => kernel_rfl) (by as_aux_lemma => kernel_rfl) (by as_aux_lemma => kernel_rfl) (fun _ _ _ h => h) (by rfl) WY.out ?_ hS ?_
    · intro U hU
      obtain ⟨s0, s1, s2, s3⟩ := hU
      go_simp
    simp only [Act.put, List.setIfInBounds_toArray, List.set_cons_zero, List.set_cons_succ]
    refine wpAnyH_take (i := 15) (v := .int .i64 Yn) rfl (by as_aux_lemma => kernel_rfl) (by as_aux_lemma => kernel_rfl) (by as_aux_lemma => kernel_rfl) (fun _ _ _ h => h) (Or.inl ⟨by rfl, ?_⟩) hS ?_
    · intro U hU
      obtain ⟨s0, s1, s2, s3⟩ := hU
      go_simp
    simp only [Act.put, List.setIfInBounds_toArray, List.set_cons_zero, List.set_cons_succ]
    refine wpAnyH_take (i := 16) (v := .pointer (some ⟨q + 3, 0, none⟩)) rfl (by as_aux_lemma => kernel_rfl) (by as_aux_lemma => kernel_rfl) (by as_aux_lemma => kernel_rfl) (fun _ _ _ h => h) (Or.inl ⟨by rfl, ?_⟩) hS ?_
    · intro U hU
      obtain ⟨s0, s1, s2, s3⟩ := hU
      go_simp
    simp only [Act.put, List.setIfInBounds_toArray, List.set_cons_zero, List.set_cons_succ]
    refine wpAnyH_ready (rs := [17]) (by as_aux_lemma => kernel_rfl) (by simp) ?_
    refine AllReadyH.cons (by simp only [List.getElem?_toArray, List.getElem?_cons_succ, List.getElem?_cons_zero]; rfl) (fun K' hK' => ?_) AllReadyH.nil
    have d0 : V0.cell? ⟨q + 3, 0, none⟩ = some (.int .i64 0) := cell_of_row _ _ 0 _ _ (0, 0) gm
    have dz : V0.frozen? ⟨q + 3, 0, none⟩ = false := frozen_of_row _ _ 0 _ _ gm
    go_simp
    have bV' := bV.setCell (p := ⟨q + 3, 0, none⟩) (Nat.le_refl _) (.int .i64 Xn)
    have gm' := heap_set1 (j := 0) gm (.int .i64 Xn)
    have hS' : (V0.setCell ⟨q + 3, 0, none⟩ (.int .i64 Xn)).cell? ⟨q + 3, 2, none⟩ = some (.int .i64 On) ∧ (V0.setCell ⟨q + 3, 0, none⟩ (.int .i64 Xn)).cell? ⟨q + 3, 3, none⟩ = some (.int .i64 Pn) ∧ (V0.setCell ⟨q + 3, 0, none⟩ (.int .i64 Xn)).cell? ⟨q, 0, none⟩ = some (.int .i64 fX) ∧ (V0.setCell ⟨q + 3, 0, none⟩ (.int .i64 Xn)).cell? ⟨q, 1, none⟩ = some (.int .i64 fY) := ⟨cell_of_row _ _ 2 _ _ (0, 0) gm', cell_of_row _ _ 3 _ _ (0, 0) gm', (bV'.cell (p := ⟨q, 0, none⟩) (by simp only; omega)).trans (FM.out 0), (bV'.cell (p := ⟨q, 1, none⟩) (by simp only; omega)).trans (FM.out 1)⟩
    refine hK'.out _ (V0.setCell ⟨q + 3, 0, none⟩ (.int .i64 Xn)) hS' (fun _ => ?_)
    clear d0 dz hS
    have hS := hS'
    clear hS'
    have hsz2 : (V0.setCell ⟨q + 3, 0, none⟩ (.int .i64 Xn)).heap.size = _ := (by simp : _ = V0.heap.size).trans hsz2
    generalize V0.setCell ⟨q + 3, 0, none⟩ (.int .i64 Xn) = U0 at *
    clear hK' K'
    try simp only [Act.put, List.setIfInBounds_toArray, List.set_cons_zero, List.set_cons_succ]
    refine wpAnyH_take (i := 18) (v := .pointer (some ⟨q + 3, 1, none⟩)) rfl (by as_aux_lemma => kernel_rfl) (by as_aux_lemma => kernel_rfl) (by as_aux_lemma => kernel_rfl) (fun _ _ _ h => h) (Or.inl ⟨by rfl, ?_⟩) hS ?_
    · intro U hU
      obtain ⟨s0, s1, s2, s3⟩ := hU
      go_simp
    simp only [Act.put, List.setIfInBounds_toArray, List.set_cons_zero, List.set_cons_succ]
    refine wpAnyH_ready (rs := [19]) (by as_aux_lemma => kernel_rfl) (by simp) ?_
    refine AllReadyH.cons (by simp only [List.getElem?_toArray, List.getElem?_cons_succ, List.getElem?_cons_zero]; rfl) (fun K' hK' => ?_) AllReadyH.nil
    have d0 : U0.cell? ⟨q + 3, 1, none⟩ = some (.int .i64 0) := cell_of_row _ _ 1 _ _ (0, 0) gm'
    have dz : U0.frozen? ⟨q + 3, 1, none⟩ = false := frozen_of_row _ _ 1 _ _ gm'
    go_simp
    have bV'' := bV'.setCell (p := ⟨q + 3, 1, none⟩) (Nat.le_refl _) (.int .i64 Yn)
    have gm'' := heap_set1 (j := 1) gm' (.int .i64 Yn)
    have hS' : (U0.setCell ⟨q + 3, 1, none⟩ (.int .i64 Yn)).cell? ⟨q + 3, 2, none⟩ = some (.int .i64 On) ∧ (U0.setCell ⟨q + 3, 1, none⟩ (.int .i64 Yn)).cell? ⟨q + 3, 3, none⟩ = some (.int .i64 Pn) ∧ (U0.setCell ⟨q + 3, 1, none⟩ (.int .i64 Yn)).cell? ⟨q, 0, none⟩ = some (.int .i64 fX) ∧ (U0.setCell ⟨q + 3, 1, none⟩ (.int .i64 Yn)).cell? ⟨q, 1, none⟩ = some (.int .i64 fY) := ⟨cell_of_row _ _ 2 _ _ (0, 0) gm'', cell_of_row _ _ 3 _ _ (0, 0) gm'', (bV''.cell (p := ⟨q, 0, none⟩) (by simp only; omega)).trans (FM.out 0), (bV''.cell (p := ⟨q, 1, none⟩) (by simp only; omega)).trans (FM.out 1)⟩
    refine hK'.out _ (U0.setCell ⟨q + 3, 1, none⟩ (.int .i64 Yn)) hS' (fun _ => ?_)
    clear d0 dz hS
    have hS := hS'
    clear hS'
    have hsz2 : (U0.setCell ⟨q + 3, 1, none⟩ (.int .i64 Yn)).heap.size = _ := (by simp : _ = U0.heap.size).trans hsz2
    generalize U0.setCell ⟨q + 3, 1, none⟩ (.int .i64 Yn) = U1 at *
    clear hK' K'
    try simp only [Act.put, List.setIfInBounds_toArray, List.set_cons_zero, List.set_cons_succ]
    refine wpAnyH_done (by as_aux_lemma => kernel_rfl) ?_ _
    simp only [OnlyN]
    refine ⟨?_, gm'', bV'', ?_⟩
    · first | trivial | rfl
    · exact hsz2
  rintro a' V3 ⟨rfl, gm3, b3, hs3'⟩
  simp only [Act.put, List.setIfInBounds_toArray, List.set_cons_zero, List.set_cons_succ]
  have gf3 := (b3.block q (by omega)).trans gf2
  have gr1 := (b3.block (q + 1) (by omega)).trans gr1
  have gr2 := (b3.block (q + 2) (by omega)).trans gr2
  have hb3 := hb2.trans (b3.mono (by omega))
  clear gf2 FM MM gm b3 hb2 hs2'
  have FM := Lib.hid (fun i => cell_of_row _ _ i _ _ (0, 0) gf3)
  go_wp2_with fail
  refine held_cut (by as_aux_lemma => kernel_rfl) (fun U => U.cell? ⟨q, 13, none⟩ = some (.int .i64 fL) ∧ U.cell? ⟨q, 14, none⟩ = some (.int .i64 fcw) ∧ U.cell? ⟨q, 15, none⟩ = some (.int .i64 fch) ∧ U.cell? ⟨q, 16, none⟩ = some (.int .i64 fP) ∧ U.cell? ⟨q, 17, none⟩ = some (.int .i64 fSt) ∧ U.cell? ⟨q, 18, none⟩ = some (.int .i64 fO) ∧ U.cell? ⟨q, 19, none⟩ = some (.int .i64 fLy) ∧ U.cell? ⟨q, 9, none⟩ = some (.bool fsop) ∧ U.cell? ⟨q, 10, none⟩ = some (.bool feph)) (fun a0 a' W' => a' = (((((((((((((((((((((((((((((((a0.put (some 42) (.pointer (some ⟨q, 13, none⟩))).put (some 43) (.int .i64 fL)).put (some 44) (.int .i64 lv)).put (some 45) (.pointer (some ⟨q, 14, none⟩))).put (some 46) (.int .i64 fcw)).put (some 47) (.int .i64 vcw)).put (some 48) (.int .i64 cwn)).put (some 49) (.pointer (some ⟨q, 15, none⟩))).put (some 50) (.int .i64 fch)).put (some 51) (.int .i64 vch)).put (some 52) (.int .i64 chn)).put (some 53) (.pointer (some ⟨q, 16, none⟩))).put (some 54) (.int .i64 fP)).put (some 55) (.int .i64 vP)).put (some 56) (.int .i64 pr1)).put (some 57) (.pointer (some ⟨q, 17, none⟩))).put (some 58) (.int .i64 fSt)).put (some 59) (.int .i64 st)).put (some 60) (.pointer (some ⟨q, 18, none⟩))).put (some 61) (.int .i64 fO)).put (some 62) (.int .i64 od)).put (some 63) (.pointer (some ⟨q, 19, none⟩))).put (some 64) (.int .i64 fLy)).put (some 65) (.int .i64 vly)).put (some 66) (.int .i64 lyn)).put (some 67) (.pointer (some ⟨q, 9, none⟩))).put (some 68) (.bool fsop)).put (some 69) (.pointer (some ⟨q, 10, none⟩))).put (some 70) (.bool feph)).put (some 71) (.agg #[.int .i64 0, .int .i64 0, .int .i64 lv, .int .i64 cwn, .int .i64 chn, .int .i64 pr1, .int .i64 st, .int .i64 od, .int .i64 lyn, .bool false, .bool fsop, .bool feph])).put (some 7) (.pointer (some ⟨q + 4, 0, none⟩))) ∧ W'.heap[q + 4]? = some (.cells #[.int .i64 0, .int .i64 0, .int .i64 lv, .int .i64 cwn, .int .i64 chn, .int .i64 pr1, .int .i64 st, .int .i64 od, .int .i64 lyn, .bool false, .bool fsop, .bool feph] 30 (0, 0)) ∧ Below (q + 4) V3 W' ∧ W'.heap.size = q + 5) ⟨FM.out 13, FM.out 14, FM.out 15, FM.out 16, FM.out 17, FM.out 18, FM.out 19, FM.out 9, FM.out 10⟩ (fun hS => ?_) ?_
  · skip
    have hSB : ∀ U : World, Below (q + 4) V3 U → U.cell? ⟨q, 13, none⟩ = some (.int .i64 fL) ∧ U.cell? ⟨q, 14, none⟩ = some (.int .i64 fcw) ∧ U.cell? ⟨q, 15, none⟩ = some (.int .i64 fch) ∧ U.cell? ⟨q, 16, none⟩ = some (.int .i64 fP) ∧ U.cell? ⟨q, 17, none⟩ = some (.int .i64 fSt) ∧ U.cell? ⟨q, 18, none⟩ = some (.int .i64 fO) ∧ U.cell? ⟨q, 19, none⟩ = some (.int .i64 fLy) ∧ U.cell? ⟨q, 9, none⟩ = some (.bool fsop) ∧ U.cell? ⟨q, 10, none⟩ = some (.bool feph) := fun U h => ⟨(h.cell (p := ⟨q, 13, none⟩) (by simp only; omega)).trans (FM.out 13), (h.cell (p := ⟨q, 14, none⟩) (by simp only; omega)).trans (FM.out 14), (h.cell (p := ⟨q, 15, none⟩) (by simp only; omega)).trans (FM.out 15), (h.cell (p := ⟨q, 16, none⟩) (by simp only; omega)).trans (FM.out 16), (h.cell (p := ⟨q, 17, none⟩) (by simp only; omega)).trans (FM.out 17), (h.cell (p := ⟨q, 18, none⟩) (by simp only; omega)).trans (FM.out 18), (h.cell (p := ⟨q, 19, none⟩) (by simp only; omega)).trans (FM.out 19), (h.cell (p := ⟨q, 9, none⟩) (by simp only; omega)).trans (FM.out 9), (h.cell (p := ⟨q, 10, none⟩) (by simp only; omega)).trans (FM.out 10)⟩
    have bV : Below (q + 4) V3 V3.drew := (Below.refl _ _).drew
    have hsz : V3.drew.heap.size = q + 4 := hs3'
    have cwn_w0 := cwn_w0.out
    have chn_w0 := chn_w0.out
    have pr1_w0 := pr1_w0.out
    have lyn_w0 := lyn_w0.out
    clear gf3 gr1 gr2 gm3 hb3 hN hNf hs3'
    generalize V3.drew = V0 at *
    refine wpAnyH_take (i := 0) (v := .pointer (some ⟨q, 13, none⟩)) rfl (by as_aux_lemma => kernel_rfl) (by as_aux_lemma => kernel_rfl) (by as_aux_lemma => kernel_rfl) (fun _ _ _ h => h) (Or.inl ⟨by rfl, ?_⟩) hS ?_
    · intro U hU
      obtain ⟨s0, s1, s2, s3, s4, s5, s6, s7, s8⟩ := hU
      go_simp
    simp only [Act.put, List.setIfInBounds_toArray, List.set_cons_zero, List.set_cons_succ]
    refine wpAnyH_take (i := 1) (v := .int .i64 fL) rfl (by as_aux_lemma => kernel_rfl) (by as_aux_lemma => kernel_rfl) (by as_aux_lemma => kernel_rfl) (fun _ _ _ h => h) (Or.inl ⟨by rfl, ?_⟩) hS ?_
    · intro U hU
      obtain ⟨s0, s1, s2, s3, s4, s5, s6, s7, s8⟩ := hU
      go_simp
    simp only [Act.put, List.setIfInBounds_toArray, List.set_cons_zero, List.set_cons_succ]
    refine wpAnyH_call (i := 2) (v := .int .i64 lv) (f := 20) (args := #[.int .i64 fL, .int .i64 6]) rfl (by as_aux_lemma => kernel_rfl) (by as_aux_lemma => kernel_rfl) (by as_aux_lemma => kernel_rfl) (fun _ _ _ h => h) (by rfl) WL.out ?_ hS ?_
    · intro U hU
      obtain ⟨s0, s1, s2, s3, s4, s5, s6, s7, s8⟩ := hU
      go_simp
    simp only [Act.put, List.setIfInBounds_toArray, List.set_cons_zero, List.set_cons_succ]
    refine wpAnyH_take (i := 3) (v := .pointer (some ⟨q, 14, none⟩)) rfl (by as_aux_lemma => kernel_rfl) (by as_aux_lemma => kernel_rfl) (by as_aux_lemma => kernel_rfl) (fun _ _ _ h => h) (Or.inl ⟨by rfl, ?_⟩) hS ?_
    · intro U hU
      obtain ⟨s0, s1, s2, s3, s4, s5, s6, s7, s8⟩ := hU
      go_simp
    simp only [Act.put, List.setIfInBounds_toArray, List.set_cons_zero, List.set_cons_succ]
    refine wpAnyH_take (i := 4) (v := .int .i64 fcw) rfl (by as_aux_lemma => kernel_rfl) (by as_aux_lemma => kernel_rfl) (by as_aux_lemma => kernel_rfl) (fun _ _ _ h => h) (Or.inl ⟨by rfl, ?_⟩) hS ?_
    · intro U hU
      obtain ⟨s0, s1, s2, s3, s4, s5, s6, s7, s8⟩ := hU
      go_simp
    simp only [Act.put, List.setIfInBounds_toArray, List.set_cons_zero, List.set_cons_succ]
    refine wpAnyH_call (i := 5) (v := .int .i64 vcw) (f := 20) (args := #[.int .i64 fcw, .int .i64 3]) rfl (by as_aux_lemma => kernel_rfl) (by as_aux_lemma => kernel_rfl) (by as_aux_lemma => kernel_rfl) (fun _ _ _ h => h) (by rfl) Wcw.out ?_ hS ?_
    · intro U hU
      obtain ⟨s0, s1, s2, s3, s4, s5, s6, s7, s8⟩ := hU
      go_simp
    simp only [Act.put, List.setIfInBounds_toArray, List.set_cons_zero, List.set_cons_succ]
    refine wpAnyH_take (i := 6) (v := .int .i64 cwn) rfl (by as_aux_lemma => kernel_rfl) (by as_aux_lemma => kernel_rfl) (by as_aux_lemma => kernel_rfl) (fun _ _ _ h => h) (Or.inl ⟨by rfl, ?_⟩) hS ?_
    · intro U hU
      obtain ⟨s0, s1, s2, s3, s4, s5, s6, s7, s8⟩ := hU
      go_simp
    simp only [Act.put, List.setIfInBounds_toArray, List.set_cons_zero, List.set_cons_succ]
    refine wpAnyH_take (i := 7) (v := .pointer (some ⟨q, 15, none⟩)) rfl (by as_aux_lemma => kernel_rfl) (by as_aux_lemma => kernel_rfl) (by as_aux_lemma => kernel_rfl) (fun _ _ _ h => h) (Or.inl ⟨by rfl, ?_⟩) hS ?_
    · intro U hU
      obtain ⟨s0, s1, s2, s3, s4, s5, s6, s7, s8⟩ := hU
      go_simp
    simp only [Act.put, List.setIfInBounds_toArray, List.set_cons_zero, List.set_cons_succ]
    refine wpAnyH_take (i := 8) (v := .int .i64 fch) rfl (by as_aux_lemma => kernel_rfl) (by as_aux_lemma => kernel_rfl) (by as_aux_lemma => kernel_rfl) (fun _ _ _ h => h) (Or.inl ⟨by rfl, ?_⟩) hS ?_
    · intro U hU
      obtain ⟨s0, s1, s2, s3, s4, s5, s6, s7, s8⟩ := hU
      go_simp
    simp only [Act.put, List.setIfInBounds_toArray, List.set_cons_zero, List.set_cons_succ]
    refine wpAnyH_call (i := 9) (v := .int .i64 vch) (f := 20) (args := #[.int .i64 fch, .int .i64 3]) rfl (by as_aux_lemma => kernel_rfl) (by as_aux_lemma => kernel_rfl) (by as_aux_lemma => kernel_rfl) (fun _ _ _ h => h) (by rfl) Wch.out ?_ hS ?_
    · intro U hU
      obtain ⟨s0, s1, s2, s3, s4, s5, s6, s7, s8⟩ := hU
      go_simp
    simp only [Act.put, List.setIfInBounds_toArray, List.set_cons_zero, List.set_cons_succ]
    refine wpAnyH_take (i := 10) (v := .int .i64 chn) rfl (by as_aux_lemma => kernel_rfl) (by as_aux_lemma => kernel_rfl) (by as_aux_lemma => kernel_rfl) (fun _ _ _ h => h) (Or.inl ⟨by rfl, ?_⟩) hS ?_
    · intro U hU
      obtain ⟨s0, s1, s2, s3, s4, s5, s6, s7, s8⟩ := hU
      go_simp
    simp only [Act.put, List.setIfInBounds_toArray, List.set_cons_zero, List.set_cons_succ]
    refine wpAnyH_take (i := 11) (v := .pointer (some ⟨q, 16, none⟩)) rfl (by as_aux_lemma => kernel_rfl) (by as_aux_lemma => kernel_rfl) (by as_aux_lemma => kernel_rfl) (fun _ _ _ h => h) (Or.inl ⟨by rfl, ?_⟩) hS ?_
    · intro U hU
      obtain ⟨s0, s1, s2, s3, s4, s5, s6, s7, s8⟩ := hU
      go_simp
    simp only [Act.put, List.setIfInBounds_toArray, List.set_cons_zero, List.set_cons_succ]
    refine wpAnyH_take (i := 12) (v := .int .i64 fP) rfl (by as_aux_lemma => kernel_rfl) (by as_aux_lemma => kernel_rfl) (by as_aux_lemma => kernel_rfl) (fun _ _ _ h => h) (Or.inl ⟨by rfl, ?_⟩) hS ?_
    · intro U hU
      obtain ⟨s0, s1, s2, s3, s4, s5, s6, s7, s8⟩ := hU
      go_simp
    simp only [Act.put, List.setIfInBounds_toArray, List.set_cons_zero, List.set_cons_succ]
    refine wpAnyH_call (i := 13) (v := .int .i64 vP) (f := 20) (args := #[.int .i64 fP, .int .i64 5]) rfl (by as_aux_lemma => kernel_rfl) (by as_aux_lemma => kernel_rfl) (by as_aux_lemma => kernel_rfl) (fun _ _ _ h => h) (by rfl) WP.out ?_ hS ?_
    · intro U hU
      obtain ⟨s0, s1, s2, s3, s4, s5, s6, s7, s8⟩ := hU
      go_simp
    simp only [Act.put, List.setIfInBounds_toArray, List.set_cons_zero, List.set_cons_succ]
    refine wpAnyH_take (i := 14) (v := .int .i64 pr1) rfl (by as_aux_lemma => kernel_rfl) (by as_aux_lemma => kernel_rfl) (by as_aux_lemma => kernel_rfl) (fun _ _ _ h => h) (Or.inl ⟨by rfl, ?_⟩) hS ?_
    · intro U hU
      obtain ⟨s0, s1, s2, s3, s4, s5, s6, s7, s8⟩ := hU
      go_simp
    simp only [Act.put, List.setIfInBounds_toArray, List.set_cons_zero, List.set_cons_succ]
    refine wpAnyH_take (i := 15) (v := .pointer (some ⟨q, 17, none⟩)) rfl (by as_aux_lemma => kernel_rfl) (by as_aux_lemma => kernel_rfl) (by as_aux_lemma => kernel_rfl) (fun _ _ _ h => h) (Or.inl ⟨by rfl, ?_⟩) hS ?_
    · intro U hU
      obtain ⟨s0, s1, s2, s3, s4, s5, s6, s7, s8⟩ := hU
      go_simp
    simp only [Act.put, List.setIfInBounds_toArray, List.set_cons_zero, List.set_cons_succ]
    refine wpAnyH_take (i := 16) (v := .int .i64 fSt) rfl (by as_aux_lemma => kernel_rfl) (by as_aux_lemma => kernel_rfl) (by as_aux_lemma => kernel_rfl) (fun _ _ _ h => h) (Or.inl ⟨by rfl, ?_⟩) hS ?_
    · intro U hU
      obtain ⟨s0, s1, s2, s3, s4, s5, s6, s7, s8⟩ := hU
      go_simp
    simp only [Act.put, List.setIfInBounds_toArray, List.set_cons_zero, List.set_cons_succ]
    refine wpAnyH_call (i := 17) (v := .int .i64 st) (f := 20) (args := #[.int .i64 fSt, .int .i64 64]) rfl (by as_aux_lemma => kernel_rfl) (by as_aux_lemma => kernel_rfl) (by as_aux_lemma => kernel_rfl) (fun _ _ _ h => h) (by rfl) WSt.out ?_ hS ?_
    · intro U hU
      obtain ⟨s0, s1, s2, s3, s4, s5, s6, s7, s8⟩ := hU
      go_simp
    simp only [Act.put, List.setIfInBounds_toArray, List.set_cons_zero, List.set_cons_succ]
    refine wpAnyH_take (i := 18) (v := .pointer (some ⟨q, 18, none⟩)) rfl (by as_aux_lemma => kernel_rfl) (by as_aux_lemma => kernel_rfl) (by as_aux_lemma => kernel_rfl) (fun _ _ _ h => h) (Or.inl ⟨by rfl, ?_⟩) hS ?_
    · intro U hU
      obtain ⟨s0, s1, s2, s3, s4, s5, s6, s7, s8⟩ := hU
      go_simp
    simp only [Act.put, List.setIfInBounds_toArray, List.set_cons_zero, List.set_cons_succ]
    refine wpAnyH_take (i := 19) (v := .int .i64 fO) rfl (by as_aux_lemma => kernel_rfl) (by as_aux_lemma => kernel_rfl) (by as_aux_lemma => kernel_rfl) (fun _ _ _ h => h) (Or.inl ⟨by rfl, ?_⟩) hS ?_
    · intro U hU
      obtain ⟨s0, s1, s2, s3, s4, s5, s6, s7, s8⟩ := hU
      go_simp
    simp only [Act.put, List.setIfInBounds_toArray, List.set_cons_zero, List.set_cons_succ]
    refine wpAnyH_call (i := 20) (v := .int .i64 od) (f := 20) (args := #[.int .i64 fO, .int .i64 5]) rfl (by as_aux_lemma => kernel_rfl) (by as_aux_lemma => kernel_rfl) (by as_aux_lemma => kernel_rfl) (fun _ _ _ h => h) (by rfl) WO.out ?_ hS ?_
    · intro U hU
      obtain ⟨s0, s1, s2, s3, s4, s5, s6, s7, s8⟩ := hU
      go_simp
    simp only [Act.put, List.setIfInBounds_toArray, List.set_cons_zero, List.set_cons_succ]
    refine wpAnyH_take (i := 21) (v := .pointer (some ⟨q, 19, none⟩)) rfl (by as_aux_lemma => kernel_rfl) (by as_aux_lemma => kernel_rfl) (by as_aux_lemma => kernel_rfl) (fun _ _ _ h => h) (Or.inl ⟨by rfl, ?_⟩) hS ?_
    · intro U hU
      obtain ⟨s0, s1, s2, s3, s4, s5, s6, s7, s8⟩ := hU
      go_simp
    simp only [Act.put, List.setIfInBounds_toArray, List.set_cons_zero, List.set_cons_succ]
    refine wpAnyH_take (i := 22) (v := .int .i64 fLy) rfl (by as_aux_lemma => kernel_rfl) (by as_aux_lemma => kernel_rfl) (by as_aux_lemma => kernel_rfl) (fun _ _ _ h => h) (Or.inl ⟨by rfl, ?_⟩) hS ?_
    · intro U hU
      obtain ⟨s0, s1, s2, s3, s4, s5, s6, s7, s8⟩ := hU
      go_simp
    simp only [Act.put, List.setIfInBounds_toArray, List.set_cons_zero, List.set_cons_succ]
    refine wpAnyH_call (i := 23) (v := .int .i64 vly) (f := 20) (args := #[.int .i64 fLy, .int .i64 4]) rfl (by as_aux_lemma => kernel_rfl) (by as_aux_lemma => kernel_rfl) (by as_aux_lemma => kernel_rfl) (fun _ _ _ h => h) (by rfl) WLy.out ?_ hS ?_
    · intro U hU
      obtain ⟨s0, s1, s2, s3, s4, s5, s6, s7, s8⟩ := hU
      go_simp
    simp only [Act.put, List.setIfInBounds_toArray, List.set_cons_zero, List.set_cons_succ]
    refine wpAnyH_take (i := 24) (v := .int .i64 lyn) rfl (by as_aux_lemma => kernel_rfl) (by as_aux_lemma => kernel_rfl) (by as_aux_lemma => kernel_rfl) (fun _ _ _ h => h) (Or.inl ⟨by rfl, ?_⟩) hS ?_
    · intro U hU
      obtain ⟨s0, s1, s2, s3, s4, s5, s6, s7, s8⟩ := hU
      go_simp
    simp only [Act.put, List.setIfInBounds_toArray, List.set_cons_zero, List.set_cons_succ]
    refine wpAnyH_take (i := 25) (v := .pointer (some ⟨q, 9, none⟩)) rfl (by as_aux_lemma => kernel_rfl) (by as_aux_lemma => kernel_rfl) (by as_aux_lemma => kernel_rfl) (fun _ _ _ h => h) (Or.inl ⟨by rfl, ?_⟩) hS ?_
    · intro U hU
      obtain ⟨s0, s1, s2, s3, s4, s5, s6, s7, s8⟩ := hU
      go_simp
    simp only [Act.put, List.setIfInBounds_toArray, List.set_cons_zero, List.set_cons_succ]
    refine wpAnyH_take (i := 26) (v := .bool fsop) rfl (by as_aux_lemma => kernel_rfl) (by as_aux_lemma => kernel_rfl) (by as_aux_lemma => kernel_rfl) (fun _ _ _ h => h) (Or.inl ⟨by rfl, ?_⟩) hS ?_
    · intro U hU
      obtain ⟨s0, s1, s2, s3, s4, s5, s6, s7, s8⟩ := hU
      go_simp
    simp only [Act.put, List.setIfInBounds_toArray, List.set_cons_zero, List.set_cons_succ]
    refine wpAnyH_take (i := 27) (v := .pointer (some ⟨q, 10, none⟩)) rfl (by as_aux_lemma => kernel_rfl) (by as_aux_lemma => kernel_rfl) (by as_aux_lemma => kernel_rfl) (fun _ _ _ h => h) (Or.inl ⟨by rfl, ?_⟩) hS ?_
    · intro U hU
      obtain ⟨s0, s1, s2, s3, s4, s5, s6, s7, s8⟩ := hU
      go_simp
    simp only [Act.put, List.setIfInBounds_toArray, List.set_cons_zero, List.set_cons_succ]
    refine wpAnyH_take (i := 28) (v := .bool feph) rfl (by as_aux_lemma => kernel_rfl) (by as_aux_lemma => kernel_rfl) (by as_aux_lemma => kernel_rfl) (fun _ _ _ h => h) (Or.inl ⟨by rfl, ?_⟩) hS ?_
    · intro U hU
      obtain ⟨s0, s1, s2, s3, s4, s5, s6, s7, s8⟩ := hU
      go_simp
    simp only [Act.put, List.setIfInBounds_toArray, List.set_cons_zero, List.set_cons_succ]
    refine wpAnyH_take (i := 29) (v := .agg #[.int .i64 0, .int .i64 0, .int .i64 lv, .int .i64 cwn, .int .i64 chn, .int .i64 pr1, .int .i64 st, .int .i64 od, .int .i64 lyn, .bool false, .bool fsop, .bool feph]) rfl (by as_aux_lemma => kernel_rfl) (by as_aux_lemma => kernel_rfl) (by as_aux_lemma => kernel_rfl) (fun _ _ _ h => h) (Or.inl ⟨by rfl, ?_⟩) hS ?_
    · intro U hU
      obtain ⟨s0, s1, s2, s3, s4, s5, s6, s7, s8⟩ := hU
      go_simp
    simp only [Act.put, List.setIfInBounds_toArray, List.set_cons_zero, List.set_cons_succ]
    refine wpAnyH_ready (rs := [30]) (by as_aux_lemma => kernel_rfl) (by simp) ?_
    refine AllReadyH.cons (by simp only [List.getElem?_toArray, List.getElem?_cons_succ, List.getElem?_cons_zero]; rfl) (fun K' hK' => ?_) AllReadyH.nil
    go_simp
    have gp := heap_alloc_new V0 (.cells #[.int .i64 0, .int .i64 0, .int .i64 0, .int .i64 0, .int .i64 0, .int .i64 0, .int .i64 0, .int .i64 0, .int .i64 0, .bool false, .bool false, .bool false] 30)
    have bV' := bV.alloc (Nat.le_of_eq hsz.symm) (.cells #[.int .i64 0, .int .i64 0, .int .i64 0, .int .i64 0, .int .i64 0, .int .i64 0, .int .i64 0, .int .i64 0, .int .i64 0, .bool false, .bool false, .bool false] 30)
    have hS := hSB _ bV'
    refine hK'.out _ _ hS (fun _ => ?_)
    rw [hsz] at gp
    try rw [hsz]
    have hsz' : (V0.alloc (.cells #[.int .i64 0, .int .i64 0, .int .i64 0, .int .i64 0, .int .i64 0, .int .i64 0, .int .i64 0, .int .i64 0, .int .i64 0, .bool false, .bool false, .bool false] 30)).heap.size = q + 4 + 1 := by rw [World.size_alloc, hsz]
    generalize V0.alloc (.cells #[.int .i64 0, .int .i64 0, .int .i64 0, .int .i64 0, .int .i64 0, .int .i64 0, .int .i64 0, .int .i64 0, .int .i64 0, .bool false, .bool false, .bool false] 30) = U0 at *
    clear hK' K'
    try simp only [Act.put, List.setIfInBounds_toArray, List.set_cons_zero, List.set_cons_succ]
    refine wpAnyH_ready (rs := [31]) (by as_aux_lemma => kernel_rfl) (by simp) ?_
    refine AllReadyH.cons (by simp only [List.getElem?_toArray, List.getElem?_cons_succ, List.getElem?_cons_zero]; rfl) (fun K' hK' => ?_) AllReadyH.nil
    have d0 : U0.cell? ⟨q + 4, 0, none⟩ = some (.int .i64 0) := cell_of_row _ _ 0 _ _ (0, 0) gp
    have d1 : U0.cell? ⟨q + 4, 1, none⟩ = some (.int .i64 0) := cell_of_row _ _ 1 _ _ (0, 0) gp
    have d2 : U0.cell? ⟨q + 4, 2, none⟩ = some (.int .i64 0) := cell_of_row _ _ 2 _ _ (0, 0) gp
    have d3 : U0.cell? ⟨q + 4, 3, none⟩ = some (.int .i64 0) := cell_of_row _ _ 3 _ _ (0, 0) gp
    have d4 : U0.cell? ⟨q + 4, 4, none⟩ = some (.int .i64 0) := cell_of_row _ _ 4 _ _ (0, 0) gp
    have d5 : U0.cell? ⟨q + 4, 5, none⟩ = some (.int .i64 0) := cell_of_row _ _ 5 _ _ (0, 0) gp
    have d6 : U0.cell? ⟨q + 4, 6, none⟩ = some (.int .i64 0) := cell_of_row _ _ 6 _ _ (0, 0) gp
    have d7 : U0.cell? ⟨q + 4, 7, none⟩ = some (.int .i64 0) := cell_of_row _ _ 7 _ _ (0, 0) gp
    have d8 : U0.cell? ⟨q + 4, 8, none⟩ = some (.int .i64 0) := cell_of_row _ _ 8 _ _ (0, 0) gp
    have d9 : U0.cell? ⟨q + 4, 9, none⟩ = some (.bool false) := cell_of_row _ _ 9 _ _ (0, 0) gp
    have d10 : U0.cell? ⟨q + 4, 10, none⟩ = some (.bool false) := cell_of_row _ _ 10 _ _ (0, 0) gp
    have d11 : U0.cell? ⟨q + 4, 11, none⟩ = some (.bool false) := cell_of_row _ _ 11 _ _ (0, 0) gp
    have dz : ∀ i, U0.frozen? ⟨q + 4, i, none⟩ = false := fun i => frozen_of_row _ _ i _ _ gp
    go_simp
    obtain ⟨U1, hV, g9, b9, s9⟩ : ∃ V, ((((((((((((U0.setCell ⟨q + 4, 0, none⟩ (.int .i64 0)).setCell ⟨q + 4, 1, none⟩ (.int .i64 0)).setCell ⟨q + 4, 2, none⟩ (.int .i64 lv)).setCell ⟨q + 4, 3, none⟩ (.int .i64 cwn)).setCell ⟨q + 4, 4, none⟩ (.int .i64 chn)).setCell ⟨q + 4, 5, none⟩ (.int .i64 pr1)).setCell ⟨q + 4, 6, none⟩ (.int .i64 st)).setCell ⟨q + 4, 7, none⟩ (.int .i64 od)).setCell ⟨q + 4, 8, none⟩ (.int .i64 lyn)).setCell ⟨q + 4, 9, none⟩ (.bool false)).setCell ⟨q + 4, 10, none⟩ (.bool fsop)).setCell ⟨q + 4, 11, none⟩ (.bool feph)) = V ∧ V.heap[q + 4]? = some (.cells #[.int .i64 0, .int .i64 0, .int .i64 lv, .int .i64 cwn, .int .i64 chn, .int .i64 pr1, .int .i64 st, .int .i64 od, .int .i64 lyn, .bool false, .bool fsop, .bool feph] 30 (0, 0)) ∧ Below (q + 4) V3 V ∧ V.heap.size = _ := ⟨_, rfl, setRow_at (old := [.int .i64 0, .int .i64 0, .int .i64 0, .int .i64 0, .int .i64 0, .int .i64 0, .int .i64 0, .int .i64 0, .int .i64 0, .bool false, .bool false, .bool false]) [.int .i64 0, .int .i64 0, .int .i64 lv, .int .i64 cwn, .int .i64 chn, .int .i64 pr1, .int .i64 st, .int .i64 od, .int .i64 lyn, .bool false, .bool fsop, .bool feph] rfl gp, setRow_below (Nat.le_refl _) [.int .i64 0, .int .i64 0, .int .i64 lv, .int .i64 cwn, .int .i64 chn, .int .i64 pr1, .int .i64 st, .int .i64 od, .int .i64 lyn, .bool false, .bool fsop, .bool feph] 0 _ bV', (setRow_size _ [.int .i64 0, .int .i64 0, .int .i64 lv, .int .i64 cwn, .int .i64 chn, .int .i64 pr1, .int .i64 st, .int .i64 od, .int .i64 lyn, .bool false, .bool fsop, .bool feph] 0 _).trans hsz'⟩
    rw [hV]
    clear hV
    refine hK'.out _ _ (hSB _ b9) (fun _ => ?_)
    clear dz d0 d1 d2 d3 d4 d5 d6 d7 d8 d9 d10 d11
    clear hK' K'
    try simp only [Act.put, List.setIfInBounds_toArray, List.set_cons_zero, List.set_cons_succ]
    refine wpAnyH_done (by as_aux_lemma => kernel_rfl) ?_ _
    simp only [OnlyN]
    refine ⟨?_, g9, b9, s9⟩
    first | trivial | rfl
  rintro a' V4 ⟨rfl, gp4, b4, hs4'⟩
  simp only [Act.put, List.setIfInBounds_toArray, List.set_cons_zero, List.set_cons_succ]
  have gf4 := (b4.block q (by omega)).trans gf3
  have gr1 := (b4.block (q + 1) (by omega)).trans gr1
  have gr2 := (b4.block (q + 2) (by omega)).trans gr2
  have gm4 := (b4.block (q + 3) (by omega)).trans gm3
  have hb4 := hb3.trans (b4.mono (by omega))
  clear gf3 FM gm3 b4 hb3 hs3'
  have FM := Lib.hid (fun i => cell_of_row _ _ i _ _ (0, 0) gf4)
  have f16 : V4.cell? ⟨q, 16, none⟩ = some (.int .i64 fP) := FM.out 16
  have c5 : V4.cell? ⟨q + 4, 5, none⟩ = some (.int .i64 pr1) := cell_of_row _ _ 5 _ _ (0, 0) gp4
  have z5 : V4.frozen? ⟨q + 4, 5, none⟩ = false := frozen_of_row _ _ 5 _ _ gp4
  have HNX := Lib.hid (And.intro hN (And.intro hNf hNn))
  clear hN hNf hNn
  go_upto_if 75 with fail
  go_cut [] from 17 (fun wc' => ∃ pr : Nat, 1 ≤ pr ∧ pr ≤ 15 ∧ wc'.heap[q + 4]? = some (.cells #[.int .i64 0, .int .i64 0, .int .i64 lv, .int .i64 cwn, .int .i64 chn, .int .i64 pr, .int .i64 st, .int .i64 od, .int .i64 lyn, .bool false, .bool fsop, .bool feph] 30 (0, 0)) ∧ Below (q + 4) V4 wc' ∧ wc'.heap.size = q + 5)
  case first =>
    have gp4' := heap_set1 (j := 5) gp4 (.int .i64 15)
    have hz := (Below.refl (q + 4) V4).setCell (p := ⟨q + 4, 5, none⟩) (Nat.le_refl _) (.int .i64 15)
    have hsz : (V4.setCell ⟨q + 4, 5, none⟩ (.int .i64 15)).heap.size = q + 5 := by simp [hs4']
    have PD := Lib.hid (show 1 ≤ pr1 ∧ pr1 ≤ 15 by have := pr1_d.out; omega)
    clear gf4 gr1 gr2 gm4 hb4
    have G1 := Lib.hid gp4
    have G2 := Lib.hid gp4'
    have G3 := Lib.hid hz
    have G4 := Lib.hid hsz
    have G5 := Lib.hid hs4'
    clear gp4 gp4' hz hsz hs4'
    by_cases hp4 : fP.tmod 4 = 0
    · go_wp2_with fail
      go_meet
      case rel => exact ⟨15, by omega, by omega, G2.out, G3.out, G4.out⟩
    · go_wp2_with fail
      go_meet
      case rel => exact ⟨pr1, PD.out.1, PD.out.2, G1.out, Below.refl _ _, G5.out⟩
  case rest =>
  obtain ⟨pr, pr_lo, pr_hi, gp5, b5, hs5⟩ := hcut
  have gf5 := (b5.block q (by omega)).trans gf4
  have gr1 := (b5.block (q + 1) (by omega)).trans gr1
  have gr2 := (b5.block (q + 2) (by omega)).trans gr2
  have gm5 := (b5.block (q + 3) (by omega)).trans gm4
  have hb5 := hb4.trans (b5.mono (by omega))
  clear gf4 FM f16 c5 z5 gm4 gp4 b5 hb4 hs4'
  obtain ⟨V5, hV5⟩ : ∃ V5, V5 = wc := ⟨_, rfl⟩
  subst hV5
  have FM := Lib.hid (fun i => cell_of_row _ _ i _ _ (0, 0) gf5)
  have MM := Lib.hid (fun i => cell_of_row _ _ i _ _ (0, 0) gm5)
  go_wp2_with fail
  refine held_cut (by as_aux_lemma => kernel_rfl) (fun U => U.cell? ⟨q + 3, 2, none⟩ = some (.int .i64 On) ∧ U.cell? ⟨q + 3, 3, none⟩ = some (.int .i64 Pn) ∧ U.cell? ⟨q, 11, none⟩ = some (.int .i64 fTx) ∧ U.cell? ⟨q, 12, none⟩ = some (.int .i64 fTy)) (fun a0 a' W' => a' = ((((((((((((((((((a0.put (some 77) (.pointer (some ⟨q + 3, 2, none⟩))).put (some 78) (.int .i64 On)).put (some 79) (.int .i64 O1)).put (some 80) (.pointer (some ⟨q, 11, none⟩))).put (some 81) (.int .i64 fTx)).put (some 82) (.int .i64 side)).put (some 83) (.int .i64 vTx)).put (some 84) (.int .i64 tx0)).put (some 85) (.pointer (some ⟨q + 3, 3, none⟩))).put (some 86) (.int .i64 Pn)).put (some 87) (.int .i64 P1)).put (some 88) (.pointer (some ⟨q, 12, none⟩))).put (some 89) (.int .i64 fTy)).put (some 90) (.int .i64 side)).put (some 91) (.int .i64 vTy)).put (some 92) (.int .i64 ty0)).put (some 93) (.pointer (some ⟨q + 4, 0, none⟩))).put (some 94) (.pointer (some ⟨q + 4, 1, none⟩))) ∧ W'.heap[q + 4]? = some (.cells #[.int .i64 tx0, .int .i64 ty0, .int .i64 lv, .int .i64 cwn, .int .i64 chn, .int .i64 pr, .int .i64 st, .int .i64 od, .int .i64 lyn, .bool false, .bool fsop, .bool feph] 30 (0, 0)) ∧ Below (q + 4) V5 W' ∧ W'.heap.size = q + 5) ⟨MM.out 2, MM.out 3, FM.out 11, FM.out 12⟩ (fun hS => ?_) ?_
  · skip
    have hSB : ∀ U : World, Below (q + 4) V5 U → U.cell? ⟨q + 3, 2, none⟩ = some (.int .i64 On) ∧ U.cell? ⟨q + 3, 3, none⟩ = some (.int .i64 Pn) ∧ U.cell? ⟨q, 11, none⟩ = some (.int .i64 fTx) ∧ U.cell? ⟨q, 12, none⟩ = some (.int .i64 fTy) := fun U h => ⟨(h.cell (p := ⟨q + 3, 2, none⟩) (by simp only; omega)).trans (MM.out 2), (h.cell (p := ⟨q + 3, 3, none⟩) (by simp only; omega)).trans (MM.out 3), (h.cell (p := ⟨q, 11, none⟩) (by simp only; omega)).trans (FM.out 11), (h.cell (p := ⟨q, 12, none⟩) (by simp only; omega)).trans (FM.out 12)⟩
    have bV : Below (q + 4) V5 V5.drew := (Below.refl _ _).drew
    have gp : V5.drew.heap[q + 4]? = _ := gp5
    have hsz2 : V5.drew.heap.size = q + 5 := hs5
    have O1_w0 := O1_w0.out
    have P1_w0 := P1_w0.out
    have tx0_w0 := tx0_w0.out
    have ty0_w0 := ty0_w0.out
    clear gf5 gr1 gr2 gm5 gp5 hb5 hs5
    generalize V5.drew = V0 at *
    refine wpAnyH_take (i := 0) (v := .pointer (some ⟨q + 3, 2, none⟩)) rfl (by as_aux_lemma => kernel_rfl) (by as_aux_lemma => kernel_rfl) (by as_aux_lemma => kernel_rfl) (fun _ _ _ h => h) (Or.inl ⟨by rfl, ?_⟩) hS ?_
    · intro U hU
      obtain ⟨s0, s1, s2, s3⟩ := hU
      go_simp
    simp only [Act.put, List.setIfInBounds_toArray, List.set_cons_zero, List.set_cons_succ]
    refine wpAnyH_take (i := 1) (v := .int .i64 On) rfl (by as_aux_lemma => kernel_rfl) (by as_aux_lemma => kernel_rfl) (by as_aux_lemma => kernel_rfl) (fun _ _ _ h => h) (Or.inl ⟨by rfl, ?_⟩) hS ?_
    · intro U hU
      obtain ⟨s0, s1, s2, s3⟩ := hU
      go_simp
    simp only [Act.put, List.setIfInBounds_toArray, List.set_cons_zero, List.set_cons_succ]
    refine wpAnyH_take (i := 2) (v := .int .i64 O1) rfl (by as_aux_lemma => kernel_rfl) (by as_aux_lemma => kernel_rfl) (by as_aux_lemma => kernel_rfl) (fun _ _ _ h => h) (Or.inl ⟨by rfl, ?_⟩) hS ?_
    · intro U hU
      obtain ⟨s0, s1, s2, s3⟩ := hU
      go_simp
    simp only [Act.put, List.setIfInBounds_toArray, List.set_cons_zero, List.set_cons_succ]
    refine wpAnyH_take (i := 3) (v := .pointer (some ⟨q, 11, none⟩)) rfl (by as_aux_lemma => kernel_rfl) (by as_aux_lemma => kernel_rfl) (by as_aux_lemma => kernel_rfl) (fun _ _ _ h => h) (Or.inl ⟨by rfl, ?_⟩) hS ?_
    · intro U hU
      obtain ⟨s0, s1, s2, s3⟩ := hU
      go_simp
    simp only [Act.put, List.setIfInBounds_toArray, List.set_cons_zero, List.set_cons_succ]
    refine wpAnyH_take (i := 4) (v := .int .i64 fTx) rfl (by as_aux_lemma => kernel_rfl) (by as_aux_lemma => kernel_rfl) (by as_aux_lemma => kernel_rfl) (fun _ _ _ h => h) (Or.inl ⟨by rfl, ?_⟩) hS ?_
    · intro U hU
      obtain ⟨s0, s1, s2, s3⟩ := hU
      go_simp
    simp only [Act.put, List.setIfInBounds_toArray, List.set_cons_zero, List.set_cons_succ]
    refine wpAnyH_take (i := 5) (v := .int .i64 side) rfl (by as_aux_lemma => kernel_rfl) (by as_aux_lemma => kernel_rfl) (by as_aux_lemma => kernel_rfl) (fun _ _ _ h => h) (Or.inl ⟨by rfl, ?_⟩) hS ?_
    · intro U hU
      obtain ⟨s0, s1, s2, s3⟩ := hU
      go_simp
    simp only [Act.put, List.setIfInBounds_toArray, List.set_cons_zero, List.set_cons_succ]
    refine wpAnyH_call (i := 6) (v := .int .i64 vTx) (f := 20) (args := #[.int .i64 fTx, .int .i64 (side : Int)]) rfl (by as_aux_lemma => kernel_rfl) (by as_aux_lemma => kernel_rfl) (by as_aux_lemma => kernel_rfl) (fun _ _ _ h => h) (by rfl) WTx.out ?_ hS ?_
    · intro U hU
      obtain ⟨s0, s1, s2, s3⟩ := hU
      go_simp
    simp only [Act.put, List.setIfInBounds_toArray, List.set_cons_zero, List.set_cons_succ]
    refine wpAnyH_take (i := 7) (v := .int .i64 tx0) rfl (by as_aux_lemma => kernel_rfl) (by as_aux_lemma => kernel_rfl) (by as_aux_lemma => kernel_rfl) (fun _ _ _ h => h) (Or.inl ⟨by rfl, ?_⟩) hS ?_
    · intro U hU
      obtain ⟨s0, s1, s2, s3⟩ := hU
      go_simp
    simp only [Act.put, List.setIfInBounds_toArray, List.set_cons_zero, List.set_cons_succ]
    refine wpAnyH_take (i := 8) (v := .pointer (some ⟨q + 3, 3, none⟩)) rfl (by as_aux_lemma => kernel_rfl) (by as_aux_lemma => kernel_rfl) (by as_aux_lemma => kernel_rfl) (fun _ _ _ h => h) (Or.inl ⟨by rfl, ?_⟩) hS ?_
    · intro U hU
      obtain ⟨s0, s1, s2, s3⟩ := hU
      go_simp
    simp only [Act.put, List.setIfInBounds_toArray, List.set_cons_zero, List.set_cons_succ]
    refine wpAnyH_take (i := 9) (v := .int .i64 Pn) rfl (by as_aux_lemma => kernel_rfl) (by as_aux_lemma => kernel_rfl) (by as_aux_lemma => kernel_rfl) (fun _ _ _ h => h) (Or.inl ⟨by rfl, ?_⟩) hS ?_
    · intro U hU
      obtain ⟨s0, s1, s2, s3⟩ := hU
      go_simp
    simp only [Act.put, List.setIfInBounds_toArray, List.set_cons_zero, List.set_cons_succ]
    refine wpAnyH_take (i := 10) (v := .int .i64 P1) rfl (by as_aux_lemma => kernel_rfl) (by as_aux_lemma => kernel_rfl) (by as_aux_lemma => kernel_rfl) (fun _ _ _ h => h) (Or.inl ⟨by rfl, ?_⟩) hS ?_
    · intro U hU
      obtain ⟨s0, s1, s2, s3⟩ := hU
      go_simp
    simp only [Act.put, List.setIfInBounds_toArray, List.set_cons_zero, List.set_cons_succ]
    refine wpAnyH_take (i := 11) (v := .pointer (some ⟨q, 12, none⟩)) rfl (by as_aux_lemma => kernel_rfl) (by as_aux_lemma => kernel_rfl) (by as_aux_lemma => kernel_rfl) (fun _ _ _ h => h) (Or.inl ⟨by rfl, ?_⟩) hS ?_
    · intro U hU
      obtain ⟨s0, s1, s2, s3⟩ := hU
      go_simp
    simp only [Act.put, List.setIfInBounds_toArray, List.set_cons_zero, List.set_cons_succ]
    refine wpAnyH_take (i := 12) (v := .int .i64 fTy) rfl (by as_aux_lemma => kernel_rfl) (by as_aux_lemma => kernel_rfl) (by as_aux_lemma => kernel_rfl) (fun _ _ _ h => h) (Or.inl ⟨by rfl, ?_⟩) hS ?_
    · intro U hU
      obtain ⟨s0, s1, s2, s3⟩ := hU
      go_simp
    simp only [Act.put, List.setIfInBounds_toArray, List.set_cons_zero, List.set_cons_succ]
    refine wpAnyH_take (i := 13) (v := .int .i64 side) rfl (by as_aux_lemma => kernel_rfl) (by as_aux_lemma => kernel_rfl) (by as_aux_lemma => kernel_rfl) (fun _ _ _ h => h) (Or.inl ⟨by rfl, ?_⟩) hS ?_
    · intro U hU
      obtain ⟨s0, s1, s2, s3⟩ := hU
      go_simp
    simp only [Act.put, List.setIfInBounds_toArray, List.set_cons_zero, List.set_cons_succ]
    refine wpAnyH_call (i := 14) (v := .int .i64 vTy) (f := 20) (args := #[.int .i64 fTy, .int .i64 (side : Int)]) rfl (by as_aux_lemma => kernel_rfl) (by as_aux_lemma => kernel_rfl) (by as_aux_lemma => kernel_rfl) (fun _ _ _ h => h) (by rfl) WTy.out ?_ hS ?_
    · intro U hU
      obtain ⟨s0, s1, s2, s3⟩ := hU
      go_simp
    simp only [Act.put, List.setIfInBounds_toArray, List.set_cons_zero, List.set_cons_succ]
    refine wpAnyH_take (i := 15) (v := .int .i64 ty0) rfl (by as_aux_lemma => kernel_rfl) (by as_aux_lemma => kernel_rfl) (by as_aux_lemma => kernel_rfl) (fun _ _ _ h => h) (Or.inl ⟨by rfl, ?_⟩) hS ?_
    · intro U hU
      obtain ⟨s0, s1, s2, s3⟩ := hU
      go_simp
    simp only [Act.put, List.setIfInBounds_toArray, List.set_cons_zero, List.set_cons_succ]
    refine wpAnyH_take (i := 16) (v := .pointer (some ⟨q + 4, 0, none⟩)) rfl (by as_aux_lemma => kernel_rfl) (by as_aux_lemma => kernel_rfl) (by as_aux_lemma => kernel_rfl) (fun _ _ _ h => h) (Or.inl ⟨by rfl, ?_⟩) hS ?_
    · intro U hU
      obtain ⟨s0, s1, s2, s3⟩ := hU
      go_simp
    simp only [Act.put, List.setIfInBounds_toArray, List.set_cons_zero, List.set_cons_succ]
    refine wpAnyH_ready (rs := [17]) (by as_aux_lemma => kernel_rfl) (by simp) ?_
    refine AllReadyH.cons (by simp only [List.getElem?_toArray, List.getElem?_cons_succ, List.getElem?_cons_zero]; rfl) (fun K' hK' => ?_) AllReadyH.nil
    have d0 : V0.cell? ⟨q + 4, 0, none⟩ = some (.int .i64 0) := cell_of_row _ _ 0 _ _ (0, 0) gp
    have dz : V0.frozen? ⟨q + 4, 0, none⟩ = false := frozen_of_row _ _ 0 _ _ gp
    go_simp
    have bV' := bV.setCell (p := ⟨q + 4, 0, none⟩) (Nat.le_refl _) (.int .i64 tx0)
    have gp' := heap_set1 (j := 0) gp (.int .i64 tx0)
    have hS' : (V0.setCell ⟨q + 4, 0, none⟩ (.int .i64 tx0)).cell? ⟨q + 3, 2, none⟩ = some (.int .i64 On) ∧ (V0.setCell ⟨q + 4, 0, none⟩ (.int .i64 tx0)).cell? ⟨q + 3, 3, none⟩ = some (.int .i64 Pn) ∧ (V0.setCell ⟨q + 4, 0, none⟩ (.int .i64 tx0)).cell? ⟨q, 11, none⟩ = some (.int .i64 fTx) ∧ (V0.setCell ⟨q + 4, 0, none⟩ (.int .i64 tx0)).cell? ⟨q, 12, none⟩ = some (.int .i64 fTy) := ⟨(bV'.cell (p := ⟨q + 3, 2, none⟩) (by simp only; omega)).trans (MM.out 2), (bV'.cell (p := ⟨q + 3, 3, none⟩) (by simp only; omega)).trans (MM.out 3), (bV'.cell (p := ⟨q, 11, none⟩) (by simp only; omega)).trans (FM.out 11), (bV'.cell (p := ⟨q, 12, none⟩) (by simp only; omega)).trans (FM.out 12)⟩
    refine hK'.out _ (V0.setCell ⟨q + 4, 0, none⟩ (.int .i64 tx0)) hS' (fun _ => ?_)
    clear d0 dz hS
    have hS := hS'
    clear hS'
    have hsz2 : (V0.setCell ⟨q + 4, 0, none⟩ (.int .i64 tx0)).heap.size = _ := (by simp : _ = V0.heap.size).trans hsz2
    generalize V0.setCell ⟨q + 4, 0, none⟩ (.int .i64 tx0) = U0 at *
    clear hK' K'
    try simp only [Act.put, List.setIfInBounds_toArray, List.set_cons_zero, List.set_cons_succ]
    refine wpAnyH_take (i := 18) (v := .pointer (some ⟨q + 4, 1, none⟩)) rfl (by as_aux_lemma => kernel_rfl) (by as_aux_lemma => kernel_rfl) (by as_aux_lemma => kernel_rfl) (fun _ _ _ h => h) (Or.inl ⟨by rfl, ?_⟩) hS ?_
    · intro U hU
      obtain ⟨s0, s1, s2, s3⟩ := hU
      go_simp
    simp only [Act.put, List.setIfInBounds_toArray, List.set_cons_zero, List.set_cons_succ]
    refine wpAnyH_ready (rs := [19]) (by as_aux_lemma => kernel_rfl) (by simp) ?_
    refine AllReadyH.cons (by simp only [List.getElem?_toArray, List.getElem?_cons_succ, List.getElem?_cons_zero]; rfl) (fun K' hK' => ?_) AllReadyH.nil
    have d0 : U0.cell? ⟨q + 4, 1, none⟩ = some (.int .i64 0) := cell_of_row _ _ 1 _ _ (0, 0) gp'
    have dz : U0.frozen? ⟨q + 4, 1, none⟩ = false := frozen_of_row _ _ 1 _ _ gp'
    go_simp
    have bV'' := bV'.setCell (p := ⟨q + 4, 1, none⟩) (Nat.le_refl _) (.int .i64 ty0)
    have gp'' := heap_set1 (j := 1) gp' (.int .i64 ty0)
    have hS' : (U0.setCell ⟨q + 4, 1, none⟩ (.int .i64 ty0)).cell? ⟨q + 3, 2, none⟩ = some (.int .i64 On) ∧ (U0.setCell ⟨q + 4, 1, none⟩ (.int .i64 ty0)).cell? ⟨q + 3, 3, none⟩ = some (.int .i64 Pn) ∧ (U0.setCell ⟨q + 4, 1, none⟩ (.int .i64 ty0)).cell? ⟨q, 11, none⟩ = some (.int .i64 fTx) ∧ (U0.setCell ⟨q + 4, 1, none⟩ (.int .i64 ty0)).cell? ⟨q, 12, none⟩ = some (.int .i64 fTy) := ⟨(bV''.cell (p := ⟨q + 3, 2, none⟩) (by simp only; omega)).trans (MM.out 2), (bV''.cell (p := ⟨q + 3, 3, none⟩) (by simp only; omega)).trans (MM.out 3), (bV''.cell (p := ⟨q, 11, none⟩) (by simp only; omega)).trans (FM.out 11), (bV''.cell (p := ⟨q, 12, none⟩) (by simp only; omega)).trans (FM.out 12)⟩
    refine hK'.out _ (U0.setCell ⟨q + 4, 1, none⟩ (.int .i64 ty0)) hS' (fun _ => ?_)
    clear d0 dz hS
    have hS := hS'
    clear hS'
    have hsz2 : (U0.setCell ⟨q + 4, 1, none⟩ (.int .i64 ty0)).heap.size = _ := (by simp : _ = U0.heap.size).trans hsz2
    generalize U0.setCell ⟨q + 4, 1, none⟩ (.int .i64 ty0) = U1 at *
    clear hK' K'
    try simp only [Act.put, List.setIfInBounds_toArray, List.set_cons_zero, List.set_cons_succ]
    refine wpAnyH_done (by as_aux_lemma => kernel_rfl) ?_ _
    simp only [OnlyN]
    refine ⟨?_, gp'', bV'', ?_⟩
    · first | trivial | rfl
    · exact hsz2
  rintro a' V6 ⟨rfl, gp6, b6, hs6⟩
  simp only [Act.put, List.setIfInBounds_toArray, List.set_cons_zero, List.set_cons_succ]
  have gf6 := (b6.block q (by omega)).trans gf5
  have gr1 := (b6.block (q + 1) (by omega)).trans gr1
  have gr2 := (b6.block (q + 2) (by omega)).trans gr2
  have gm6 := (b6.block (q + 3) (by omega)).trans gm5
  have hb6 := hb5.trans (b6.mono (by omega))
  clear gf5 FM MM gm5 gp5 b6 hb5 hs5
  go_wp2_with fail
  have HT := Lib.hid (fun (v : World) (tx ty : Nat) (h1 : 1 ≤ tx) (h2 : tx ≤ 1048576) (h3 : 1 ≤ ty) (h4 : ty ≤ 1048576) => by have := tiles12_any Xn Yn On Pn tx ty none 0 0 lv cwn chn pr st od lyn false fsop feph (by omega) (by omega) (by omega) (by omega) h1 h2 h3 h4 v; unfold imgV parV at this; exact this)
  have XB := Lib.hid (show 1 ≤ Xn ∧ Xn ≤ 64 ∧ 1 ≤ Yn ∧ Yn ≤ 64 ∧ 1 ≤ tx0 ∧ tx0 ≤ 64 ∧ 1 ≤ ty0 ∧ ty0 ≤ 64 by have h1 := Xn_d.out; have h2 := Yn_d.out; have h3 := tx0_d.out; have h4 := ty0_d.out; have h5 := O1_d.out; have h6 := P1_d.out; omega)
  go_loopg [] 6 (fun g wr => ∃ (tx ty k : Nat), g + k = 6 ∧ tx = tx0 * 2 ^ k ∧ ty = ty0 * 2 ^ k ∧ wr.heap[q + 4]? = some (.cells #[.int .i64 tx, .int .i64 ty, .int .i64 lv, .int .i64 cwn, .int .i64 chn, .int .i64 pr, .int .i64 st, .int .i64 od, .int .i64 lyn, .bool false, .bool fsop, .bool feph] 30 (0, 0)) ∧ Below (q + 4) V6 wr ∧ q + 5 ≤ wr.heap.size)
  case atStart => exact ⟨tx0, ty0, 0, rfl, by simp, by simp, gp6, Below.refl _ _, Nat.le_of_eq hs6.symm⟩
  case round =>
    obtain ⟨tx, ty, k, hgk, htx, hty, gp, b7, hs7⟩ := hrel
    obtain ⟨xb1, xb2, xb3, xb4, xb5, xb6, xb7, xb8⟩ := XB.out
    have hpw : 1 ≤ 2 ^ k ∧ 2 ^ k ≤ 64 := ⟨Nat.one_le_two_pow, by
      calc 2 ^ k ≤ 2 ^ 6 := Nat.pow_le_pow_right (by omega) (by omega)
        _ = 64 := rfl⟩
    have t1 : 1 ≤ tx ∧ tx ≤ 64 * 64 := by rw [htx]; exact ⟨Nat.mul_pos (by omega) hpw.1, Nat.mul_le_mul xb6 hpw.2⟩
    have t2 : 1 ≤ ty ∧ ty ≤ 64 * 64 := by rw [hty]; exact ⟨Nat.mul_pos (by omega) hpw.1, Nat.mul_le_mul xb8 hpw.2⟩
    have HX := Lib.hid (And.intro htx (And.intro hty hpw))
    have h6 : k = 6 → byN Xn tx * byN Yn ty = 1 := fun h => by
      have e1 : ∀ a t : Nat, 1 ≤ a → a ≤ t → byN a t = 1 := fun a t ha hat => by
        unfold byN
        rw [show a + t - 1 = (a - 1) + t * 1 by omega, Nat.add_mul_div_left _ _ (by omega), Nat.div_eq_of_lt (by omega)]
      have e2 : 64 ≤ tx := by rw [htx, h]; omega
      have e3 : 64 ≤ ty := by rw [hty, h]; omega
      rw [e1 _ _ xb1 (by omega), e1 _ _ xb3 (by omega)]
    clear htx hty hpw xb1 xb2 xb3 xb4 xb5 xb6 xb7 xb8
    have HC := Lib.hid (HT.out wr tx ty t1.1 (by omega) t2.1 (by omega))
    have h62 : byN Xn tx * byN Yn ty ≤ 64 * 64 := by
      have e1 : byN Xn tx ≤ Xn := byN_le t1.1
      have e2 : byN Yn ty ≤ Yn := byN_le t2.1
      have e3 := XB.out
      exact Nat.mul_le_mul (by omega) (by omega)
    have gm7 := (b7.block (q + 3) (by omega)).trans gm6
    have m0 : wr.cell? ⟨q + 3, 0, none⟩ = some (.int .i64 Xn) := cell_of_row _ _ 0 _ _ (0, 0) gm7
    have m1 : wr.cell? ⟨q + 3, 1, none⟩ = some (.int .i64 Yn) := cell_of_row _ _ 1 _ _ (0, 0) gm7
    have m2 : wr.cell? ⟨q + 3, 2, none⟩ = some (.int .i64 On) := cell_of_row _ _ 2 _ _ (0, 0) gm7
    have m3 : wr.cell? ⟨q + 3, 3, none⟩ = some (.int .i64 Pn) := cell_of_row _ _ 3 _ _ (0, 0) gm7
    have m4 : wr.cell? ⟨q + 3, 4, none⟩ = some (.slice none 0 0) := cell_of_row _ _ 4 _ _ (0, 0) gm7
    have p0 : wr.cell? ⟨q + 4, 0, none⟩ = some (.int .i64 tx) := cell_of_row _ _ 0 _ _ (0, 0) gp
    have p1 : wr.cell? ⟨q + 4, 1, none⟩ = some (.int .i64 ty) := cell_of_row _ _ 1 _ _ (0, 0) gp
    have p2 : wr.cell? ⟨q + 4, 2, none⟩ = some (.int .i64 lv) := cell_of_row _ _ 2 _ _ (0, 0) gp
    have p3 : wr.cell? ⟨q + 4, 3, none⟩ = some (.int .i64 cwn) := cell_of_row _ _ 3 _ _ (0, 0) gp
    have p4 : wr.cell? ⟨q + 4, 4, none⟩ = some (.int .i64 chn) := cell_of_row _ _ 4 _ _ (0, 0) gp
    have p5 : wr.cell? ⟨q + 4, 5, none⟩ = some (.int .i64 pr) := cell_of_row _ _ 5 _ _ (0, 0) gp
    have p6 : wr.cell? ⟨q + 4, 6, none⟩ = some (.int .i64 st) := cell_of_row _ _ 6 _ _ (0, 0) gp
    have p7 : wr.cell? ⟨q + 4, 7, none⟩ = some (.int .i64 od) := cell_of_row _ _ 7 _ _ (0, 0) gp
    have p8 : wr.cell? ⟨q + 4, 8, none⟩ = some (.int .i64 lyn) := cell_of_row _ _ 8 _ _ (0, 0) gp
    have p9 : wr.cell? ⟨q + 4, 9, none⟩ = some (.bool false) := cell_of_row _ _ 9 _ _ (0, 0) gp
    have p10 : wr.cell? ⟨q + 4, 10, none⟩ = some (.bool fsop) := cell_of_row _ _ 10 _ _ (0, 0) gp
    have p11 : wr.cell? ⟨q + 4, 11, none⟩ = some (.bool feph) := cell_of_row _ _ 11 _ _ (0, 0) gp
    obtain ⟨TN, hTN⟩ : ∃ TN, byN Xn tx * byN Yn ty = TN := ⟨_, rfl⟩
    rw [hTN] at h6 h62
    have HC2 := HC.out
    rw [hTN] at HC2
    have HTN := Lib.hid hTN
    clear HC hTN
    have HC := Lib.hid HC2
    clear HC2
    have GF := Lib.hid gf6
    have GM := Lib.hid gm6
    have GR := Lib.hid (And.intro gr1 gr2)
    have GPP := Lib.hid gp
    clear gf6 gm6 gr1 gr2 gm7 gp gp6
    by_cases hN6 : 6 < TN
    · have hk6 : k < 6 := by
        rcases Nat.lt_or_ge k 6 with h | h
        · exact h
        · have := h6 (by omega); omega
      go_wp2_with fail
      refine HC.out.mono ?_
      rintro e w8 ⟨rfl, hb8⟩
      have gp8 := (hb8.block (q + 4) (by omega)).trans GPP.out
      have c0 : w8.cell? ⟨q + 4, 0, none⟩ = some (.int .i64 tx) := cell_of_row _ _ 0 _ _ (0, 0) gp8
      have c1 : w8.cell? ⟨q + 4, 1, none⟩ = some (.int .i64 ty) := cell_of_row _ _ 1 _ _ (0, 0) gp8
      have z0 : ∀ i, w8.frozen? ⟨q + 4, i, none⟩ = false := fun i => frozen_of_row _ _ i _ _ gp8
      have b9 := (((b7.trans (hb8.mono (by omega)))).setCell (p := ⟨q + 4, 0, none⟩) (Nat.le_refl _) (.int .i64 ((2 * tx : Nat) : Int))).setCell (p := ⟨q + 4, 1, none⟩) (Nat.le_refl _) (.int .i64 ((2 * ty : Nat) : Int))
      have g9 := heap_set1 (j := 1) (heap_set1 (j := 0) gp8 (.int .i64 ((2 * tx : Nat) : Int))) (.int .i64 ((2 * ty : Nat) : Int))
      have s9 : q + 5 ≤ ((w8.setCell ⟨q + 4, 0, none⟩ (.int .i64 ((2 * tx : Nat) : Int))).setCell ⟨q + 4, 1, none⟩ (.int .i64 ((2 * ty : Nat) : Int))).heap.size := by have := hb8.size; simp; omega
      have e1 : (2 : Int) * tx = ((2 * tx : Nat) : Int) := by omega
      have e2 : (2 : Int) * ty = ((2 * ty : Nat) : Int) := by omega
      clear gp8 HC
      have B9 := Lib.hid (And.intro b9 (And.intro g9 s9))
      clear b9 g9 s9 hb8 b7
      obtain ⟨tx2, htx2⟩ : ∃ z, 2 * tx = z := ⟨_, rfl⟩
      obtain ⟨ty2, hty2⟩ : ∃ z, 2 * ty = z := ⟨_, rfl⟩
      rw [htx2] at e1 B9
      rw [hty2] at e2 B9
      have T2 := Lib.hid (And.intro htx2 hty2)
      have tb : tx2 ≤ 8192 ∧ ty2 ≤ 8192 := by omega
      clear htx2 hty2
      go_wp2_with fail
      go_roundg (gk - 1)
      case measure => omega
      case rel =>
        obtain ⟨hx, hy, _⟩ := HX.out
        obtain ⟨h1, h2⟩ := T2.out
        exact ⟨tx2, ty2, k + 1, by omega, by rw [← h1, hx, Nat.pow_succ, Nat.mul_comm 2, Nat.mul_assoc], by rw [← h2, hy, Nat.pow_succ, Nat.mul_comm 2, Nat.mul_assoc], B9.out.2.1, B9.out.1, B9.out.2.2⟩
    · go_wp2_with fail
      refine HC.out.mono ?_
      rintro e w8 ⟨rfl, hb8⟩
      skip
      have gf9 := (hb8.block q (by omega)).trans ((b7.block q (by omega)).trans GF.out)
      have gr19 := (hb8.block (q + 1) (by omega)).trans ((b7.block (q + 1) (by omega)).trans GR.out.1)
      have gr29 := (hb8.block (q + 2) (by omega)).trans ((b7.block (q + 2) (by omega)).trans GR.out.2)
      have gm9 := (hb8.block (q + 3) (by omega)).trans ((b7.block (q + 3) (by omega)).trans GM.out)
      have gp9 := (hb8.block (q + 4) (by omega)).trans GPP.out
      have hb9 := hb6.trans ((b7.trans (hb8.mono (by omega))).mono (show q ≤ q + 4 by omega))
      have hs9 : q + 5 ≤ w8.heap.size := by have := hb8.size; omega
      have TB := Lib.hid (And.intro t1 (And.intro t2 (And.intro (show TN ≤ 6 by omega) (And.intro HTN.out HX.out))))
      clear hb8 b7 hb6 hs7 m0 m1 m2 m3 m4 p0 p1 p2 p3 p4 p5 p6 p7 p8 p9 p10 p11 h6 HC hgk GF GM GR GPP t1 t2 HTN HX
      have c4 : w8.cell? ⟨q, 4, none⟩ = some (.int .i64 fC) := cell_of_row _ _ 4 _ _ (0, 0) gf9
      have c5 : w8.cell? ⟨q, 5, none⟩ = some (.int .i64 fD) := cell_of_row _ _ 5 _ _ (0, 0) gf9
      have dn_e : (1 : Int) + vD = dn := by have := dn_d.out; omega
      have nc_e : (1 : Int) + vC = nc := by have := nc_d.out; omega
      have GF := Lib.hid gf9
      have GR := Lib.hid (And.intro gr19 gr29)
      have GM := Lib.hid gm9
      have GPP := Lib.hid gp9
      clear gf9 gr19 gr29 gm9 gp9
      dsimp only
      go_wp2_with (go_at_call 20; first | ((with_reducible refine (WD.out _).mono ?_); rintro e w' ⟨rfl, rfl⟩; dsimp only) | ((with_reducible refine (WC.out _).mono ?_); rintro e w' ⟨rfl, rfl⟩; dsimp only) | fail)
      clear c4 c5 dn_e nc_e hN6 h62
      have nc_hi : nc ≤ 4 := by have := nc_d.out; omega
      obtain ⟨PL, hPL⟩ : ∃ PL : Bool, PL = !decide (fS.tmod 5 = 1) := ⟨_, rfl⟩
      have HPL := Lib.hid hPL
      clear hPL
      go_loopw [10] (fun i wr => ∃ (k : Nat) (A : Option Addr) (cx : Nat) (F : Nat → CompD) (G : Nat → Nat → Int), k ≤ nc ∧ i = .int .i64 k ∧ wr.heap[q + 3]? = some (.cells #[.int .i64 Xn, .int .i64 Yn, .int .i64 On, .int .i64 Pn, .slice A k cx] 28 (0, 0)) ∧ MadeI wr (q + 5) A k cx F G (MadeC Xn Yn On Pn dn fsg PL) ∧ Below (q + 3) w8 wr ∧ wr.heap[q + 4]? = some (.cells #[.int .i64 tx, .int .i64 ty, .int .i64 lv, .int .i64 cwn, .int .i64 chn, .int .i64 pr, .int .i64 st, .int .i64 od, .int .i64 lyn, .bool false, .bool fsop, .bool feph] 30 (0, 0)) ∧ q + 5 ≤ wr.heap.size) (fun i _ => nc - (intOf i).toNat)
      case atStart => exact ⟨0, none, 0, _, _, Nat.zero_le _, rfl, GM.out, MadeI.nil_ _ _ _, Below.refl _ _, GPP.out, hs9⟩
      case round =>
        obtain ⟨k, A, cx, F, G, hk, rfl, gm, hmade, hbel, gp, hsz⟩ := hrel
        by_cases hlk : k < nc
        · have gf := (hbel.block q (by omega)).trans GF.out
          obtain ⟨x, hx⟩ : ∃ x, wr.heap.size = x := ⟨_, rfl⟩
          have c7 : wr.cell? ⟨q, 7, none⟩ = some (.bool fsg) := cell_of_row _ _ 7 _ _ (0, 0) gf
          have gx := heap_alloc_new wr (.cells #[.int .i64 dn, .bool fsg, .int .i64 1, .int .i64 1, .slice none 0 0] 48)
          have bx := below_alloc (Below.refl _ wr) (.cells #[.int .i64 dn, .bool fsg, .int .i64 1, .int .i64 1, .slice none 0 0] 48)
          have sx : (wr.alloc (.cells #[.int .i64 dn, .bool fsg, .int .i64 1, .int .i64 1, .slice none 0 0] 48)).heap.size = x + 1 := by simp [hx]
          have c6 : (wr.alloc (.cells #[.int .i64 dn, .bool fsg, .int .i64 1, .int .i64 1, .slice none 0 0] 48)).cell? ⟨q, 6, none⟩ = some (.int .i64 fS) := (bx.cell (p := ⟨q, 6, none⟩) (by simp only; omega)).trans (cell_of_row _ _ 6 _ _ (0, 0) gf)
          have gmx := (bx.block (q + 3) (by omega)).trans gm
          have gpx := (bx.block (q + 4) (by omega)).trans gp
          have gfx := (bx.block q (by omega)).trans gf
          have hbx := hbel.trans (bx.mono (show q + 3 ≤ wr.heap.size by omega))
          rw [hx] at gx bx hsz
          have HM := Lib.hid hmade
          have BX0 := Lib.hid bx
          have HXS := Lib.hid hx
          have GMX := Lib.hid gmx
          have GPX := Lib.hid gpx
          have GFX := Lib.hid gfx
          have HBX := Lib.hid hbx
          have GX := Lib.hid gx
          have SX := Lib.hid sx
          clear hmade gm gmx gp gpx gf gfx hbel hbx gx bx sx hx
          go_upto_region 15 with fail
          generalize wr.alloc (.cells #[.int .i64 dn, .bool fsg, .int .i64 1, .int .i64 1, .slice none 0 0] 48) = V10 at *
          rw [HXS.out]
          obtain ⟨cnd, hcnd⟩ : ∃ cnd : Bool, cnd = (decide (fS.tmod 5 = 1) && decide (0 < k)) := ⟨_, rfl⟩
          have HCND := Lib.hid hcnd
          clear hcnd
          go_cut [131] from 124 to 131 (fun b wc' => b = .bool cnd ∧ wc' = V10)
          case first =>
            by_cases hq5 : fS.tmod 5 = 1
            · by_cases hk0 : 0 < k
              · have CE := Lib.hid (show cnd = true by rw [HCND.out]; simp [hq5, hk0])
                go_wp2_with fail
                go_meet
                case rel => exact ⟨by rw [CE.out], rfl⟩
              · have CE := Lib.hid (show cnd = false by rw [HCND.out]; simp [hk0])
                go_wp2_with fail
                go_meet
                case rel => exact ⟨by rw [CE.out], rfl⟩
            · have CE := Lib.hid (show cnd = false by rw [HCND.out]; simp [hq5])
              go_wp2_with fail
              go_meet
              case rel => exact ⟨by rw [CE.out], rfl⟩
          case rest =>
          obtain ⟨rfl, hwc⟩ := hcut
          have hwc := hwc.symm
          subst hwc
          go_upto_if 131 with fail
          go_cut [] from 131 to 151 (fun wc' => ∃ dp dx dy : Nat, (1 ≤ dp ∧ dp ≤ 10) ∧ (1 ≤ dx ∧ dx ≤ 3) ∧ (1 ≤ dy ∧ dy ≤ 3) ∧ (PL = true → dp = dn ∧ dx = 1 ∧ dy = 1) ∧ wc'.heap[x]? = some (.cells #[.int .i64 dp, .bool fsg, .int .i64 dx, .int .i64 dy, .slice none 0 0] 48 (0, 0)) ∧ Below x V10 wc' ∧ wc'.heap.size = x + 1)
          case first =>
            have ED := Lib.hid (show V10.heap[x]? = some (.cells #[.int .i64 dn, .bool fsg, .int .i64 (1 : Nat), .int .i64 (1 : Nat), .slice none 0 0] 48 (0, 0)) from GX.out)
            have DNB := Lib.hid (show 1 ≤ dn ∧ dn ≤ 10 by have := dn_d.out; omega)
            rcases hc2 : cnd with _ | _
            · clear hc2
              go_wp2_with fail
              go_meet
              case rel => exact ⟨dn, 1, 1, DNB.out, by omega, by omega, fun _ => ⟨rfl, rfl, rfl⟩, ED.out, Below.refl _ _, SX.out⟩
            · have HC2 := Lib.hid hc2
              clear hc2
              go_wp2_with fail
              have hz5 := tdiv_bd 5 (.inl rfl) hSb
              have hz15 := tdiv_bd 15 (.inr rfl) hSb
              obtain ⟨z5, e5⟩ : ∃ z : Int, fS.tdiv 5 = z := ⟨_, rfl⟩
              obtain ⟨z15, e15⟩ : ∃ z : Int, fS.tdiv 15 = z := ⟨_, rfl⟩
              rw [show ((5 : Nat) : Int) = 5 from rfl, e5] at hz5
              rw [show ((15 : Nat) : Int) = 15 from rfl, e15] at hz15
              obtain ⟨s5, es5⟩ : ∃ z : Int, z5 + k = z := ⟨_, rfl⟩
              obtain ⟨sk, esk⟩ : ∃ z : Int, (dn : Int) + k = z := ⟨_, rfl⟩
              obtain ⟨va, va_lt, _, WA0⟩ := within12v s5 3 3 rfl (by omega) (by omega)
              obtain ⟨vb, vb_lt, _, WB0⟩ := within12v z15 3 3 rfl (by omega) (by omega)
              obtain ⟨vc, vc_lt, _, WC0⟩ := within12v sk 10 10 rfl (by omega) (by omega)
              have WA := Lib.hid WA0
              have WB := Lib.hid WB0
              have WC2 := Lib.hid WC0
              clear WA0 WB0 WC0
              have dn_b2 := DNB.out
              have y1 := Lib.hid (show IntKind.i64.wrap z5 = z5 from IntWalk.i64_in _ (by omega))
              have y2 := Lib.hid (show IntKind.i64.wrap (z5 + k) = s5 by rw [es5]; exact IntWalk.i64_in _ (by omega))
              have y3 := Lib.hid (show IntKind.i64.wrap z15 = z15 from IntWalk.i64_in _ (by omega))
              have y4 := Lib.hid (show IntKind.i64.wrap ((dn : Int) + k) = sk by rw [esk]; exact IntWalk.i64_in _ (by omega))
              obtain ⟨dpn, edp⟩ : ∃ z : Nat, z = 1 + vc := ⟨_, rfl⟩
              obtain ⟨dxn, edx⟩ : ∃ z : Nat, z = 1 + va := ⟨_, rfl⟩
              obtain ⟨dyn, edy⟩ : ∃ z : Nat, z = 1 + vb := ⟨_, rfl⟩
              have y5 := Lib.hid (show IntKind.i64.wrap ((1 : Int) + va) = (dxn : Int) by rw [show (1 : Int) + va = dxn by omega]; exact IntWalk.i64_in _ (by omega))
              have y6 := Lib.hid (show IntKind.i64.wrap ((1 : Int) + vb) = (dyn : Int) by rw [show (1 : Int) + vb = dyn by omega]; exact IntWalk.i64_in _ (by omega))
              have y7 := Lib.hid (show IntKind.i64.wrap ((1 : Int) + vc) = (dpn : Int) by rw [show (1 : Int) + vc = dpn by omega]; exact IntWalk.i64_in _ (by omega))
              have BDS := Lib.hid (show (1 ≤ dpn ∧ dpn ≤ 10) ∧ (1 ≤ dxn ∧ dxn ≤ 3) ∧ (1 ≤ dyn ∧ dyn ≤ 3) by omega)
              have E5 := Lib.hid (And.intro e5 e15)
              clear e5 e15 es5 esk edp edx edy hz5 hz15 dn_b2
              have FMX := Lib.hid (fun i => cell_of_row _ _ i _ _ (0, 0) GFX.out)
              have hPLf := Lib.hid (show PL = false by rw [HPL.out]; have := HC2.out; rw [HCND.out] at this; simp at this; simp [this.1])
              refine held_cut (by as_aux_lemma => kernel_rfl) (fun U => U.cell? ⟨q, 6, none⟩ = some (.int .i64 fS)) (fun a0 a' W' => a' = ((((((((((((((((((((a0.put (some 132) (.pointer (some ⟨q, 6, none⟩))).put (some 133) (.int .i64 fS)).put (some 134) (.int .i64 z5)).put (some 135) (.int .i64 k)).put (some 136) (.int .i64 s5)).put (some 137) (.int .i64 va)).put (some 138) (.int .i64 dxn)).put (some 139) (.pointer (some ⟨q, 6, none⟩))).put (some 140) (.int .i64 fS)).put (some 141) (.int .i64 z15)).put (some 142) (.int .i64 vb)).put (some 143) (.int .i64 dyn)).put (some 144) (.int .i64 dn)).put (some 145) (.int .i64 k)).put (some 146) (.int .i64 sk)).put (some 147) (.int .i64 vc)).put (some 148) (.int .i64 dpn)).put (some 149) (.pointer (some ⟨x, 2, none⟩))).put (some 150) (.pointer (some ⟨x, 3, none⟩))).put (some 151) (.pointer (some ⟨x, 0, none⟩))) ∧ W'.heap[x]? = some (.cells #[.int .i64 dpn, .bool fsg, .int .i64 dxn, .int .i64 dyn, .slice none 0 0] 48 (0, 0)) ∧ Below x V10 W' ∧ W'.heap.size = x + 1) (FMX.out 6) (fun hS => ?_) ?_
              · skip
                have hSB : ∀ U : World, Below (x) V10 U → U.cell? ⟨q, 6, none⟩ = some (.int .i64 fS) := fun U h => ((h.cell (p := ⟨q, 6, none⟩) (by simp only; omega)).trans (FMX.out 6))
                have bV : Below (x) V10 V10.drew := (Below.refl _ _).drew
                have gx : V10.drew.heap[x]? = _ := GX.out
                have hsz2 : V10.drew.heap.size = x + 1 := SX.out
                have e5 := E5.out.1
                have e15 := E5.out.2
                have y1 := y1.out
                have y2 := y2.out
                have y3 := y3.out
                have y4 := y4.out
                have y5 := y5.out
                have y6 := y6.out
                have y7 := y7.out
                generalize V10.drew = V0 at *
                refine wpAnyH_take (i := 0) (v := .pointer (some ⟨q, 6, none⟩)) rfl (by as_aux_lemma => kernel_rfl) (by as_aux_lemma => kernel_rfl) (by as_aux_lemma => kernel_rfl) (fun _ _ _ h => h) (Or.inl ⟨by rfl, ?_⟩) hS ?_
                · intro U hU
                  have s0 := hU
                  go_simp
                simp only [Act.put, List.setIfInBounds_toArray, List.set_cons_zero, List.set_cons_succ]
                refine wpAnyH_take (i := 1) (v := .int .i64 fS) rfl (by as_aux_lemma => kernel_rfl) (by as_aux_lemma => kernel_rfl) (by as_aux_lemma => kernel_rfl) (fun _ _ _ h => h) (Or.inl ⟨by rfl, ?_⟩) hS ?_
                · intro U hU
                  have s0 := hU
                  go_simp
                simp only [Act.put, List.setIfInBounds_toArray, List.set_cons_zero, List.set_cons_succ]
                refine wpAnyH_take (i := 2) (v := .int .i64 z5) rfl (by as_aux_lemma => kernel_rfl) (by as_aux_lemma => kernel_rfl) (by as_aux_lemma => kernel_rfl) (fun _ _ _ h => h) (Or.inl ⟨by rfl, ?_⟩) hS ?_
                · intro U hU
                  have s0 := hU
                  go_simp
                simp only [Act.put, List.setIfInBounds_toArray, List.set_cons_zero, List.set_cons_succ]
                refine wpAnyH_take (i := 3) (v := .int .i64 k) rfl (by as_aux_lemma => kernel_rfl) (by as_aux_lemma => kernel_rfl) (by as_aux_lemma => kernel_rfl) (fun _ _ _ h => h) (Or.inl ⟨by rfl, ?_⟩) hS ?_
                · intro U hU
                  have s0 := hU
                  go_simp
                simp only [Act.put, List.setIfInBounds_toArray, List.set_cons_zero, List.set_cons_succ]
                refine wpAnyH_take (i := 4) (v := .int .i64 s5) rfl (by as_aux_lemma => kernel_rfl) (by as_aux_lemma => kernel_rfl) (by as_aux_lemma => kernel_rfl) (fun _ _ _ h => h) (Or.inl ⟨by rfl, ?_⟩) hS ?_
                · intro U hU
                  have s0 := hU
                  go_simp
                simp only [Act.put, List.setIfInBounds_toArray, List.set_cons_zero, List.set_cons_succ]
                refine wpAnyH_call (i := 5) (v := .int .i64 va) (f := 20) (args := #[.int .i64 s5, .int .i64 3]) rfl (by as_aux_lemma => kernel_rfl) (by as_aux_lemma => kernel_rfl) (by as_aux_lemma => kernel_rfl) (fun _ _ _ h => h) (by rfl) WA.out ?_ hS ?_
                · intro U hU
                  have s0 := hU
                  go_simp
                simp only [Act.put, List.setIfInBounds_toArray, List.set_cons_zero, List.set_cons_succ]
                refine wpAnyH_take (i := 6) (v := .int .i64 dxn) rfl (by as_aux_lemma => kernel_rfl) (by as_aux_lemma => kernel_rfl) (by as_aux_lemma => kernel_rfl) (fun _ _ _ h => h) (Or.inl ⟨by rfl, ?_⟩) hS ?_
                · intro U hU
                  have s0 := hU
                  go_simp
                simp only [Act.put, List.setIfInBounds_toArray, List.set_cons_zero, List.set_cons_succ]
                refine wpAnyH_take (i := 7) (v := .pointer (some ⟨q, 6, none⟩)) rfl (by as_aux_lemma => kernel_rfl) (by as_aux_lemma => kernel_rfl) (by as_aux_lemma => kernel_rfl) (fun _ _ _ h => h) (Or.inl ⟨by rfl, ?_⟩) hS ?_
                · intro U hU
                  have s0 := hU
                  go_simp
                simp only [Act.put, List.setIfInBounds_toArray, List.set_cons_zero, List.set_cons_succ]
                refine wpAnyH_take (i := 8) (v := .int .i64 fS) rfl (by as_aux_lemma => kernel_rfl) (by as_aux_lemma => kernel_rfl) (by as_aux_lemma => kernel_rfl) (fun _ _ _ h => h) (Or.inl ⟨by rfl, ?_⟩) hS ?_
                · intro U hU
                  have s0 := hU
                  go_simp
                simp only [Act.put, List.setIfInBounds_toArray, List.set_cons_zero, List.set_cons_succ]
                refine wpAnyH_take (i := 9) (v := .int .i64 z15) rfl (by as_aux_lemma => kernel_rfl) (by as_aux_lemma => kernel_rfl) (by as_aux_lemma => kernel_rfl) (fun _ _ _ h => h) (Or.inl ⟨by rfl, ?_⟩) hS ?_
                · intro U hU
                  have s0 := hU
                  go_simp
                simp only [Act.put, List.setIfInBounds_toArray, List.set_cons_zero, List.set_cons_succ]
                refine wpAnyH_call (i := 10) (v := .int .i64 vb) (f := 20) (args := #[.int .i64 z15, .int .i64 3]) rfl (by as_aux_lemma => kernel_rfl) (by as_aux_lemma => kernel_rfl) (by as_aux_lemma => kernel_rfl) (fun _ _ _ h => h) (by rfl) WB.out ?_ hS ?_
                · intro U hU
                  have s0 := hU
                  go_simp
                simp only [Act.put, List.setIfInBounds_toArray, List.set_cons_zero, List.set_cons_succ]
                refine wpAnyH_take (i := 11) (v := .int .i64 dyn) rfl (by as_aux_lemma => kernel_rfl) (by as_aux_lemma => kernel_rfl) (by as_aux_lemma => kernel_rfl) (fun _ _ _ h => h) (Or.inl ⟨by rfl, ?_⟩) hS ?_
                · intro U hU
                  have s0 := hU
                  go_simp
                simp only [Act.put, List.setIfInBounds_toArray, List.set_cons_zero, List.set_cons_succ]
                refine wpAnyH_take (i := 12) (v := .int .i64 dn) rfl (by as_aux_lemma => kernel_rfl) (by as_aux_lemma => kernel_rfl) (by as_aux_lemma => kernel_rfl) (fun _ _ _ h => h) (Or.inl ⟨by rfl, ?_⟩) hS ?_
                · intro U hU
                  have s0 := hU
                  go_simp
                simp only [Act.put, List.setIfInBounds_toArray, List.set_cons_zero, List.set_cons_succ]
                refine wpAnyH_take (i := 13) (v := .int .i64 k) rfl (by as_aux_lemma => kernel_rfl) (by as_aux_lemma => kernel_rfl) (by as_aux_lemma => kernel_rfl) (fun _ _ _ h => h) (Or.inl ⟨by rfl, ?_⟩) hS ?_
                · intro U hU
                  have s0 := hU
                  go_simp
                simp only [Act.put, List.setIfInBounds_toArray, List.set_cons_zero, List.set_cons_succ]
                refine wpAnyH_take (i := 14) (v := .int .i64 sk) rfl (by as_aux_lemma => kernel_rfl) (by as_aux_lemma => kernel_rfl) (by as_aux_lemma => kernel_rfl) (fun _ _ _ h => h) (Or.inl ⟨by rfl, ?_⟩) hS ?_
                · intro U hU
                  have s0 := hU
                  go_simp
                simp only [Act.put, List.setIfInBounds_toArray, List.set_cons_zero, List.set_cons_succ]
                refine wpAnyH_call (i := 15) (v := .int .i64 vc) (f := 20) (args := #[.int .i64 sk, .int .i64 10]) rfl (by as_aux_lemma => kernel_rfl) (by as_aux_lemma => kernel_rfl) (by as_aux_lemma => kernel_rfl) (fun _ _ _ h => h) (by rfl) WC2.out ?_ hS ?_
                · intro U hU
                  have s0 := hU
                  go_simp
                simp only [Act.put, List.setIfInBounds_toArray, List.set_cons_zero, List.set_cons_succ]
                refine wpAnyH_take (i := 16) (v := .int .i64 dpn) rfl (by as_aux_lemma => kernel_rfl) (by as_aux_lemma => kernel_rfl) (by as_aux_lemma => kernel_rfl) (fun _ _ _ h => h) (Or.inl ⟨by rfl, ?_⟩) hS ?_
                · intro U hU
                  have s0 := hU
                  go_simp
                simp only [Act.put, List.setIfInBounds_toArray, List.set_cons_zero, List.set_cons_succ]
                refine wpAnyH_take (i := 17) (v := .pointer (some ⟨x, 2, none⟩)) rfl (by as_aux_lemma => kernel_rfl) (by as_aux_lemma => kernel_rfl) (by as_aux_lemma => kernel_rfl) (fun _ _ _ h => h) (Or.inl ⟨by rfl, ?_⟩) hS ?_
                · intro U hU
                  have s0 := hU
                  go_simp
                simp only [Act.put, List.setIfInBounds_toArray, List.set_cons_zero, List.set_cons_succ]
                refine wpAnyH_ready (rs := [18]) (by as_aux_lemma => kernel_rfl) (by simp) ?_
                refine AllReadyH.cons (by simp only [List.getElem?_toArray, List.getElem?_cons_succ, List.getElem?_cons_zero]; rfl) (fun K' hK' => ?_) AllReadyH.nil
                have d0 : V0.cell? ⟨x, 2, none⟩ = some (.int .i64 1) := cell_of_row _ _ 2 _ _ (0, 0) gx
                have dz : V0.frozen? ⟨x, 2, none⟩ = false := frozen_of_row _ _ 2 _ _ gx
                go_simp
                have bV' := bV.setCell (p := ⟨x, 2, none⟩) (Nat.le_refl _) (.int .i64 dxn)
                have gx1 := heap_set1 (j := 2) gx (.int .i64 dxn)
                have hS' : (V0.setCell ⟨x, 2, none⟩ (.int .i64 dxn)).cell? ⟨q, 6, none⟩ = some (.int .i64 fS) := ((bV'.cell (p := ⟨q, 6, none⟩) (by simp only; omega)).trans (FMX.out 6))
                refine hK'.out _ (V0.setCell ⟨x, 2, none⟩ (.int .i64 dxn)) hS' (fun _ => ?_)
                clear d0 dz hS
                have hS := hS'
                clear hS'
                have hsz2 : (V0.setCell ⟨x, 2, none⟩ (.int .i64 dxn)).heap.size = _ := (by simp : _ = V0.heap.size).trans hsz2
                generalize V0.setCell ⟨x, 2, none⟩ (.int .i64 dxn) = U0 at *
                clear hK' K'
                try simp only [Act.put, List.setIfInBounds_toArray, List.set_cons_zero, List.set_cons_succ]
                refine wpAnyH_take (i := 19) (v := .pointer (some ⟨x, 3, none⟩)) rfl (by as_aux_lemma => kernel_rfl) (by as_aux_lemma => kernel_rfl) (by as_aux_lemma => kernel_rfl) (fun _ _ _ h => h) (Or.inl ⟨by rfl, ?_⟩) hS ?_
                · intro U hU
                  have s0 := hU
                  go_simp
                simp only [Act.put, List.setIfInBounds_toArray, List.set_cons_zero, List.set_cons_succ]
                refine wpAnyH_ready (rs := [20]) (by as_aux_lemma => kernel_rfl) (by simp) ?_
                refine AllReadyH.cons (by simp only [List.getElem?_toArray, List.getElem?_cons_succ, List.getElem?_cons_zero]; rfl) (fun K' hK' => ?_) AllReadyH.nil
                have d0 : U0.cell? ⟨x, 3, none⟩ = some (.int .i64 1) := cell_of_row _ _ 3 _ _ (0, 0) gx1
                have dz : U0.frozen? ⟨x, 3, none⟩ = false := frozen_of_row _ _ 3 _ _ gx1
                go_simp
                have bV'' := bV'.setCell (p := ⟨x, 3, none⟩) (Nat.le_refl _) (.int .i64 dyn)
                have gx2 := heap_set1 (j := 3) gx1 (.int .i64 dyn)
                have hS' : (U0.setCell ⟨x, 3, none⟩ (.int .i64 dyn)).cell? ⟨q, 6, none⟩ = some (.int .i64 fS) := ((bV''.cell (p := ⟨q, 6, none⟩) (by simp only; omega)).trans (FMX.out 6))
                refine hK'.out _ (U0.setCell ⟨x, 3, none⟩ (.int .i64 dyn)) hS' (fun _ => ?_)
                clear d0 dz hS
                have hS := hS'
                clear hS'
                have hsz2 : (U0.setCell ⟨x, 3, none⟩ (.int .i64 dyn)).heap.size = _ := (by simp : _ = U0.heap.size).trans hsz2
                generalize U0.setCell ⟨x, 3, none⟩ (.int .i64 dyn) = U1 at *
                clear hK' K'
                try simp only [Act.put, List.setIfInBounds_toArray, List.set_cons_zero, List.set_cons_succ]
                refine wpAnyH_take (i := 21) (v := .pointer (some ⟨x, 0, none⟩)) rfl (by as_aux_lemma => kernel_rfl) (by as_aux_lemma => kernel_rfl) (by as_aux_lemma => kernel_rfl) (fun _ _ _ h => h) (Or.inl ⟨by rfl, ?_⟩) hS ?_
                · intro U hU
                  have s0 := hU
                  go_simp
                simp only [Act.put, List.setIfInBounds_toArray, List.set_cons_zero, List.set_cons_succ]
                refine wpAnyH_ready (rs := [22]) (by as_aux_lemma => kernel_rfl) (by simp) ?_
                refine AllReadyH.cons (by simp only [List.getElem?_toArray, List.getElem?_cons_succ, List.getElem?_cons_zero]; rfl) (fun K' hK' => ?_) AllReadyH.nil
                have d0 : U1.cell? ⟨x, 0, none⟩ = some (.int .i64 dn) := cell_of_row _ _ 0 _ _ (0, 0) gx2
                have dz : U1.frozen? ⟨x, 0, none⟩ = false := frozen_of_row _ _ 0 _ _ gx2
                go_simp
                have bV''' := bV''.setCell (p := ⟨x, 0, none⟩) (Nat.le_refl _) (.int .i64 dpn)
                have gx3 := heap_set1 (j := 0) gx2 (.int .i64 dpn)
                have hS' : (U1.setCell ⟨x, 0, none⟩ (.int .i64 dpn)).cell? ⟨q, 6, none⟩ = some (.int .i64 fS) := ((bV'''.cell (p := ⟨q, 6, none⟩) (by simp only; omega)).trans (FMX.out 6))
                refine hK'.out _ (U1.setCell ⟨x, 0, none⟩ (.int .i64 dpn)) hS' (fun _ => ?_)
                clear d0 dz hS
                have hS := hS'
                clear hS'
                have hsz2 : (U1.setCell ⟨x, 0, none⟩ (.int .i64 dpn)).heap.size = _ := (by simp : _ = U1.heap.size).trans hsz2
                generalize U1.setCell ⟨x, 0, none⟩ (.int .i64 dpn) = U2 at *
                clear hK' K'
                try simp only [Act.put, List.setIfInBounds_toArray, List.set_cons_zero, List.set_cons_succ]
                refine wpAnyH_done (by as_aux_lemma => kernel_rfl) ?_ _
                simp only [OnlyN]
                refine ⟨?_, gx3, bV''', ?_⟩
                · first | trivial | rfl
                · exact hsz2
              rintro a' V11 ⟨rfl, gx11, b11, sx11⟩
              simp only [Act.put, List.setIfInBounds_toArray, List.set_cons_zero, List.set_cons_succ]
              have G11 := Lib.hid (And.intro gx11 (And.intro b11 sx11))
              clear gx11 b11 sx11
              go_wp2_with fail
              go_meet
              case rel => exact ⟨dpn, dxn, dyn, BDS.out.1, BDS.out.2.1, BDS.out.2.2, (fun h => by rw [hPLf.out] at h; cases h), G11.out.1, G11.out.2.1, G11.out.2.2⟩
          case rest =>
          obtain ⟨dp, dx, dy, hdp, hdx, hdy, hpl, gx, bx, sx⟩ := hcut
          obtain ⟨V12, hV12⟩ : ∃ V12, V12 = wc := ⟨_, rfl⟩
          subst hV12
          have hb12 : Below x wr V12 := BX0.out.trans bx
          have hm12 : MadeI V12 (q + 5) A k cx F G (MadeC Xn Yn On Pn dn fsg PL) := HM.out.below (by rw [HXS.out]; exact hb12)
          have gm12 := (bx.block (q + 3) (by omega)).trans GMX.out
          have gp12 := (bx.block (q + 4) (by omega)).trans GPX.out
          have gf12 := (bx.block q (by omega)).trans GFX.out
          have hbw := HBX.out.trans (bx.mono (show q + 3 ≤ x by omega))
          have HM0 := HM
          have HB0 := Lib.hid hb12
          have HM := Lib.hid hm12
          have HBX := Lib.hid hbw
          have GPX := Lib.hid gp12
          have GMX := Lib.hid gm12
          have GFX := Lib.hid gf12
          have HPl := Lib.hid hpl
          have GX := Lib.hid gx
          clear hm12 hbw gp12 hb12 bx HCND BX0 hpl
          have c0 : V12.cell? ⟨x, 0, none⟩ = some (.int .i64 dp) := cell_of_row _ _ 0 _ _ (0, 0) gx
          have c1 : V12.cell? ⟨x, 1, none⟩ = some (.bool fsg) := cell_of_row _ _ 1 _ _ (0, 0) gx
          have c2 : V12.cell? ⟨x, 2, none⟩ = some (.int .i64 dx) := cell_of_row _ _ 2 _ _ (0, 0) gx
          have c3 : V12.cell? ⟨x, 3, none⟩ = some (.int .i64 dy) := cell_of_row _ _ 3 _ _ (0, 0) gx
          have c4 : V12.cell? ⟨x, 4, none⟩ = some (.slice none 0 0) := cell_of_row _ _ 4 _ _ (0, 0) gx
          have m0 : V12.cell? ⟨q + 3, 0, none⟩ = some (.int .i64 Xn) := cell_of_row _ _ 0 _ _ (0, 0) gm12
          have m1 : V12.cell? ⟨q + 3, 1, none⟩ = some (.int .i64 Yn) := cell_of_row _ _ 1 _ _ (0, 0) gm12
          have m2 : V12.cell? ⟨q + 3, 2, none⟩ = some (.int .i64 On) := cell_of_row _ _ 2 _ _ (0, 0) gm12
          have m3 : V12.cell? ⟨q + 3, 3, none⟩ = some (.int .i64 Pn) := cell_of_row _ _ 3 _ _ (0, 0) gm12
          have m4 : V12.cell? ⟨q + 3, 4, none⟩ = some (.slice A k cx) := cell_of_row _ _ 4 _ _ (0, 0) gm12
          clear gx gm12 gf12
          obtain ⟨M, M1, M2, hlh, lo1, lo2⟩ := lohi fsg hdp
          have xbn := XB.out
          have HCP := Lib.hid (fun v => by have := canvasPart_any Xn Yn On Pn A k cx dp fsg dx dy none 0 0 (by omega) (by omega) (by omega) (by omega) (by omega) (by omega) v; unfold imgV at this; exact this)
          have hNb : areaN Xn Yn On Pn dx dy ≤ 64 * 64 := by
            unfold areaN
            have e1 : byN Xn dx ≤ Xn := byN_le (by omega)
            have e2 : byN Yn dy ≤ Yn := byN_le (by omega)
            exact Nat.mul_le_mul (by omega) (by omega)
          obtain ⟨N, hNd⟩ : ∃ N, areaN Xn Yn On Pn dx dy = N := ⟨_, rfl⟩
          have HCPX := HCP.out
          have HBo := boundsR_any dp fsg (by omega) (by omega)
          rw [hNd] at hNb HCPX
          obtain ⟨lo, hlo⟩ : ∃ lo, loB dp fsg = lo := ⟨_, rfl⟩
          obtain ⟨hi, hhi⟩ : ∃ hi, hiB dp fsg = hi := ⟨_, rfl⟩
          rw [hlo, hhi] at HBo hlh
          rw [hlo] at lo1 lo2
          have LH := Lib.hid (And.intro hlo (And.intro hhi hNd))
          clear HCP hlo hhi hNd xbn
          have HCP := Lib.hid HCPX
          have HBO := Lib.hid HBo
          have HLH := Lib.hid hlh
          clear HCPX HBo hlh
          have HDP := Lib.hid (And.intro hdp (And.intro hdx hdy))
          clear hdp hdx hdy
          go_wp2_with (first | (go_at_call 22; refine (HBO.out _).mono ?_; rintro e w' ⟨rfl, hw'⟩; obtain rfl := hw'.symm; dsimp only) | (go_at_call 23; refine (HCP.out _).mono ?_; rintro e V13 ⟨rfl, hb13⟩; dsimp only))
          have gm13 := (hb13.block (q + 3) (by omega)).trans GMX.out
          have gp13 := (hb13.block (q + 4) (by omega)).trans GPX.out
          have gf13 := (hb13.block q (by omega)).trans GFX.out
          have gx13 := (hb13.block x (by omega)).trans GX.out
          have hm13 := HM.out.below hb13
          have hbw13 := HBX.out.trans (hb13.mono (show q + 3 ≤ V12.heap.size by omega))
          have hs13 : x + 1 ≤ V13.heap.size := by have := hb13.size; omega
          have HB013 := Lib.hid (HB0.out.trans (hb13.mono (show x ≤ V12.heap.size by omega)))
          clear GMX GPX GFX GX HM HBX hb13 c0 c1 c2 c3 c4 m0 m1 m2 m3 m4
          have GMX := Lib.hid gm13
          have GPX := Lib.hid gp13
          have GFX := Lib.hid gf13
          have HM := Lib.hid hm13
          have HBX := Lib.hid hbw13
          have GX := Lib.hid gx13
          clear gm13 gp13 gf13 hm13 hbw13 gx13
          obtain ⟨wo, hwo⟩ : ∃ wo, wo = wr := ⟨_, rfl⟩
          subst hwo
          go_loopw [15] (fun i wr => ∃ (j : Nat) (X : Option Addr) (cd : Nat) (f : Nat → Int), j ≤ N ∧ i = .int .i64 j ∧ wr.heap[x]? = some (.cells #[.int .i64 dp, .bool fsg, .int .i64 dx, .int .i64 dy, .slice X j cd] 48 (0, 0)) ∧ OwnI wr (x + 1) 3 (.slice X j cd) j f ∧ (∀ t, t < j → lo ≤ f t ∧ f t ≤ hi) ∧ Below x V13 wr ∧ x + 1 ≤ wr.heap.size) (fun i _ => N - (intOf i).toNat)
          case atStart => exact ⟨0, none, 0, fun _ => 0, Nat.zero_le _, rfl, GX.out, OwnI.nil_ _ _ _ _, fun t ht => absurd ht (by omega), Below.refl _ _, hs13⟩
          case round =>
            obtain ⟨j, X, cd, f, hj, rfl, gx, own, hfb, hbel, hsz⟩ := hrel
            by_cases hlj : j < N
            · have gfz := (hbel.block q (by omega)).trans GFX.out
              have c20 : wr.cell? ⟨q, 20, none⟩ = some (.slice NA nN cN) := cell_of_row _ _ 20 _ _ (0, 0) gfz
              have OWN := Lib.hid own
              have GXX := Lib.hid gx
              have HFB := Lib.hid hfb
              have HBZ := Lib.hid hbel
              clear own gx hfb hbel gfz
              go_upto_if 172 with fail
              go_cut [16] from 173 to 191 (fun v wc' => (∃ z : Int, v = .int .i64 z) ∧ ∃ t, wc' = wr.drewN t)
              case first =>
                by_cases hn0 : 0 < nN
                · have hIN := (HNX.out.1.below (show Below q w wr from hb9.trans ((HBX.out.trans (HBZ.out.mono (show q + 3 ≤ x by omega))).mono (show q ≤ q + 3 by omega))))
                  have hrl := Nat.mod_lt j hn0
                  obtain ⟨nb, no, eNA, _, hcv⟩ := hIN.at_ hrl
                  subst eNA
                  have e1 : (j : Int).tmod nN = ((j % nN : Nat) : Int) := (Int.ofNat_tmod j nN).symm
                  have e2 : (j : Int).tdiv nN = ((j / nN : Nat) : Int) := by simp [Int.ofNat_tdiv]
                  have e3 : j / nN ≤ j := Nat.div_le_self _ _
                  have e4 : j % nN ≤ j := Nat.mod_le _ _
                  have hv := HNX.out.2.1 (j % nN) hrl
                  generalize j / nN = qq at *
                  generalize j % nN = rr at *
                  generalize Nf rr = nv at *
                  have r0 : (0 : Int) ≤ rr := by omega
                  have r1 : ((rr : Nat) : Int).toNat = rr := by omega
                  have r2 : (rr : Int) < nN := by omega
                  have z1 : IntKind.i64.wrap (rr : Int) = rr := IntWalk.i64_in _ (by omega)
                  have z2 : IntKind.i64.wrap (qq : Int) = qq := IntWalk.i64_in _ (by omega)
                  have z3 : IntKind.i64.wrap ((1 : Int) + qq) = 1 + qq := IntWalk.i64_in _ (by omega)
                  have n1 : ((nN : Int) = 0) = False := eq_false (by omega)
                  have n2 : ((1 : Int) + qq = 0) = False := eq_false (by omega)
                  clear hIN hrl hv
                  go_wp2_with fail
                  go_quiet (fail)
                  go_wp2_with fail
                  go_meet
                  case rel => exact ⟨⟨_, rfl⟩, _, rfl⟩
                · go_wp2_with fail
                  go_meet
                  case rel => exact ⟨⟨_, rfl⟩, 0, rfl⟩
              case rest =>
              obtain ⟨⟨zz, rfl⟩, tq, hwc⟩ := hcut
              have hU : ∃ V14, V14 = wr.drewN tq := ⟨_, rfl⟩
              obtain ⟨V14, hV14⟩ := hU
              have own14 : OwnI V14 (x + 1) 3 (.slice X j cd) j f := by rw [hV14]; exact OWN.out.drewN _
              have gx14 : V14.heap[x]? = some (.cells #[.int .i64 dp, .bool fsg, .int .i64 dx, .int .i64 dy, .slice X j cd] 48 (0, 0)) := by rw [hV14]; exact GXX.out
              have hb14 : Below x V13 V14 := by rw [hV14]; exact below_drewN HBZ.out tq
              have hs14 : x + 1 ≤ V14.heap.size := by rw [hV14]; exact hsz
              have hwc2 := hwc.trans hV14.symm
              subst hwc2
              have xc4 : wc.cell? ⟨x, 4, none⟩ = some (.slice X j cd) := cell_of_row _ _ 4 _ _ (0, 0) gx14
              obtain ⟨vz, vz_lt, _, WZ0⟩ := within12v zz M M rfl (by omega) (by omega)
              have WZ := Lib.hid WZ0
              clear WZ0
              have hMM := HLH.out
              obtain ⟨hl, ehl⟩ : ∃ z : Int, hi - lo = z := ⟨_, rfl⟩
              obtain ⟨nv, env⟩ : ∃ z : Int, lo + vz = z := ⟨_, rfl⟩
              have y1 := Lib.hid (show IntKind.i64.wrap (hi - lo) = hl by rw [ehl]; exact IntWalk.i64_in _ (by omega))
              have y2 := Lib.hid (show IntKind.i64.wrap (hl + 1) = (M : Int) by rw [show hl + 1 = (M : Int) by omega]; exact IntWalk.i64_in _ (by omega))
              have y3 := Lib.hid (show IntKind.i64.wrap (lo + vz) = nv by rw [env]; exact IntWalk.i64_in _ (by omega))
              have NVB := Lib.hid (show lo ≤ nv ∧ nv ≤ hi by omega)
              clear hMM ehl env
              have OW14 := Lib.hid (own14.congr (g := fun t => if t = j then nv else f t) (fun t ht => by rw [if_neg (by omega)]))
              clear own14 OWN HBZ
              have HB14 := Lib.hid hb14
              clear hb14
              obtain ⟨hs0, hhs0⟩ : ∃ h, wc.heap.size = h := ⟨_, rfl⟩
              go_wp2_with fail
              refine held_cut (by as_aux_lemma => kernel_rfl) (fun U => True) (fun a0 a' W' => ∃ g1 cap1, a' = (((((((((((((a0.put (some 192) (.pointer (some ⟨x, 4, none⟩))).put (some 193) (.slice X j cd)).put (some 194) (.int .i64 lo)).put (some 195) (.int .i64 zz)).put (some 196) (.int .i64 hi)).put (some 197) (.int .i64 lo)).put (some 198) (.int .i64 hl)).put (some 199) (.int .i64 M)).put (some 200) (.int .i64 vz)).put (some 201) (.int .i64 nv)).put (some 202) (.slice (some ⟨hs0, 0, none⟩) 1 1)).put (some 203) ((.slice (some ⟨g1, 0, none⟩) (j + 1) cap1))).put (some 204) (.pointer (some ⟨x, 4, none⟩))) ∧ W'.heap[x]? = some (.cells #[.int .i64 dp, .bool fsg, .int .i64 dx, .int .i64 dy, (.slice (some ⟨g1, 0, none⟩) (j + 1) cap1)] 48 (0, 0)) ∧ OwnI W' (x + 1) 3 (.slice (some ⟨g1, 0, none⟩) (j + 1) cap1) (j + 1) (fun t => if t = j then nv else f t) ∧ Below x wc W' ∧ x + 1 ≤ W'.heap.size) trivial (fun hS => ?_) ?_
              · skip
                have hSB : ∀ U : World, Below (hs0) wc U → True := fun U h => trivial
                have bV : Below (hs0) wc wc.drew := (Below.refl _ _).drew
                have hsz9 : wc.drew.heap.size = hs0 := hhs0
                have y1 := y1.out
                have y2 := y2.out
                have y3 := y3.out
                generalize wc.drew = V0 at *
                refine wpAnyH_take (i := 0) (v := .pointer (some ⟨x, 4, none⟩)) rfl (by as_aux_lemma => kernel_rfl) (by as_aux_lemma => kernel_rfl) (by as_aux_lemma => kernel_rfl) (fun _ _ _ h => h) (Or.inl ⟨by rfl, ?_⟩) hS ?_
                · intro U hU
                  go_simp
                simp only [Act.put, List.setIfInBounds_toArray, List.set_cons_zero, List.set_cons_succ]
                refine wpAnyH_take (i := 2) (v := .int .i64 lo) rfl (by as_aux_lemma => kernel_rfl) (by as_aux_lemma => kernel_rfl) (by as_aux_lemma => kernel_rfl) (fun _ _ _ h => h) (Or.inl ⟨by rfl, ?_⟩) hS ?_
                · intro U hU
                  go_simp
                simp only [Act.put, List.setIfInBounds_toArray, List.set_cons_zero, List.set_cons_succ]
                refine wpAnyH_take (i := 3) (v := .int .i64 zz) rfl (by as_aux_lemma => kernel_rfl) (by as_aux_lemma => kernel_rfl) (by as_aux_lemma => kernel_rfl) (fun _ _ _ h => h) (Or.inl ⟨by rfl, ?_⟩) hS ?_
                · intro U hU
                  go_simp
                simp only [Act.put, List.setIfInBounds_toArray, List.set_cons_zero, List.set_cons_succ]
                refine wpAnyH_take (i := 4) (v := .int .i64 hi) rfl (by as_aux_lemma => kernel_rfl) (by as_aux_lemma => kernel_rfl) (by as_aux_lemma => kernel_rfl) (fun _ _ _ h => h) (Or.inl ⟨by rfl, ?_⟩) hS ?_
                · intro U hU
                  go_simp
                simp only [Act.put, List.setIfInBounds_toArray, List.set_cons_zero, List.set_cons_succ]
                refine wpAnyH_take (i := 5) (v := .int .i64 lo) rfl (by as_aux_lemma => kernel_rfl) (by as_aux_lemma => kernel_rfl) (by as_aux_lemma => kernel_rfl) (fun _ _ _ h => h) (Or.inl ⟨by rfl, ?_⟩) hS ?_
                · intro U hU
                  go_simp
                simp only [Act.put, List.setIfInBounds_toArray, List.set_cons_zero, List.set_cons_succ]
                refine wpAnyH_take (i := 6) (v := .int .i64 hl) rfl (by as_aux_lemma => kernel_rfl) (by as_aux_lemma => kernel_rfl) (by as_aux_lemma => kernel_rfl) (fun _ _ _ h => h) (Or.inl ⟨by rfl, ?_⟩) hS ?_
                · intro U hU
                  go_simp
                simp only [Act.put, List.setIfInBounds_toArray, List.set_cons_zero, List.set_cons_succ]
                refine wpAnyH_take (i := 7) (v := .int .i64 M) rfl (by as_aux_lemma => kernel_rfl) (by as_aux_lemma => kernel_rfl) (by as_aux_lemma => kernel_rfl) (fun _ _ _ h => h) (Or.inl ⟨by rfl, ?_⟩) hS ?_
                · intro U hU
                  go_simp
                simp only [Act.put, List.setIfInBounds_toArray, List.set_cons_zero, List.set_cons_succ]
                refine wpAnyH_call (i := 8) (v := .int .i64 vz) (f := 20) (args := #[.int .i64 zz, .int .i64 M]) rfl (by as_aux_lemma => kernel_rfl) (by as_aux_lemma => kernel_rfl) (by as_aux_lemma => kernel_rfl) (fun _ _ _ h => h) (by rfl) WZ.out ?_ hS ?_
                · intro U hU
                  go_simp
                simp only [Act.put, List.setIfInBounds_toArray, List.set_cons_zero, List.set_cons_succ]
                refine wpAnyH_take (i := 9) (v := .int .i64 nv) rfl (by as_aux_lemma => kernel_rfl) (by as_aux_lemma => kernel_rfl) (by as_aux_lemma => kernel_rfl) (fun _ _ _ h => h) (Or.inl ⟨by rfl, ?_⟩) hS ?_
                · intro U hU
                  go_simp
                simp only [Act.put, List.setIfInBounds_toArray, List.set_cons_zero, List.set_cons_succ]
                refine wpAnyH_ready (rs := [1, 10]) (by as_aux_lemma => kernel_rfl) (by simp) ?_
                refine AllReadyH.cons (by simp only [List.getElem?_toArray, List.getElem?_cons_succ, List.getElem?_cons_zero]; rfl) (fun K' hK' => ?_) (AllReadyH.cons (by simp only [List.getElem?_toArray, List.getElem?_cons_succ, List.getElem?_cons_zero]; rfl) (fun K' hK' => ?_) AllReadyH.nil)
                · have xm : V0.cell? ⟨x, 4, none⟩ = some (.slice X j cd) := (bV.cell (p := ⟨x, 4, none⟩) (by simp only; omega)).trans xc4
                  go_simp
                  refine hK'.out _ _ trivial (fun _ => ?_)
                  clear xm
                  clear hK' K'
                  try simp only [Act.put, List.setIfInBounds_toArray, List.set_cons_zero, List.set_cons_succ]
                  refine wpAnyH_ready (rs := [10]) (by as_aux_lemma => kernel_rfl) (by simp) ?_
                  refine AllReadyH.cons (by simp only [List.getElem?_toArray, List.getElem?_cons_succ, List.getElem?_cons_zero]; rfl) (fun K' hK' => ?_) AllReadyH.nil
                  go_simp
                  have bu1 := bV.alloc (Nat.le_of_eq hsz9.symm) (.cells #[.int .i64 nv] 3)
                  refine hK'.out _ _ trivial (fun _ => ?_)
                  try rw [hsz9]
                  have hcel : (V0.alloc (.cells #[.int .i64 nv] 3)).cell? ⟨hs0, 0, none⟩ = some (.int .i64 ((fun t => if t = j then nv else f t) j)) := by rw [← hsz9, cell_of_row _ _ 0 _ _ (0, 0) (heap_alloc_new V0 _)]; simp
                  generalize V0.alloc (.cells #[.int .i64 nv] 3) = U1 at *
                  clear hK' K'
                  try simp only [Act.put, List.setIfInBounds_toArray, List.set_cons_zero, List.set_cons_succ]
                  refine wpAnyH_ready (rs := [11]) (by as_aux_lemma => kernel_rfl) (by simp) ?_
                  refine AllReadyH.cons (by simp only [List.getElem?_toArray, List.getElem?_cons_succ, List.getElem?_cons_zero]; rfl) (fun K' hK' => ?_) AllReadyH.nil
                  refine step_app1 wc (by rw [hhs0]; exact bu1) (by rfl) _ _ 22 (by rfl) 3 int_infoM Try.underlying22 (x + 1) X j cd _ (by rfl) OW14.out hs0 (by rfl) hcel (by omega) (by omega) ?_
                  intro g1 cap1 U2 o1 st1 lt1
                  refine hK'.out _ _ trivial (fun _ => ?_)
                  clear hcel
                  clear hK' K'
                  try simp only [Act.put, List.setIfInBounds_toArray, List.set_cons_zero, List.set_cons_succ]
                  refine wpAnyH_take (i := 12) (v := .pointer (some ⟨x, 4, none⟩)) rfl (by as_aux_lemma => kernel_rfl) (by as_aux_lemma => kernel_rfl) (by as_aux_lemma => kernel_rfl) (fun _ _ _ h => h) (Or.inl ⟨by rfl, ?_⟩) hS ?_
                  · intro U hU
                    go_simp
                  simp only [Act.put, List.setIfInBounds_toArray, List.set_cons_zero, List.set_cons_succ]
                  refine wpAnyH_ready (rs := [13]) (by as_aux_lemma => kernel_rfl) (by simp) ?_
                  refine AllReadyH.cons (by simp only [List.getElem?_toArray, List.getElem?_cons_succ, List.getElem?_cons_zero]; rfl) (fun K' hK' => ?_) AllReadyH.nil
                  have xm : U2.cell? ⟨x, 4, none⟩ = some (.slice X j cd) := (st1.below.cell (p := ⟨x, 4, none⟩) (by simp only; omega)).trans xc4
                  have gx9 := (st1.below.block x (by omega)).trans gx14
                  have fm := frozen_of_row _ _ 4 _ _ gx9
                  go_simp
                  refine hK'.out _ _ trivial (fun _ => ?_)
                  clear xm fm
                  clear hK' K'
                  try simp only [Act.put, List.setIfInBounds_toArray, List.set_cons_zero, List.set_cons_succ]
                  refine wpAnyH_done (by as_aux_lemma => kernel_rfl) ?_ _
                  simp only [OnlyN]
                  refine ⟨g1, cap1, ?_, heap_set1 (j := 4) gx9 (.slice (some ⟨g1, 0, none⟩) (j + 1) cap1), o1.other (a := ⟨x, 4, none⟩) (fun he => by have := (o1.lt _ he).1; simp only at this; omega) _, (st1.below.mono (Nat.le_succ x)).setCell (p := ⟨x, 4, none⟩) (Nat.le_refl _) _, ?_⟩
                  · first | trivial | rfl
                  · have := st1.below.size; simp; omega
                · go_simp
                  have bu4 := bV.alloc (Nat.le_of_eq hsz9.symm) (.cells #[.int .i64 nv] 3)
                  refine hK'.out _ _ trivial (fun _ => ?_)
                  try rw [hsz9]
                  have hcel : (V0.alloc (.cells #[.int .i64 nv] 3)).cell? ⟨hs0, 0, none⟩ = some (.int .i64 ((fun t => if t = j then nv else f t) j)) := by rw [← hsz9, cell_of_row _ _ 0 _ _ (0, 0) (heap_alloc_new V0 _)]; simp
                  generalize V0.alloc (.cells #[.int .i64 nv] 3) = U4 at *
                  clear hK' K'
                  try simp only [Act.put, List.setIfInBounds_toArray, List.set_cons_zero, List.set_cons_succ]
                  refine wpAnyH_ready (rs := [1]) (by as_aux_lemma => kernel_rfl) (by simp) ?_
                  refine AllReadyH.cons (by simp only [List.getElem?_toArray, List.getElem?_cons_succ, List.getElem?_cons_zero]; rfl) (fun K' hK' => ?_) AllReadyH.nil
                  have xm : U4.cell? ⟨x, 4, none⟩ = some (.slice X j cd) := (bu4.cell (p := ⟨x, 4, none⟩) (by simp only; omega)).trans xc4
                  go_simp
                  refine hK'.out _ _ trivial (fun _ => ?_)
                  clear xm
                  clear hK' K'
                  try simp only [Act.put, List.setIfInBounds_toArray, List.set_cons_zero, List.set_cons_succ]
                  refine wpAnyH_ready (rs := [11]) (by as_aux_lemma => kernel_rfl) (by simp) ?_
                  refine AllReadyH.cons (by simp only [List.getElem?_toArray, List.getElem?_cons_succ, List.getElem?_cons_zero]; rfl) (fun K' hK' => ?_) AllReadyH.nil
                  refine step_app1 wc (by rw [hhs0]; exact bu4) (by rfl) _ _ 22 (by rfl) 3 int_infoM Try.underlying22 (x + 1) X j cd _ (by rfl) OW14.out hs0 (by rfl) hcel (by omega) (by omega) ?_
                  intro g1 cap1 U6 o1 st1 lt1
                  refine hK'.out _ _ trivial (fun _ => ?_)
                  clear hcel
                  clear hK' K'
                  try simp only [Act.put, List.setIfInBounds_toArray, List.set_cons_zero, List.set_cons_succ]
                  refine wpAnyH_take (i := 12) (v := .pointer (some ⟨x, 4, none⟩)) rfl (by as_aux_lemma => kernel_rfl) (by as_aux_lemma => kernel_rfl) (by as_aux_lemma => kernel_rfl) (fun _ _ _ h => h) (Or.inl ⟨by rfl, ?_⟩) hS ?_
                  · intro U hU
                    go_simp
                  simp only [Act.put, List.setIfInBounds_toArray, List.set_cons_zero, List.set_cons_succ]
                  refine wpAnyH_ready (rs := [13]) (by as_aux_lemma => kernel_rfl) (by simp) ?_
                  refine AllReadyH.cons (by simp only [List.getElem?_toArray, List.getElem?_cons_succ, List.getElem?_cons_zero]; rfl) (fun K' hK' => ?_) AllReadyH.nil
                  have xm : U6.cell? ⟨x, 4, none⟩ = some (.slice X j cd) := (st1.below.cell (p := ⟨x, 4, none⟩) (by simp only; omega)).trans xc4
                  have gx9 := (st1.below.block x (by omega)).trans gx14
                  have fm := frozen_of_row _ _ 4 _ _ gx9
                  go_simp
                  refine hK'.out _ _ trivial (fun _ => ?_)
                  clear xm fm
                  clear hK' K'
                  try simp only [Act.put, List.setIfInBounds_toArray, List.set_cons_zero, List.set_cons_succ]
                  refine wpAnyH_done (by as_aux_lemma => kernel_rfl) ?_ _
                  simp only [OnlyN]
                  refine ⟨g1, cap1, ?_, heap_set1 (j := 4) gx9 (.slice (some ⟨g1, 0, none⟩) (j + 1) cap1), o1.other (a := ⟨x, 4, none⟩) (fun he => by have := (o1.lt _ he).1; simp only at this; omega) _, (st1.below.mono (Nat.le_succ x)).setCell (p := ⟨x, 4, none⟩) (Nat.le_refl _) _, ?_⟩
                  · first | trivial | rfl
                  · have := st1.below.size; simp; omega
              rintro a' V15 ⟨g1, cap1, rfl, gx15, own15, b15, hs15⟩
              simp only [Act.put, List.setIfInBounds_toArray, List.set_cons_zero, List.set_cons_succ]
              have gz := HFB.out
              have R15 := Lib.hid (And.intro gx15 (And.intro own15 (And.intro (HB14.out.trans b15) hs15)))
              clear gx15 own15 b15 hs15 gx14
              go_wp2_with fail
              go_roundw
              case rel =>
                refine ⟨j + 1, some ⟨g1, 0, none⟩, cap1, _, by omega, by go_num, R15.out.1, R15.out.2.1, fun t ht => ?_, R15.out.2.2.1, R15.out.2.2.2⟩
                split
                · exact NVB.out
                · exact HFB.out t (by omega)
              case measure => simp [intOf]; omega
            · obtain rfl : j = N := by omega
              obtain ⟨d, hd⟩ : ∃ d : CompD, d = ⟨dp, fsg, dx, dy, X, j, cd⟩ := ⟨_, rfl⟩
              have hb0w : Below x wo wr := HB013.out.trans hbel
              have hmw := HM0.out.below (show Below wo.heap.size wo wr by rw [HXS.out]; exact hb0w)
              have hmo := HM0.out
              have HDD : OwnI wr (q + 5) 3 (dataV d) d.n f := by rw [hd]; exact World.ownsRow.mono own (by omega)
              have HSP : ∀ i, i < k → Sep (dataV (F i)) (dataV d) := fun i hi p h1 h2 => by
                have e1 := ((hmo.data i hi).lt _ h1).2
                rw [HXS.out] at e1
                rw [hd] at h2
                have e2 := (own.lt _ h2).1
                omega
              have HPC : MadeC Xn Yn On Pn dn fsg PL d f := by
                obtain ⟨h1, h2, h3⟩ := HDP.out
                obtain ⟨h4, h5, h6⟩ := LH.out
                rw [hd]
                refine ⟨by simp only; omega, by simp only; omega, by simp only; omega, rfl, ?_, ?_, ?_⟩
                · simp only [Int.toNat_natCast]; exact h6.symm
                · simp only [Int.toNat_natCast]; rw [h4, h5]; exact hfb
                · intro h; obtain ⟨h7, h8, h9⟩ := HPl.out h; simp only; omega
              have HCM : OwnC wr (q + 5) 48 5 (.slice A k cx) k (fun i => compL (if i = k then d else F i)) := hmw.comps.congr (fun _ => rfl) (fun i hi => by rw [if_neg (by omega)])
              have hcel : ∀ (t : Nat) (u : Value), ((fun i => compL (if i = k then d else F i)) k)[t]? = some u → (wr.alloc (.cells #[.int .i64 dp, .bool fsg, .int .i64 dx, .int .i64 dy, .slice X j cd] 48)).cell? ⟨wr.heap.size, t, none⟩ = some u := fun t u ht => by
                rw [cell_of_row _ _ _ _ _ (0, 0) (heap_alloc_new wr _)]
                dsimp only at ht
                rw [if_pos rfl, hd] at ht
                simpa [compL] using ht
              have hone : ∀ u ∈ (fun i => compL (if i = k then d else F i)) k, u.oneCell' = true := fun u hu => by
                dsimp only at hu
                rw [if_pos rfl, hd] at hu
                simp [compL] at hu
                rcases hu with rfl | rfl | rfl | rfl | rfl <;> rfl
              have HCE := Lib.hid (And.intro hcel hone)
              have HALL2 := Lib.hid (And.intro hmw (And.intro HDD (And.intro HSP HPC)))
              have gmw := (hbel.block (q + 3) (by omega)).trans GMX.out
              have gpw := (hbel.block (q + 4) (by omega)).trans GPX.out
              have hbw2 := HBX.out.trans (hbel.mono (show q + 3 ≤ x by omega))
              have HBW := Lib.hid (And.intro gmw (And.intro gpw hbw2))
              have m4 : wr.cell? ⟨q + 3, 4, none⟩ = some (.slice A k cx) := cell_of_row _ _ 4 _ _ (0, 0) gmw
              have z4 : wr.frozen? ⟨q + 3, 4, none⟩ = false := frozen_of_row _ _ 4 _ _ gmw
              have F1 := Lib.hid (fun (V : World) (h : Below (q + 5) wr V) => And.intro ((h.cell (p := ⟨q + 3, 4, none⟩) (by simp only; omega)).trans m4) ((h.frozen (p := ⟨q + 3, 4, none⟩) (by simp only; omega)).trans z4))
              have c0 : wr.cell? ⟨x, 0, none⟩ = some (.int .i64 dp) := cell_of_row _ _ 0 _ _ (0, 0) gx
              have c1 : wr.cell? ⟨x, 1, none⟩ = some (.bool fsg) := cell_of_row _ _ 1 _ _ (0, 0) gx
              have c2 : wr.cell? ⟨x, 2, none⟩ = some (.int .i64 dx) := cell_of_row _ _ 2 _ _ (0, 0) gx
              have c3 : wr.cell? ⟨x, 3, none⟩ = some (.int .i64 dy) := cell_of_row _ _ 3 _ _ (0, 0) gx
              have c4 : wr.cell? ⟨x, 4, none⟩ = some (.slice X j cd) := cell_of_row _ _ 4 _ _ (0, 0) gx
              have HD := Lib.hid hd
              clear hd hcel hone hmw hmo HDD HSP HPC gmw gpw hbw2 hb0w own hfb gx hbel z4
              go_wp2_with (at_builtin; refine wpList_appC wr ((Below.refl _ _).alloc (Nat.le_refl _) _) (KeepsOthers.alloc _ _) rfl _ _ 26 rfl 48 5 comp_elem (q + 5) A k cx _ rfl HCM wr.heap.size rfl HCE.out.1 HCE.out.2 (by omega) (by omega) ?_; intro g1 cap1 W16 og sg hg; have x5 := (F1.out _ sg.below).1; have y5 := (F1.out _ sg.below).2)
              have hmore := MadeI.more HALL2.out.1 HALL2.out.2.1 HALL2.out.2.2.1 HALL2.out.2.2.2 og sg
              have hm9 := hmore.set_ (p := q + 3) (j := 4) (by omega) (.slice (some ⟨g1, 0, none⟩) (k + 1) cap1)
              have gm9 := heap_set1 (j := 4) ((sg.below.block (q + 3) (by omega)).trans HBW.out.1) (.slice (some ⟨g1, 0, none⟩) (k + 1) cap1)
              have gp9 := (Below.heap_setCell W16 ⟨q + 3, 4, none⟩ (.slice (some ⟨g1, 0, none⟩) (k + 1) cap1) (q + 4) (by simp only; omega)).trans ((sg.below.block (q + 4) (by omega)).trans HBW.out.2.1)
              have b9 := (HBW.out.2.2.trans (sg.below.mono (show q + 3 ≤ q + 5 by omega))).setCell (p := ⟨q + 3, 4, none⟩) (Nat.le_refl _) (.slice (some ⟨g1, 0, none⟩) (k + 1) cap1)
              have s9 : q + 5 ≤ (W16.setCell ⟨q + 3, 4, none⟩ (.slice (some ⟨g1, 0, none⟩) (k + 1) cap1)).heap.size := by have := sg.below.size; simp; omega
              go_roundw
              case rel => exact ⟨k + 1, some ⟨g1, 0, none⟩, cap1, _, _, by omega, by go_num, gm9, hm9, b9, gp9, s9⟩
              case measure => simp [intOf]; omega
        · have hke : k = nc := by omega
          have gfz := (hbel.block q (by omega)).trans GF.out
          have gr1z := (hbel.block (q + 1) (by omega)).trans GR.out.1
          have gr2z := (hbel.block (q + 2) (by omega)).trans GR.out.2
          have f8 : wr.cell? ⟨q, 8, none⟩ = some (.bool frct) := cell_of_row _ _ 8 _ _ (0, 0) gfz
          have f6 : wr.cell? ⟨q, 6, none⟩ = some (.int .i64 fS) := cell_of_row _ _ 6 _ _ (0, 0) gfz
          have p9 : wr.cell? ⟨q + 4, 9, none⟩ = some (.bool false) := cell_of_row _ _ 9 _ _ (0, 0) gp
          have zp9 : wr.frozen? ⟨q + 4, 9, none⟩ = false := frozen_of_row _ _ 9 _ _ gp
          obtain ⟨rb, hrb⟩ : ∃ rb : Bool, rb = (frct && (decide (3 ≤ nc) && !decide (fS.tmod 5 = 1))) := ⟨_, rfl⟩
          have HRB := Lib.hid hrb
          have HKE := Lib.hid hke
          have GZ := Lib.hid (And.intro gr1z (And.intro gr2z (And.intro gm gp)))
          have HMZ := Lib.hid (And.intro hmade hbel)
          clear hrb hke gfz gr1z gr2z gm gp hmade hbel
          go_upto_region 27 with fail
          go_cut [] from 211 to 223 (fun wc' => wc' = wr.setCell ⟨q + 4, 9, none⟩ (.bool rb))
          case first =>
            by_cases hq5 : fS.tmod 5 = 1
            · cases frct
              · have CE := Lib.hid (show rb = false by rw [HRB.out]; rfl)
                go_wp2_with fail
                go_meet
                case rel => rw [CE.out]
              · by_cases hn3 : 3 ≤ nc
                · have CE := Lib.hid (show rb = false by rw [HRB.out]; simp [hq5])
                  go_wp2_with fail
                  go_meet
                  case rel => rw [CE.out]
                · have CE := Lib.hid (show rb = false by rw [HRB.out]; simp [hq5])
                  go_wp2_with fail
                  go_meet
                  case rel => rw [CE.out]
            · have d5 : (fS.tmod 5 != 1) = true := by simp [hq5]
              have d6 : (fS.tmod 5 == 1) = false := by simp [hq5]
              have d7 : decide (fS.tmod 5 = 1) = false := by simp [hq5]
              cases frct
              · have CE := Lib.hid (show rb = false by rw [HRB.out]; rfl)
                go_wp2_with fail
                go_meet
                case rel => rw [CE.out]
              · by_cases hn3 : 3 ≤ nc
                · have CE := Lib.hid (show rb = true by rw [HRB.out]; simp [hq5, hn3])
                  go_wp2_with fail
                  go_meet
                  case rel => rw [CE.out]
                · have CE := Lib.hid (show rb = false by rw [HRB.out]; simp [hn3])
                  go_wp2_with fail
                  go_meet
                  case rel => rw [CE.out]
          case rest =>
          obtain ⟨V17, hV17⟩ : ∃ V17, V17 = wc := ⟨_, rfl⟩
          subst hV17
          have gp17 : V17.heap[q + 4]? = some (.cells #[.int .i64 tx, .int .i64 ty, .int .i64 lv, .int .i64 cwn, .int .i64 chn, .int .i64 pr, .int .i64 st, .int .i64 od, .int .i64 lyn, .bool rb, .bool fsop, .bool feph] 30 (0, 0)) := by rw [hcut]; exact heap_set1 (j := 9) GZ.out.2.2.2 (.bool rb)
          have far : ∀ p, p ≠ q + 4 → V17.heap[p]? = wr.heap[p]? := fun p hp => by rw [hcut]; exact Below.heap_setCell wr ⟨q + 4, 9, none⟩ (.bool rb) p hp
          have gm17 := (far (q + 3) (by omega)).trans GZ.out.2.2.1
          have gr117 := (far (q + 1) (by omega)).trans GZ.out.1
          have gr217 := (far (q + 2) (by omega)).trans GZ.out.2.1
          have hm17 : MadeI V17 (q + 5) A k cx F G (MadeC Xn Yn On Pn dn fsg PL) := by rw [hcut]; exact HMZ.out.1.set_ (by omega) _
          have hb17 : Below q w V17 := by rw [hcut]; exact (hb9.trans (HMZ.out.2.mono (by omega))).setCell (p := ⟨q + 4, 9, none⟩) (by simp only; omega) _
          have hs17 : q + 5 ≤ V17.heap.size := by rw [hcut]; simp; exact hsz
          clear far hcut HMZ GZ f8 f6 p9 zp9
          have m0 : V17.cell? ⟨q + 3, 0, none⟩ = some (.int .i64 Xn) := cell_of_row _ _ 0 _ _ (0, 0) gm17
          have m1 : V17.cell? ⟨q + 3, 1, none⟩ = some (.int .i64 Yn) := cell_of_row _ _ 1 _ _ (0, 0) gm17
          have m2 : V17.cell? ⟨q + 3, 2, none⟩ = some (.int .i64 On) := cell_of_row _ _ 2 _ _ (0, 0) gm17
          have m3 : V17.cell? ⟨q + 3, 3, none⟩ = some (.int .i64 Pn) := cell_of_row _ _ 3 _ _ (0, 0) gm17
          have m4 : V17.cell? ⟨q + 3, 4, none⟩ = some (.slice A k cx) := cell_of_row _ _ 4 _ _ (0, 0) gm17
          have p0 : V17.cell? ⟨q + 4, 0, none⟩ = some (.int .i64 tx) := cell_of_row _ _ 0 _ _ (0, 0) gp17
          have p1 : V17.cell? ⟨q + 4, 1, none⟩ = some (.int .i64 ty) := cell_of_row _ _ 1 _ _ (0, 0) gp17
          have p2 : V17.cell? ⟨q + 4, 2, none⟩ = some (.int .i64 lv) := cell_of_row _ _ 2 _ _ (0, 0) gp17
          have p3 : V17.cell? ⟨q + 4, 3, none⟩ = some (.int .i64 cwn) := cell_of_row _ _ 3 _ _ (0, 0) gp17
          have p4 : V17.cell? ⟨q + 4, 4, none⟩ = some (.int .i64 chn) := cell_of_row _ _ 4 _ _ (0, 0) gp17
          have p5 : V17.cell? ⟨q + 4, 5, none⟩ = some (.int .i64 pr) := cell_of_row _ _ 5 _ _ (0, 0) gp17
          have p6 : V17.cell? ⟨q + 4, 6, none⟩ = some (.int .i64 st) := cell_of_row _ _ 6 _ _ (0, 0) gp17
          have p7 : V17.cell? ⟨q + 4, 7, none⟩ = some (.int .i64 od) := cell_of_row _ _ 7 _ _ (0, 0) gp17
          have p8 : V17.cell? ⟨q + 4, 8, none⟩ = some (.int .i64 lyn) := cell_of_row _ _ 8 _ _ (0, 0) gp17
          have p9 : V17.cell? ⟨q + 4, 9, none⟩ = some (.bool rb) := cell_of_row _ _ 9 _ _ (0, 0) gp17
          have p10 : V17.cell? ⟨q + 4, 10, none⟩ = some (.bool fsop) := cell_of_row _ _ 10 _ _ (0, 0) gp17
          have p11 : V17.cell? ⟨q + 4, 11, none⟩ = some (.bool feph) := cell_of_row _ _ 11 _ _ (0, 0) gp17
          have a0 : V17.cell? ⟨q + 1, 0, none⟩ = some (.int .i64 0) := cell_of_row _ _ 0 _ _ (0, 0) gr117
          have a1 : V17.cell? ⟨q + 1, 1, none⟩ = some (.int .i64 0) := cell_of_row _ _ 1 _ _ (0, 0) gr117
          have a2 : V17.cell? ⟨q + 1, 2, none⟩ = some (.int .i64 0) := cell_of_row _ _ 2 _ _ (0, 0) gr117
          have a3 : V17.cell? ⟨q + 1, 3, none⟩ = some (.int .i64 0) := cell_of_row _ _ 3 _ _ (0, 0) gr117
          have a4 : V17.cell? ⟨q + 1, 4, none⟩ = some (.slice none 0 0) := cell_of_row _ _ 4 _ _ (0, 0) gr117
          have e0 : V17.cell? ⟨q + 1 + 1, 0, none⟩ = some (.int .i64 0) := cell_of_row _ _ 0 _ _ (0, 0) gr217
          have e1 : V17.cell? ⟨q + 1 + 1, 1, none⟩ = some (.int .i64 0) := cell_of_row _ _ 1 _ _ (0, 0) gr217
          have e2 : V17.cell? ⟨q + 1 + 1, 2, none⟩ = some (.int .i64 0) := cell_of_row _ _ 2 _ _ (0, 0) gr217
          have e3 : V17.cell? ⟨q + 1 + 1, 3, none⟩ = some (.int .i64 0) := cell_of_row _ _ 3 _ _ (0, 0) gr217
          have e4 : V17.cell? ⟨q + 1 + 1, 4, none⟩ = some (.int .i64 0) := cell_of_row _ _ 4 _ _ (0, 0) gr217
          have e5 : V17.cell? ⟨q + 1 + 1, 5, none⟩ = some (.int .i64 0) := cell_of_row _ _ 5 _ _ (0, 0) gr217
          have e6 : V17.cell? ⟨q + 1 + 1, 6, none⟩ = some (.int .i64 0) := cell_of_row _ _ 6 _ _ (0, 0) gr217
          have e7 : V17.cell? ⟨q + 1 + 1, 7, none⟩ = some (.int .i64 0) := cell_of_row _ _ 7 _ _ (0, 0) gr217
          have e8 : V17.cell? ⟨q + 1 + 1, 8, none⟩ = some (.int .i64 0) := cell_of_row _ _ 8 _ _ (0, 0) gr217
          have e9 : V17.cell? ⟨q + 1 + 1, 9, none⟩ = some (.bool false) := cell_of_row _ _ 9 _ _ (0, 0) gr217
          have e10 : V17.cell? ⟨q + 1 + 1, 10, none⟩ = some (.bool false) := cell_of_row _ _ 10 _ _ (0, 0) gr217
          have e11 : V17.cell? ⟨q + 1 + 1, 11, none⟩ = some (.bool false) := cell_of_row _ _ 11 _ _ (0, 0) gr217
          have z1 : ∀ i, V17.frozen? ⟨q + 1, i, none⟩ = false := fun i => frozen_of_row _ _ i _ _ gr117
          have z2 : ∀ i, V17.frozen? ⟨q + 1 + 1, i, none⟩ = false := fun i => frozen_of_row _ _ i _ _ gr217
          have HM17 := Lib.hid (And.intro hm17 (And.intro hb17 hs17))
          have GG := Lib.hid (And.intro gp17 (And.intro gm17 (And.intro gr117 gr217)))
          clear hm17 hb17 hs17 gp17 gm17 gr117 gr217
          go_wp2_with fail
          refine held_cut (by as_aux_lemma => kernel_rfl) (fun U => U.cell? ⟨q + 3, 0, none⟩ = some (.int .i64 Xn) ∧ U.cell? ⟨q + 3, 1, none⟩ = some (.int .i64 Yn) ∧ U.cell? ⟨q + 3, 2, none⟩ = some (.int .i64 On) ∧ U.cell? ⟨q + 3, 3, none⟩ = some (.int .i64 Pn) ∧ U.cell? ⟨q + 3, 4, none⟩ = some (.slice A k cx) ∧ U.cell? ⟨q + 4, 0, none⟩ = some (.int .i64 tx) ∧ U.cell? ⟨q + 4, 1, none⟩ = some (.int .i64 ty) ∧ U.cell? ⟨q + 4, 2, none⟩ = some (.int .i64 lv) ∧ U.cell? ⟨q + 4, 3, none⟩ = some (.int .i64 cwn) ∧ U.cell? ⟨q + 4, 4, none⟩ = some (.int .i64 chn) ∧ U.cell? ⟨q + 4, 5, none⟩ = some (.int .i64 pr) ∧ U.cell? ⟨q + 4, 6, none⟩ = some (.int .i64 st) ∧ U.cell? ⟨q + 4, 7, none⟩ = some (.int .i64 od) ∧ U.cell? ⟨q + 4, 8, none⟩ = some (.int .i64 lyn) ∧ U.cell? ⟨q + 4, 9, none⟩ = some (.bool rb) ∧ U.cell? ⟨q + 4, 10, none⟩ = some (.bool fsop) ∧ U.cell? ⟨q + 4, 11, none⟩ = some (.bool feph)) (fun a0 a' W' => a' = ((a0.put (some 224) (.agg #[.int .i64 Xn, .int .i64 Yn, .int .i64 On, .int .i64 Pn, .slice A k cx])).put (some 225) (.agg #[.int .i64 tx, .int .i64 ty, .int .i64 lv, .int .i64 cwn, .int .i64 chn, .int .i64 pr, .int .i64 st, .int .i64 od, .int .i64 lyn, .bool rb, .bool fsop, .bool feph])) ∧ W'.heap[q + 1]? = some (.cells #[.int .i64 Xn, .int .i64 Yn, .int .i64 On, .int .i64 Pn, .slice A k cx] 28 (0, 0)) ∧ W'.heap[q + 1 + 1]? = some (.cells #[.int .i64 tx, .int .i64 ty, .int .i64 lv, .int .i64 cwn, .int .i64 chn, .int .i64 pr, .int .i64 st, .int .i64 od, .int .i64 lyn, .bool rb, .bool fsop, .bool feph] 30 (0, 0)) ∧ MadeI W' (q + 5) A k cx F G (MadeC Xn Yn On Pn dn fsg PL) ∧ Below q w W') ⟨m0, m1, m2, m3, m4, p0, p1, p2, p3, p4, p5, p6, p7, p8, p9, p10, p11⟩ (fun hS => ?_) ?_
          · skip
            have bV : Below (q + 5) V17 V17.drew := (Below.refl _ _).drew
            have gr1y : V17.drew.heap[q + 1]? = _ := GG.out.2.2.1
            have gr2y : V17.drew.heap[q + 1 + 1]? = _ := GG.out.2.2.2
            have hmA : MadeI V17.drew (q + 5) A k cx F G (MadeC Xn Yn On Pn dn fsg PL) := HM17.out.1.below (Below.refl _ _).drew
            have hbA : Below q w V17.drew := HM17.out.2.1.drew
            generalize V17.drew = V0 at *
            refine wpAnyH_take (i := 0) (v := .agg #[.int .i64 Xn, .int .i64 Yn, .int .i64 On, .int .i64 Pn, .slice A k cx]) rfl (by as_aux_lemma => kernel_rfl) (by as_aux_lemma => kernel_rfl) (by as_aux_lemma => kernel_rfl) (fun _ _ _ h => h) (Or.inl ⟨by rfl, ?_⟩) hS ?_
            · intro U hU
              obtain ⟨s0, s1, s2, s3, s4, s5, s6, s7, s8, s9, s10, s11, s12, s13, s14, s15, s16⟩ := hU
              go_simp
            simp only [Act.put, List.setIfInBounds_toArray, List.set_cons_zero, List.set_cons_succ]
            refine wpAnyH_take (i := 1) (v := .agg #[.int .i64 tx, .int .i64 ty, .int .i64 lv, .int .i64 cwn, .int .i64 chn, .int .i64 pr, .int .i64 st, .int .i64 od, .int .i64 lyn, .bool rb, .bool fsop, .bool feph]) rfl (by as_aux_lemma => kernel_rfl) (by as_aux_lemma => kernel_rfl) (by as_aux_lemma => kernel_rfl) (fun _ _ _ h => h) (Or.inl ⟨by rfl, ?_⟩) hS ?_
            · intro U hU
              obtain ⟨s0, s1, s2, s3, s4, s5, s6, s7, s8, s9, s10, s11, s12, s13, s14, s15, s16⟩ := hU
              go_simp
            simp only [Act.put, List.setIfInBounds_toArray, List.set_cons_zero, List.set_cons_succ]
            refine wpAnyH_ready (rs := [2]) (by as_aux_lemma => kernel_rfl) (by simp) ?_
            refine AllReadyH.cons (by simp only [List.getElem?_toArray, List.getElem?_cons_succ, List.getElem?_cons_zero]; rfl) (fun K' hK' => ?_) AllReadyH.nil
            have d0 : V0.cell? ⟨q + 1, 0, none⟩ = some (.int .i64 0) := cell_of_row _ _ 0 _ _ (0, 0) gr1y
            have d1 : V0.cell? ⟨q + 1, 1, none⟩ = some (.int .i64 0) := cell_of_row _ _ 1 _ _ (0, 0) gr1y
            have d2 : V0.cell? ⟨q + 1, 2, none⟩ = some (.int .i64 0) := cell_of_row _ _ 2 _ _ (0, 0) gr1y
            have d3 : V0.cell? ⟨q + 1, 3, none⟩ = some (.int .i64 0) := cell_of_row _ _ 3 _ _ (0, 0) gr1y
            have d4 : V0.cell? ⟨q + 1, 4, none⟩ = some (.slice none 0 0) := cell_of_row _ _ 4 _ _ (0, 0) gr1y
            have dz : ∀ i, V0.frozen? ⟨q + 1, i, none⟩ = false := fun i => frozen_of_row _ _ i _ _ gr1y
            go_simp
            obtain ⟨V28a, hvV28a, far, gr1x, hmB, hbB⟩ : ∃ V, (((((V0.setCell ⟨q + 1, 0, none⟩ (.int .i64 Xn)).setCell ⟨q + 1, 1, none⟩ (.int .i64 Yn)).setCell ⟨q + 1, 2, none⟩ (.int .i64 On)).setCell ⟨q + 1, 3, none⟩ (.int .i64 Pn)).setCell ⟨q + 1, 4, none⟩ (.slice A k cx)) = V ∧ (∀ p, p ≠ q + 1 → V.heap[p]? = V0.heap[p]?) ∧ V.heap[q + 1]? = some (.cells #[.int .i64 Xn, .int .i64 Yn, .int .i64 On, .int .i64 Pn, .slice A k cx] 28 (0, 0)) ∧ MadeI V (q + 5) A k cx F G (MadeC Xn Yn On Pn dn fsg PL) ∧ Below q w V := ⟨_, rfl, fun p hp => setRow_far _ p hp [.int .i64 Xn, .int .i64 Yn, .int .i64 On, .int .i64 Pn, .slice A k cx] 0 _, setRow_at (old := [.int .i64 0, .int .i64 0, .int .i64 0, .int .i64 0, .slice none 0 0]) [.int .i64 Xn, .int .i64 Yn, .int .i64 On, .int .i64 Pn, .slice A k cx] rfl gr1y, setRow_made (mk_lt1 q) [.int .i64 Xn, .int .i64 Yn, .int .i64 On, .int .i64 Pn, .slice A k cx] 0 _ hmA, setRow_below (mk_ge1 q) [.int .i64 Xn, .int .i64 Yn, .int .i64 On, .int .i64 Pn, .slice A k cx] 0 _ hbA⟩
            rw [hvV28a]
            clear hvV28a hmA hbA
            have hmA := hmB
            have hbA := hbB
            clear hmB hbB
            have hS2 : V28a.cell? ⟨q + 3, 0, none⟩ = some (.int .i64 Xn) ∧ V28a.cell? ⟨q + 3, 1, none⟩ = some (.int .i64 Yn) ∧ V28a.cell? ⟨q + 3, 2, none⟩ = some (.int .i64 On) ∧ V28a.cell? ⟨q + 3, 3, none⟩ = some (.int .i64 Pn) ∧ V28a.cell? ⟨q + 3, 4, none⟩ = some (.slice A k cx) ∧ V28a.cell? ⟨q + 4, 0, none⟩ = some (.int .i64 tx) ∧ V28a.cell? ⟨q + 4, 1, none⟩ = some (.int .i64 ty) ∧ V28a.cell? ⟨q + 4, 2, none⟩ = some (.int .i64 lv) ∧ V28a.cell? ⟨q + 4, 3, none⟩ = some (.int .i64 cwn) ∧ V28a.cell? ⟨q + 4, 4, none⟩ = some (.int .i64 chn) ∧ V28a.cell? ⟨q + 4, 5, none⟩ = some (.int .i64 pr) ∧ V28a.cell? ⟨q + 4, 6, none⟩ = some (.int .i64 st) ∧ V28a.cell? ⟨q + 4, 7, none⟩ = some (.int .i64 od) ∧ V28a.cell? ⟨q + 4, 8, none⟩ = some (.int .i64 lyn) ∧ V28a.cell? ⟨q + 4, 9, none⟩ = some (.bool rb) ∧ V28a.cell? ⟨q + 4, 10, none⟩ = some (.bool fsop) ∧ V28a.cell? ⟨q + 4, 11, none⟩ = some (.bool feph) := ⟨(World.cell?_of_block (far (q + 3) (mk_ne31 q))).trans (hS.1), (World.cell?_of_block (far (q + 3) (mk_ne31 q))).trans (hS.2.1), (World.cell?_of_block (far (q + 3) (mk_ne31 q))).trans (hS.2.2.1), (World.cell?_of_block (far (q + 3) (mk_ne31 q))).trans (hS.2.2.2.1), (World.cell?_of_block (far (q + 3) (mk_ne31 q))).trans (hS.2.2.2.2.1), (World.cell?_of_block (far (q + 4) (mk_ne41 q))).trans (hS.2.2.2.2.2.1), (World.cell?_of_block (far (q + 4) (mk_ne41 q))).trans (hS.2.2.2.2.2.2.1), (World.cell?_of_block (far (q + 4) (mk_ne41 q))).trans (hS.2.2.2.2.2.2.2.1), (World.cell?_of_block (far (q + 4) (mk_ne41 q))).trans (hS.2.2.2.2.2.2.2.2.1), (World.cell?_of_block (far (q + 4) (mk_ne41 q))).trans (hS.2.2.2.2.2.2.2.2.2.1), (World.cell?_of_block (far (q + 4) (mk_ne41 q))).trans (hS.2.2.2.2.2.2.2.2.2.2.1), (World.cell?_of_block (far (q + 4) (mk_ne41 q))).trans (hS.2.2.2.2.2.2.2.2.2.2.2.1), (World.cell?_of_block (far (q + 4) (mk_ne41 q))).trans (hS.2.2.2.2.2.2.2.2.2.2.2.2.1), (World.cell?_of_block (far (q + 4) (mk_ne41 q))).trans (hS.2.2.2.2.2.2.2.2.2.2.2.2.2.1), (World.cell?_of_block (far (q + 4) (mk_ne41 q))).trans (hS.2.2.2.2.2.2.2.2.2.2.2.2.2.2.1), (World.cell?_of_block (far (q + 4) (mk_ne41 q))).trans (hS.2.2.2.2.2.2.2.2.2.2.2.2.2.2.2.1), (World.cell?_of_block (far (q + 4) (mk_ne41 q))).trans (hS.2.2.2.2.2.2.2.2.2.2.2.2.2.2.2.2)⟩
            refine hK'.out _ _ hS2 (fun _ => ?_)
            clear hS dz d0 d1 d2 d3 d4
            have hS := hS2
            clear hS2
            have gr2x := (far (q + 1 + 1) (mk_ne21 q)).trans gr2y
            clear far
            clear hK' K'
            try simp only [Act.put, List.setIfInBounds_toArray, List.set_cons_zero, List.set_cons_succ]
            refine wpAnyH_ready (rs := [3]) (by as_aux_lemma => kernel_rfl) (by simp) ?_
            refine AllReadyH.cons (by simp only [List.getElem?_toArray, List.getElem?_cons_succ, List.getElem?_cons_zero]; rfl) (fun K' hK' => ?_) AllReadyH.nil
            have d0 : V28a.cell? ⟨q + 1 + 1, 0, none⟩ = some (.int .i64 0) := cell_of_row _ _ 0 _ _ (0, 0) gr2x
            have d1 : V28a.cell? ⟨q + 1 + 1, 1, none⟩ = some (.int .i64 0) := cell_of_row _ _ 1 _ _ (0, 0) gr2x
            have d2 : V28a.cell? ⟨q + 1 + 1, 2, none⟩ = some (.int .i64 0) := cell_of_row _ _ 2 _ _ (0, 0) gr2x
            have d3 : V28a.cell? ⟨q + 1 + 1, 3, none⟩ = some (.int .i64 0) := cell_of_row _ _ 3 _ _ (0, 0) gr2x
            have d4 : V28a.cell? ⟨q + 1 + 1, 4, none⟩ = some (.int .i64 0) := cell_of_row _ _ 4 _ _ (0, 0) gr2x
            have d5 : V28a.cell? ⟨q + 1 + 1, 5, none⟩ = some (.int .i64 0) := cell_of_row _ _ 5 _ _ (0, 0) gr2x
            have d6 : V28a.cell? ⟨q + 1 + 1, 6, none⟩ = some (.int .i64 0) := cell_of_row _ _ 6 _ _ (0, 0) gr2x
            have d7 : V28a.cell? ⟨q + 1 + 1, 7, none⟩ = some (.int .i64 0) := cell_of_row _ _ 7 _ _ (0, 0) gr2x
            have d8 : V28a.cell? ⟨q + 1 + 1, 8, none⟩ = some (.int .i64 0) := cell_of_row _ _ 8 _ _ (0, 0) gr2x
            have d9 : V28a.cell? ⟨q + 1 + 1, 9, none⟩ = some (.bool false) := cell_of_row _ _ 9 _ _ (0, 0) gr2x
            have d10 : V28a.cell? ⟨q + 1 + 1, 10, none⟩ = some (.bool false) := cell_of_row _ _ 10 _ _ (0, 0) gr2x
            have d11 : V28a.cell? ⟨q + 1 + 1, 11, none⟩ = some (.bool false) := cell_of_row _ _ 11 _ _ (0, 0) gr2x
            have dz : ∀ i, V28a.frozen? ⟨q + 1 + 1, i, none⟩ = false := fun i => frozen_of_row _ _ i _ _ gr2x
            go_simp
            obtain ⟨V28b, hvV28b, far, gr2z, hmB, hbB⟩ : ∃ V, ((((((((((((V28a.setCell ⟨q + 1 + 1, 0, none⟩ (.int .i64 tx)).setCell ⟨q + 1 + 1, 1, none⟩ (.int .i64 ty)).setCell ⟨q + 1 + 1, 2, none⟩ (.int .i64 lv)).setCell ⟨q + 1 + 1, 3, none⟩ (.int .i64 cwn)).setCell ⟨q + 1 + 1, 4, none⟩ (.int .i64 chn)).setCell ⟨q + 1 + 1, 5, none⟩ (.int .i64 pr)).setCell ⟨q + 1 + 1, 6, none⟩ (.int .i64 st)).setCell ⟨q + 1 + 1, 7, none⟩ (.int .i64 od)).setCell ⟨q + 1 + 1, 8, none⟩ (.int .i64 lyn)).setCell ⟨q + 1 + 1, 9, none⟩ (.bool rb)).setCell ⟨q + 1 + 1, 10, none⟩ (.bool fsop)).setCell ⟨q + 1 + 1, 11, none⟩ (.bool feph)) = V ∧ (∀ p, p ≠ q + 1 + 1 → V.heap[p]? = V28a.heap[p]?) ∧ V.heap[q + 1 + 1]? = some (.cells #[.int .i64 tx, .int .i64 ty, .int .i64 lv, .int .i64 cwn, .int .i64 chn, .int .i64 pr, .int .i64 st, .int .i64 od, .int .i64 lyn, .bool rb, .bool fsop, .bool feph] 30 (0, 0)) ∧ MadeI V (q + 5) A k cx F G (MadeC Xn Yn On Pn dn fsg PL) ∧ Below q w V := ⟨_, rfl, fun p hp => setRow_far _ p hp [.int .i64 tx, .int .i64 ty, .int .i64 lv, .int .i64 cwn, .int .i64 chn, .int .i64 pr, .int .i64 st, .int .i64 od, .int .i64 lyn, .bool rb, .bool fsop, .bool feph] 0 _, setRow_at (old := [.int .i64 0, .int .i64 0, .int .i64 0, .int .i64 0, .int .i64 0, .int .i64 0, .int .i64 0, .int .i64 0, .int .i64 0, .bool false, .bool false, .bool false]) [.int .i64 tx, .int .i64 ty, .int .i64 lv, .int .i64 cwn, .int .i64 chn, .int .i64 pr, .int .i64 st, .int .i64 od, .int .i64 lyn, .bool rb, .bool fsop, .bool feph] rfl gr2x, setRow_made (mk_lt2 q) [.int .i64 tx, .int .i64 ty, .int .i64 lv, .int .i64 cwn, .int .i64 chn, .int .i64 pr, .int .i64 st, .int .i64 od, .int .i64 lyn, .bool rb, .bool fsop, .bool feph] 0 _ hmA, setRow_below (mk_ge2 q) [.int .i64 tx, .int .i64 ty, .int .i64 lv, .int .i64 cwn, .int .i64 chn, .int .i64 pr, .int .i64 st, .int .i64 od, .int .i64 lyn, .bool rb, .bool fsop, .bool feph] 0 _ hbA⟩
            rw [hvV28b]
            clear hvV28b hmA hbA
            have hmA := hmB
            have hbA := hbB
            clear hmB hbB
            have hS2 : V28b.cell? ⟨q + 3, 0, none⟩ = some (.int .i64 Xn) ∧ V28b.cell? ⟨q + 3, 1, none⟩ = some (.int .i64 Yn) ∧ V28b.cell? ⟨q + 3, 2, none⟩ = some (.int .i64 On) ∧ V28b.cell? ⟨q + 3, 3, none⟩ = some (.int .i64 Pn) ∧ V28b.cell? ⟨q + 3, 4, none⟩ = some (.slice A k cx) ∧ V28b.cell? ⟨q + 4, 0, none⟩ = some (.int .i64 tx) ∧ V28b.cell? ⟨q + 4, 1, none⟩ = some (.int .i64 ty) ∧ V28b.cell? ⟨q + 4, 2, none⟩ = some (.int .i64 lv) ∧ V28b.cell? ⟨q + 4, 3, none⟩ = some (.int .i64 cwn) ∧ V28b.cell? ⟨q + 4, 4, none⟩ = some (.int .i64 chn) ∧ V28b.cell? ⟨q + 4, 5, none⟩ = some (.int .i64 pr) ∧ V28b.cell? ⟨q + 4, 6, none⟩ = some (.int .i64 st) ∧ V28b.cell? ⟨q + 4, 7, none⟩ = some (.int .i64 od) ∧ V28b.cell? ⟨q + 4, 8, none⟩ = some (.int .i64 lyn) ∧ V28b.cell? ⟨q + 4, 9, none⟩ = some (.bool rb) ∧ V28b.cell? ⟨q + 4, 10, none⟩ = some (.bool fsop) ∧ V28b.cell? ⟨q + 4, 11, none⟩ = some (.bool feph) := ⟨(World.cell?_of_block (far (q + 3) (mk_ne32 q))).trans (hS.1), (World.cell?_of_block (far (q + 3) (mk_ne32 q))).trans (hS.2.1), (World.cell?_of_block (far (q + 3) (mk_ne32 q))).trans (hS.2.2.1), (World.cell?_of_block (far (q + 3) (mk_ne32 q))).trans (hS.2.2.2.1), (World.cell?_of_block (far (q + 3) (mk_ne32 q))).trans (hS.2.2.2.2.1), (World.cell?_of_block (far (q + 4) (mk_ne42 q))).trans (hS.2.2.2.2.2.1), (World.cell?_of_block (far (q + 4) (mk_ne42 q))).trans (hS.2.2.2.2.2.2.1), (World.cell?_of_block (far (q + 4) (mk_ne42 q))).trans (hS.2.2.2.2.2.2.2.1), (World.cell?_of_block (far (q + 4) (mk_ne42 q))).trans (hS.2.2.2.2.2.2.2.2.1), (World.cell?_of_block (far (q + 4) (mk_ne42 q))).trans (hS.2.2.2.2.2.2.2.2.2.1), (World.cell?_of_block (far (q + 4) (mk_ne42 q))).trans (hS.2.2.2.2.2.2.2.2.2.2.1), (World.cell?_of_block (far (q + 4) (mk_ne42 q))).trans (hS.2.2.2.2.2.2.2.2.2.2.2.1), (World.cell?_of_block (far (q + 4) (mk_ne42 q))).trans (hS.2.2.2.2.2.2.2.2.2.2.2.2.1), (World.cell?_of_block (far (q + 4) (mk_ne42 q))).trans (hS.2.2.2.2.2.2.2.2.2.2.2.2.2.1), (World.cell?_of_block (far (q + 4) (mk_ne42 q))).trans (hS.2.2.2.2.2.2.2.2.2.2.2.2.2.2.1), (World.cell?_of_block (far (q + 4) (mk_ne42 q))).trans (hS.2.2.2.2.2.2.2.2.2.2.2.2.2.2.2.1), (World.cell?_of_block (far (q + 4) (mk_ne42 q))).trans (hS.2.2.2.2.2.2.2.2.2.2.2.2.2.2.2.2)⟩
            refine hK'.out _ _ hS2 (fun _ => ?_)
            clear hS dz d0 d1 d2 d3 d4 d5 d6 d7 d8 d9 d10 d11
            have hS := hS2
            clear hS2
            have gr1z := (far (q + 1) (mk_ne12 q)).trans gr1x
            clear far
            clear hK' K'
            try simp only [Act.put, List.setIfInBounds_toArray, List.set_cons_zero, List.set_cons_succ]
            refine wpAnyH_done (by as_aux_lemma => kernel_rfl) ?_ _
            simp only [OnlyN]
            refine ⟨?_, gr1z, gr2z, hmA, hbA⟩
            first | trivial | rfl
          rintro a' V18 ⟨rfl, g1, g2, hm18, hb18⟩
          simp only [Act.put, List.setIfInBounds_toArray, List.set_cons_zero, List.set_cons_succ]
          have r0 : V18.cell? ⟨q + 1, 0, none⟩ = some (.int .i64 Xn) := cell_of_row _ _ 0 _ _ (0, 0) g1
          have r1 : V18.cell? ⟨q + 1, 1, none⟩ = some (.int .i64 Yn) := cell_of_row _ _ 1 _ _ (0, 0) g1
          have r2 : V18.cell? ⟨q + 1, 2, none⟩ = some (.int .i64 On) := cell_of_row _ _ 2 _ _ (0, 0) g1
          have r3 : V18.cell? ⟨q + 1, 3, none⟩ = some (.int .i64 Pn) := cell_of_row _ _ 3 _ _ (0, 0) g1
          have r4 : V18.cell? ⟨q + 1, 4, none⟩ = some (.slice A k cx) := cell_of_row _ _ 4 _ _ (0, 0) g1
          have s0 : V18.cell? ⟨q + 1 + 1, 0, none⟩ = some (.int .i64 tx) := cell_of_row _ _ 0 _ _ (0, 0) g2
          have s1 : V18.cell? ⟨q + 1 + 1, 1, none⟩ = some (.int .i64 ty) := cell_of_row _ _ 1 _ _ (0, 0) g2
          have s2 : V18.cell? ⟨q + 1 + 1, 2, none⟩ = some (.int .i64 lv) := cell_of_row _ _ 2 _ _ (0, 0) g2
          have s3 : V18.cell? ⟨q + 1 + 1, 3, none⟩ = some (.int .i64 cwn) := cell_of_row _ _ 3 _ _ (0, 0) g2
          have s4 : V18.cell? ⟨q + 1 + 1, 4, none⟩ = some (.int .i64 chn) := cell_of_row _ _ 4 _ _ (0, 0) g2
          have s5 : V18.cell? ⟨q + 1 + 1, 5, none⟩ = some (.int .i64 pr) := cell_of_row _ _ 5 _ _ (0, 0) g2
          have s6 : V18.cell? ⟨q + 1 + 1, 6, none⟩ = some (.int .i64 st) := cell_of_row _ _ 6 _ _ (0, 0) g2
          have s7 : V18.cell? ⟨q + 1 + 1, 7, none⟩ = some (.int .i64 od) := cell_of_row _ _ 7 _ _ (0, 0) g2
          have s8 : V18.cell? ⟨q + 1 + 1, 8, none⟩ = some (.int .i64 lyn) := cell_of_row _ _ 8 _ _ (0, 0) g2
          have s9 : V18.cell? ⟨q + 1 + 1, 9, none⟩ = some (.bool rb) := cell_of_row _ _ 9 _ _ (0, 0) g2
          have s10 : V18.cell? ⟨q + 1 + 1, 10, none⟩ = some (.bool fsop) := cell_of_row _ _ 10 _ _ (0, 0) g2
          have s11 : V18.cell? ⟨q + 1 + 1, 11, none⟩ = some (.bool feph) := cell_of_row _ _ 11 _ _ (0, 0) g2
          have HH := Lib.hid (And.intro hm18 hb18)
          clear hm18 hb18 g1 g2 GG HM17 m0 m1 m2 m3 m4 p0 p1 p2 p3 p4 p5 p6 p7 p8 p9 p10 p11 a0 a1 a2 a3 a4 e0 e1 e2 e3 e4 e5 e6 e7 e8 e9 e10 e11
          go_wp2_with fail
          have HR := HH.out
          clear HH
          refine bodyPost_ret (v := .tuple #[.agg #[.int .i64 Xn, .int .i64 Yn, .int .i64 On, .int .i64 Pn, .slice A k cx], .agg #[.int .i64 tx, .int .i64 ty, .int .i64 lv, .int .i64 cwn, .int .i64 chn, .int .i64 pr, .int .i64 st, .int .i64 od, .int .i64 lyn, .bool rb, .bool fsop, .bool feph]]) (by simp [results, Try.results11, go_sem, r0, r1, r2, r3, r4, s0, s1, s2, s3, s4, s5, s6, s7, s8, s9, s10, s11]) rfl ?_
          rw [HQ.out]
          exact ⟨Xn, Yn, On, Pn, tx, ty, lv, cwn, chn, pr, st, od, lyn, k, dn, rb, PL, A, cx, F, G, rfl, madeP_mk On_lt Pn_lt vX_lt vY_lt lv_lt vcw_lt vch_lt st_lt od_lt vly_lt vD_lt vC_lt O1_d.out P1_d.out Xn_d.out Yn_d.out cwn_d.out chn_d.out lyn_d.out tx0_d.out ty0_d.out dn_d.out nc_d.out HKE.out VCE.out pr_lo pr_hi HPL.out HRB.out TB.out.1 TB.out.2.1 TB.out.2.2.1 TB.out.2.2.2.1 TB.out.2.2.2.2.1 TB.out.2.2.2.2.2.1 TB.out.2.2.2.2.2.2.1, HR.1.mono (by omega), HR.2⟩
end Go.Proofs.Ytpgkdpoehkdhcaa
