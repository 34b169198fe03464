/- CONTRACT of waveletref12.Check: it answers what canvas.Check answers. -/
import Derived.Test.YtmieoifagnpbiaaRefF
import Derived.Test.YtmieoifagnpbiaaCheck12
namespace Go.Proofs.Ytmieoifagnpbiaa
open Go.RowKit
attribute [local go_sem] opv opnd
set_option maxHeartbeats 16000000
set_option linter.unusedVariables false
set_option linter.unusedSimpArgs false
set_option maxRecDepth 100000
theorem area_same (Xn Yn On Pn dx dy : Nat) : areaR ⟨((byN On dx : Nat) : Int), ((byN Pn dy : Nat) : Int), ((byN Xn dx : Nat) : Int), ((byN Yn dy : Nat) : Int)⟩ = areaN Xn Yn On Pn dx dy := by
  unfold areaR areaN
  simp only
  generalize byN On dx = a
  generalize byN Pn dy = b
  generalize byN Xn dx = c
  generalize byN Yn dy = d
  congr 1 <;> omega
theorem checkR_any (X Y Ox Oy : Int) (A : Option Addr) (n c : Nat) (tx ty lv cw ch pr st od ly : Int) (rct sop eph : Bool) (w : World) (F : Nat → CompD) (G : Nat → Nat → Int) (ha : CompsAt w w.heap.size A n F) (hG : ∀ k, k < n → IntsAt w w.heap.size (F k).A (F k).n (G k)) (hN : ∀ k, k < n → (F k).n ≤ 1099511627776) :
    Calls Try.prog 16 #[imgV X Y Ox Oy A n c, parV tx ty lv cw ch pr st od ly rct sop eph] w fun e w' => e = .returned (.int .i64 (checkE X Y Ox Oy n F G tx ty lv cw ch pr st od ly rct)) ∧ Below w.heap.size w w' := by
  obtain ⟨E, hE⟩ : ∃ E, checkE X Y Ox Oy n F G tx ty lv cw ch pr st od ly rct = E := ⟨_, rfl⟩
  rw [hE]
  obtain ⟨fe, hfe⟩ : ∃ fe, frameE X Y Ox Oy n F tx ty lv cw ch pr st od ly rct = fe := ⟨_, rfl⟩
  unfold checkE at hE
  rw [hfe] at hE
  have HN := Lib.hid (fun (v : World) (h : CompsAt v v.heap.size A n F) => by have := frameR_any X Y Ox Oy A n c tx ty lv cw ch pr st od ly rct sop eph v F h; rw [hfe] at this; exact this)
  have hb := below_alloc (below_alloc (Below.refl w.heap.size w) (.cells #[.int .i64 X, .int .i64 Y, .int .i64 Ox, .int .i64 Oy, .slice A n c] 25)) (.cells #[.int .i64 tx, .int .i64 ty, .int .i64 lv, .int .i64 cw, .int .i64 ch, .int .i64 pr, .int .i64 st, .int .i64 od, .int .i64 ly, .bool rct, .bool sop, .bool eph] 27)
  unfold imgV parV at *
  go_enter Try.func16, Try.ntmps16
  go_upto_region 1 with fail
  obtain ⟨q, hq⟩ : ∃ q, w.heap.size = q := ⟨_, rfl⟩
  generalize hV : World.alloc (World.alloc w _) _ = V
  have img : V.heap[q]? = some (.cells #[.int .i64 X, .int .i64 Y, .int .i64 Ox, .int .i64 Oy, .slice A n c] 25 (0, 0)) := by rw [← hV, ← hq]; exact (Below.heap_alloc _ _ _ (by simp)).trans (heap_alloc_new w _)
  have par : V.heap[q + 1]? = some (.cells #[.int .i64 tx, .int .i64 ty, .int .i64 lv, .int .i64 cw, .int .i64 ch, .int .i64 pr, .int .i64 st, .int .i64 od, .int .i64 ly, .bool rct, .bool sop, .bool eph] 27 (0, 0)) := by rw [← hV, ← hq]; exact heap_alloc_new2 w _ _
  have bV : Below q w V := by rw [← hV, ← hq]; exact hb
  have hs : V.heap.size = q + 2 := by rw [← hV, ← hq]; simp
  have haV := (ha.below (by rw [hq]; exact bV)).more (show w.heap.size ≤ V.heap.size by omega)
  have hGV := fun k hk => ((hG k hk).below (by rw [hq]; exact bV)).more (show w.heap.size ≤ V.heap.size by omega)
  have HAV := Lib.hid haV
  have HGV := Lib.hid hGV
  rw [hq]
  clear hV hb ha haV hG hGV
  refine wp_region_lit ?_
  refine wpList_loadRow rfl rfl (by kernel_rfl) img (by kernel_rfl) (by kernel_rfl) ?_
  refine wpList_loadRow rfl rfl (by kernel_rfl) par (by kernel_rfl) (by kernel_rfl) ?_
  go_wp2_with fail
  refine (HN.out _ HAV.out).mono ?_
  rintro e' V1 ⟨rfl, h1⟩
  have img1 := (h1.block q (by omega)).trans img
  have b1 := bV.trans (h1.mono (by omega))
  have sz1 := h1.size
  have HAV1 := Lib.hid ((HAV.out.below h1).more sz1)
  have HGV1 := Lib.hid (fun k hk => ((HGV.out k hk).below h1).more sz1)
  clear img par bV h1 HN HAV HGV
  by_cases hf0 : fe = 0
  case neg =>
    rw [if_neg hf0] at hE
    subst hE
    go_wp2_with fail
    go_ret
    exact ⟨rfl, by first | exact b1 | (rw [hq]; exact b1)⟩
  case pos =>
  subst hf0
  rw [if_pos rfl] at hE
  have hpic := frame_pic hfe
  unfold pictureE at hpic
  by_cases p1 : Ox < 0 ∨ Oy < 0 ∨ X ≤ Ox ∨ Y ≤ Oy
  · rw [if_pos p1] at hpic; cases hpic
  rw [if_neg p1] at hpic
  by_cases p2 : X > 64 ∨ Y > 64
  · rw [if_pos p2] at hpic; cases hpic
  rw [if_neg p2] at hpic
  obtain ⟨b0, hb0⟩ : ∃ b0, inB n 1 4 = b0 := ⟨_, rfl⟩
  rw [hb0] at hpic
  rcases b0 with _ | _
  · cases hpic
  rw [if_pos rfl] at hpic
  have hn4 := inB_true.1 hb0
  have hok : allOk n F = true := by
    rcases h : allOk n F with _ | _
    · rw [h] at hpic; cases hpic
    · rfl
  obtain ⟨Xn, eX⟩ := Int.eq_ofNat_of_zero_le (show 0 ≤ X by omega)
  obtain ⟨Yn, eY⟩ := Int.eq_ofNat_of_zero_le (show 0 ≤ Y by omega)
  obtain ⟨On, eO⟩ := Int.eq_ofNat_of_zero_le (show 0 ≤ Ox by omega)
  obtain ⟨Pn, eP⟩ := Int.eq_ofNat_of_zero_le (show 0 ≤ Oy by omega)
  subst eX eY eO eP
  simp only [Int.toNat_natCast] at hE
  have hXY : Xn ≤ 64 ∧ Yn ≤ 64 ∧ On ≤ 64 ∧ Pn ≤ 64 := by omega
  obtain ⟨Ef, hEf⟩ : ∃ Ef : Nat → Int, (fun k => compE Xn Yn On Pn (F k) (G k)) = Ef := ⟨_, rfl⟩
  have hEfk : ∀ k, compE Xn Yn On Pn (F k) (G k) = Ef k := fun k => by rw [← hEf]
  rw [hEf] at hE
  have HE := Lib.hid hE
  have HEF := Lib.hid hEfk
  have HOK := Lib.hid hok
  have HNN := Lib.hid hN
  clear hpic p1 p2 hb0 hok hfe hE hEf hEfk hN
  go_wp2_with fail
  go_loopw [6] (fun i wr => ∃ k : Nat, k ≤ n ∧ i = .int .i64 (k : Int) ∧ firstE Ef k = 0 ∧ Below V1.heap.size V1 wr) (fun i _ => n - (intOf i).toNat)
  case atStart => exact ⟨0, Nat.zero_le _, rfl, rfl, Below.refl _ _⟩
  case round =>
    obtain ⟨k, hk, rfl, hf, hbel⟩ := hrel
    obtain ⟨wa, hwa⟩ : ∃ wa, wa = wr := ⟨_, rfl⟩
    subst hwa
    have hle := hbel.size
    have img2 := (hbel.block q (by omega)).trans img1
    have i_4 : wa.cell? ⟨q, 4, none⟩ = some (.slice A n c) := cell_of_row _ _ 4 _ _ (0, 0) img2
    have hbw := b1.trans (hbel.mono (by omega))
    by_cases hlt : k < n
    · obtain ⟨bb, off, hAe, hlb, y1, y2, y3, y4, y5⟩ := (HAV1.out.below hbel).at_ hlt
      subst hAe
      have hbd := compOk_bd (allOk_at HOK.out hlt)
      have hI := ((HGV1.out k hlt).below hbel).more hle
      have hnk := HNN.out k hlt
      have hEk := HEF.out k
      unfold compE at hEk
      obtain ⟨dpn, hdp⟩ := Int.eq_ofNat_of_zero_le (show 0 ≤ (F k).dp by omega)
      obtain ⟨dxn, hdx⟩ := Int.eq_ofNat_of_zero_le (show 0 ≤ (F k).dx by omega)
      obtain ⟨dyn, hdy⟩ := Int.eq_ofNat_of_zero_le (show 0 ≤ (F k).dy by omega)
      obtain ⟨sg, hsg⟩ : ∃ v, (F k).sg = v := ⟨_, rfl⟩
      obtain ⟨dA, hdA⟩ : ∃ v, (F k).A = v := ⟨_, rfl⟩
      obtain ⟨dn, hdn⟩ : ∃ v, (F k).n = v := ⟨_, rfl⟩
      obtain ⟨dc, hdc⟩ : ∃ v, (F k).c = v := ⟨_, rfl⟩
      rw [hdp, hdx, hdy, hsg, hdn] at hEk
      simp only [Int.toNat_natCast] at hEk
      rw [hdp] at y1
      rw [hsg] at y2
      rw [hdx] at y3
      rw [hdy] at y4
      rw [hdA, hdn, hdc] at y5
      rw [hdA, hdn] at hI
      rw [hdn] at hnk
      have hd3 : 1 ≤ dpn ∧ dpn ≤ 16 ∧ 1 ≤ dxn ∧ dxn ≤ 4 ∧ 1 ≤ dyn ∧ dyn ≤ 4 := by omega
      obtain ⟨ar, har⟩ : ∃ z, areaN Xn Yn On Pn dxn dyn = z := ⟨_, rfl⟩
      rw [har] at hEk
      replace hEk : (if dn = ar then (if sampOk (loB dpn sg) (hiB dpn sg) dn (G k) = true then (0 : Int) else 11) else 7) = Ef k := hEk
      have bx := fun {a d : Nat} (h : 1 ≤ d) => (byN_le (n := a) h)
      have HWh := Lib.hid (fun v => wholeR_any (Xn : Int) (Yn : Int) (On : Int) (Pn : Int) (some ⟨bb, off, none⟩) n c v)
      have HPr := Lib.hid (fun v => by
        have := partR_any ⟨(On : Int), (Pn : Int), (Xn : Int), (Yn : Int)⟩ dxn dyn (by simp only; omega) (by simp only; omega) (by simp only; omega) (by simp only; omega) (by omega) (by omega) v
        simp only at this
        rw [clI_nat _ _ hd3.2.2.1, clI_nat _ _ hd3.2.2.2.2.1, clI_nat _ _ hd3.2.2.1, clI_nat _ _ hd3.2.2.2.2.1] at this
        exact this)
      have HAr := Lib.hid (fun v => by
        have q1 := bx (a := On) hd3.2.2.1
        have q2 := bx (a := Pn) hd3.2.2.2.2.1
        have q3 := bx (a := Xn) hd3.2.2.1
        have q4 := bx (a := Yn) hd3.2.2.2.2.1
        have := areaR_any ⟨((byN On dxn : Nat) : Int), ((byN Pn dyn : Nat) : Int), ((byN Xn dxn : Nat) : Int), ((byN Yn dyn : Nat) : Int)⟩ (by simp only; omega) (by simp only; omega) (by simp only; omega) (by simp only; omega) v
        rw [area_same, har] at this
        exact this)
      have HBo := Lib.hid (fun v => boundsR_any dpn sg hd3.1 hd3.2.1 v)
      obtain ⟨R0, hR0⟩ : ∃ z, byN On dxn = z := ⟨_, rfl⟩
      obtain ⟨R1, hR1⟩ : ∃ z, byN Pn dyn = z := ⟨_, rfl⟩
      obtain ⟨R2, hR2⟩ : ∃ z, byN Xn dxn = z := ⟨_, rfl⟩
      obtain ⟨R3, hR3⟩ : ∃ z, byN Yn dyn = z := ⟨_, rfl⟩
      rw [hR0, hR1, hR2, hR3] at HPr HAr
      unfold rcV at HWh HPr HAr
      unfold imgV at HWh
      simp only at HWh HPr HAr
      have HEK := Lib.hid hEk
      have HI := Lib.hid hI
      have HF := Lib.hid hf
      have n0 : ¬ n = 0 := by omega
      clear hEk hI hf hdp hdx hdy hsg hdA hdn hdc har bx hR0 hR1 hR2 hR3 hbd
      go_upto_region 8 with fail
      clear i_4 y1 y2 y3 y4 y5
      obtain ⟨gc, hgc⟩ : ∃ g, wa.heap.size = g := ⟨_, rfl⟩
      generalize hV2 : World.alloc wa _ = V2
      have rc2 : V2.heap[gc]? = some (.cells #[.int .i64 (dpn : Int), .bool sg, .int .i64 (dxn : Int), .int .i64 (dyn : Int), .slice dA dn dc] 34 (0, 0)) := by rw [← hV2, ← hgc]; exact heap_alloc_new wa _
      have b2 : Below gc wa V2 := by rw [← hV2, ← hgc]; exact below_alloc (Below.refl _ _) _
      have s2 : V2.heap.size = gc + 1 := by rw [← hV2, ← hgc]; simp
      rw [hgc] at hle ⊢
      have img3 := (b2.block q (by omega)).trans img2
      have lq3 : q < V2.heap.size := by omega
      have lg3 : gc < V2.heap.size := by omega
      clear hV2 img2
      refine last_cut (by kernel_rfl) (fun U => U.heap[q]? = some (.cells #[.int .i64 (Xn : Int), .int .i64 (Yn : Int), .int .i64 (On : Int), .int .i64 (Pn : Int), .slice (some ⟨bb, off, none⟩) n c] 25 (0, 0)) ∧ U.heap[gc]? = some (.cells #[.int .i64 (dpn : Int), .bool sg, .int .i64 (dxn : Int), .int .i64 (dyn : Int), .slice dA dn dc] 34 (0, 0))) (fun aF a' W' => a' = ((((((((((((aF.put (some 29) (.pointer (some ⟨gc, 4, none⟩))).put (some 30) (.slice dA dn dc)).put (some 31) (.int .i64 (dn : Int))).put (some 32) (.agg #[.int .i64 (Xn : Int), .int .i64 (Yn : Int), .int .i64 (On : Int), .int .i64 (Pn : Int), .slice (some ⟨bb, off, none⟩) n c])).put (some 33) (.agg #[.int .i64 (On : Int), .int .i64 (Pn : Int), .int .i64 (Xn : Int), .int .i64 (Yn : Int)])).put (some 34) (.pointer (some ⟨gc, 2, none⟩))).put (some 35) (.int .i64 (dxn : Int))).put (some 36) (.pointer (some ⟨gc, 3, none⟩))).put (some 37) (.int .i64 (dyn : Int))).put (some 38) (.agg #[.int .i64 (R0 : Int), .int .i64 (R1 : Int), .int .i64 (R2 : Int), .int .i64 (R3 : Int)])).put (some 39) (.int .i64 (ar : Int))).put (some 40) (.bool (!decide (dn = ar)))) ∧ Below V2.heap.size V2 W') ⟨img3, rc2⟩ (fun hS => ?_) ?_
      · skip
        have hSB : ∀ U : World, Below (V2.heap.size) V2 U → U.heap[q]? = some (.cells #[.int .i64 (Xn : Int), .int .i64 (Yn : Int), .int .i64 (On : Int), .int .i64 (Pn : Int), .slice (some ⟨bb, off, none⟩) n c] 25 (0, 0)) ∧ U.heap[gc]? = some (.cells #[.int .i64 (dpn : Int), .bool sg, .int .i64 (dxn : Int), .int .i64 (dyn : Int), .slice dA dn dc] 34 (0, 0)) := fun U h => ⟨(h.block (q) (by omega)).trans (img3), (h.block (gc) (by omega)).trans (rc2)⟩
        have bV : Below V2.heap.size V2 V2.drew := (Below.refl _ _).drew
        generalize V2.drew = V0 at *
        change wpAnyL _ _ _ _ _ 12 #[false, false, false, false, false, false, false, false, false, false, false, false] _ _
        refine wpAnyL_take (i := 0) (v := .pointer (some ⟨gc, 4, none⟩)) (by simp only [List.getElem?_toArray, List.getElem?_cons_succ, List.getElem?_cons_zero]; rfl) (by as_aux_lemma => kernel_rfl) (by as_aux_lemma => kernel_rfl) (by as_aux_lemma => kernel_rfl) (fun _ _ _ h => h) (Or.inl ⟨by rfl, ?_⟩) hS ?_
        · intro U hU
          obtain ⟨s0, s1⟩ := hU
          kernel_rfl
        simp only [Act.put, List.setIfInBounds_toArray, List.set_cons_zero, List.set_cons_succ]
        refine wpAnyL_take (i := 1) (v := .slice dA dn dc) (by simp only [List.getElem?_toArray, List.getElem?_cons_succ, List.getElem?_cons_zero]; rfl) (by as_aux_lemma => kernel_rfl) (by as_aux_lemma => kernel_rfl) (by as_aux_lemma => kernel_rfl) (fun _ _ _ h => h) (Or.inl ⟨by rfl, ?_⟩) hS ?_
        · intro U hU
          obtain ⟨s0, s1⟩ := hU
          have r1_4 : U.cell? ⟨gc, 4, none⟩ = some (.slice dA dn dc) := cell_of_row _ _ 4 _ _ (0, 0) s1
          exact exec_loadCell rfl rfl r1_4 (by kernel_rfl)
        simp only [Act.put, List.setIfInBounds_toArray, List.set_cons_zero, List.set_cons_succ]
        refine wpAnyL_take (i := 2) (v := .int .i64 (dn : Int)) (by simp only [List.getElem?_toArray, List.getElem?_cons_succ, List.getElem?_cons_zero]; rfl) (by as_aux_lemma => kernel_rfl) (by as_aux_lemma => kernel_rfl) (by as_aux_lemma => kernel_rfl) (fun _ _ _ h => h) (Or.inl ⟨by rfl, ?_⟩) hS ?_
        · intro U hU
          obtain ⟨s0, s1⟩ := hU
          go_simp
        simp only [Act.put, List.setIfInBounds_toArray, List.set_cons_zero, List.set_cons_succ]
        refine wpAnyL_take (i := 3) (v := .agg #[.int .i64 (Xn : Int), .int .i64 (Yn : Int), .int .i64 (On : Int), .int .i64 (Pn : Int), .slice (some ⟨bb, off, none⟩) n c]) (by simp only [List.getElem?_toArray, List.getElem?_cons_succ, List.getElem?_cons_zero]; rfl) (by as_aux_lemma => kernel_rfl) (by as_aux_lemma => kernel_rfl) (by as_aux_lemma => kernel_rfl) (fun _ _ _ h => h) (Or.inl ⟨by rfl, ?_⟩) hS ?_
        · intro U hU
          obtain ⟨s0, s1⟩ := hU
          exact exec_loadRow (cs := [.int .i64 (Xn : Int), .int .i64 (Yn : Int), .int .i64 (On : Int), .int .i64 (Pn : Int), .slice (some ⟨bb, off, none⟩) n c]) rfl rfl s0 (by kernel_rfl) (by kernel_rfl)
        simp only [Act.put, List.setIfInBounds_toArray, List.set_cons_zero, List.set_cons_succ]
        refine wpAnyL_take (i := 5) (v := .pointer (some ⟨gc, 2, none⟩)) (by simp only [List.getElem?_toArray, List.getElem?_cons_succ, List.getElem?_cons_zero]; rfl) (by as_aux_lemma => kernel_rfl) (by as_aux_lemma => kernel_rfl) (by as_aux_lemma => kernel_rfl) (fun _ _ _ h => h) (Or.inl ⟨by rfl, ?_⟩) hS ?_
        · intro U hU
          obtain ⟨s0, s1⟩ := hU
          kernel_rfl
        simp only [Act.put, List.setIfInBounds_toArray, List.set_cons_zero, List.set_cons_succ]
        refine wpAnyL_take (i := 6) (v := .int .i64 (dxn : Int)) (by simp only [List.getElem?_toArray, List.getElem?_cons_succ, List.getElem?_cons_zero]; rfl) (by as_aux_lemma => kernel_rfl) (by as_aux_lemma => kernel_rfl) (by as_aux_lemma => kernel_rfl) (fun _ _ _ h => h) (Or.inl ⟨by rfl, ?_⟩) hS ?_
        · intro U hU
          obtain ⟨s0, s1⟩ := hU
          have r1_2 : U.cell? ⟨gc, 2, none⟩ = some (.int .i64 (dxn : Int)) := cell_of_row _ _ 2 _ _ (0, 0) s1
          exact exec_loadCell rfl rfl r1_2 (by kernel_rfl)
        simp only [Act.put, List.setIfInBounds_toArray, List.set_cons_zero, List.set_cons_succ]
        refine wpAnyL_take (i := 7) (v := .pointer (some ⟨gc, 3, none⟩)) (by simp only [List.getElem?_toArray, List.getElem?_cons_succ, List.getElem?_cons_zero]; rfl) (by as_aux_lemma => kernel_rfl) (by as_aux_lemma => kernel_rfl) (by as_aux_lemma => kernel_rfl) (fun _ _ _ h => h) (Or.inl ⟨by rfl, ?_⟩) hS ?_
        · intro U hU
          obtain ⟨s0, s1⟩ := hU
          kernel_rfl
        simp only [Act.put, List.setIfInBounds_toArray, List.set_cons_zero, List.set_cons_succ]
        refine wpAnyL_take (i := 8) (v := .int .i64 (dyn : Int)) (by simp only [List.getElem?_toArray, List.getElem?_cons_succ, List.getElem?_cons_zero]; rfl) (by as_aux_lemma => kernel_rfl) (by as_aux_lemma => kernel_rfl) (by as_aux_lemma => kernel_rfl) (fun _ _ _ h => h) (Or.inl ⟨by rfl, ?_⟩) hS ?_
        · intro U hU
          obtain ⟨s0, s1⟩ := hU
          have r1_3 : U.cell? ⟨gc, 3, none⟩ = some (.int .i64 (dyn : Int)) := cell_of_row _ _ 3 _ _ (0, 0) s1
          exact exec_loadCell rfl rfl r1_3 (by kernel_rfl)
        simp only [Act.put, List.setIfInBounds_toArray, List.set_cons_zero, List.set_cons_succ]
        refine wpAnyL_ready (rs := [4]) (by as_aux_lemma => kernel_rfl) (by simp) ?_
        refine AllReadyL.cons (by simp only [List.getElem?_toArray, List.getElem?_cons_succ, List.getElem?_cons_zero]; rfl) (fun K' hK' => ?_) AllReadyL.nil
        go_simp
        go_at_call 41
        refine (HWh.out _).mono ?_
        rintro e' U4 ⟨rfl, hb4⟩
        have b4 := below_trans bV hb4
        have hS := hSB _ b4
        dsimp only
        refine hK'.out _ _ hS (fun _ => ?_)
        clear hb4
        clear hK' K'
        try simp only [Act.put, List.setIfInBounds_toArray, List.set_cons_zero, List.set_cons_succ]
        refine wpAnyL_ready (rs := [9]) (by as_aux_lemma => kernel_rfl) (by simp) ?_
        refine AllReadyL.cons (by simp only [List.getElem?_toArray, List.getElem?_cons_succ, List.getElem?_cons_zero]; rfl) (fun K' hK' => ?_) AllReadyL.nil
        go_simp
        go_at_call 23
        refine (HPr.out _).mono ?_
        rintro e' U9 ⟨rfl, hb9⟩
        have b9 := below_trans b4 hb9
        have hS := hSB _ b9
        dsimp only
        refine hK'.out _ _ hS (fun _ => ?_)
        clear hb9
        clear hK' K'
        try simp only [Act.put, List.setIfInBounds_toArray, List.set_cons_zero, List.set_cons_succ]
        refine wpAnyL_ready (rs := [10]) (by as_aux_lemma => kernel_rfl) (by simp) ?_
        refine AllReadyL.cons (by simp only [List.getElem?_toArray, List.getElem?_cons_succ, List.getElem?_cons_zero]; rfl) (fun K' hK' => ?_) AllReadyL.nil
        go_simp
        go_at_call 33
        refine (HAr.out _).mono ?_
        rintro e' U10 ⟨rfl, hb10⟩
        have b10 := below_trans b9 hb10
        have hS := hSB _ b10
        dsimp only
        refine hK'.out _ _ hS (fun _ => ?_)
        clear hb10
        clear hK' K'
        try simp only [Act.put, List.setIfInBounds_toArray, List.set_cons_zero, List.set_cons_succ]
        refine wpAnyL_take (i := 11) (v := .bool (!decide (dn = ar))) (by simp only [List.getElem?_toArray, List.getElem?_cons_succ, List.getElem?_cons_zero]; rfl) (by as_aux_lemma => kernel_rfl) (by as_aux_lemma => kernel_rfl) (by as_aux_lemma => kernel_rfl) (fun _ _ _ h => h) (Or.inl ⟨by rfl, ?_⟩) hS ?_
        · intro U hU
          obtain ⟨s0, s1⟩ := hU
          go_simp
          by_cases hx : dn = ar
          · simp [hx]
          · simp [hx]; omega
        simp only [Act.put, List.setIfInBounds_toArray, List.set_cons_zero, List.set_cons_succ]
        refine wpAnyL_done (by as_aux_lemma => kernel_rfl) ?_ _
        simp only [OnlyN]
        refine ⟨?_, b10⟩
        (try simp only [Act.put, List.setIfInBounds_toArray, List.set_cons_zero, List.set_cons_succ])
      rintro a' V3 ⟨rfl, h3⟩
      simp only [Act.put, List.setIfInBounds_toArray, List.set_cons_zero, List.set_cons_succ]
      have rc3 := (h3.block gc lg3).trans rc2
      have b3 := hbel.trans ((b2.trans (h3.mono (by omega))).mono (by omega))
      have bw3 := hbw.trans ((b2.trans (h3.mono (by omega))).mono (by omega))
      have hI3 := (HI.out.below (by rw [hgc]; exact b2.trans (h3.mono (by omega))))
      have HI3 := Lib.hid hI3
      have c_0 : V3.cell? ⟨gc, 0, none⟩ = some (.int .i64 (dpn : Int)) := cell_of_row _ _ 0 _ _ (0, 0) rc3
      have c_1 : V3.cell? ⟨gc, 1, none⟩ = some (.bool sg) := cell_of_row _ _ 1 _ _ (0, 0) rc3
      have c_4 : V3.cell? ⟨gc, 4, none⟩ = some (.slice dA dn dc) := cell_of_row _ _ 4 _ _ (0, 0) rc3
      clear rc2 img3 rc3 b2 h3 HI hI3 HWh HPr HAr
      by_cases hda : dn = ar
      case neg =>
        have hEE : E = 7 := by
          have h := HEK.out
          rw [if_neg hda] at h
          rw [← HE.out, firstE_at HF.out hlt (by rw [← h]; decide), ← h]
        subst hEE
        have hdd : decide (dn = ar) = false := decide_eq_false hda
        rw [hdd]
        clear HI3 HEK HF HE
        go_wp2_with fail
        go_ret
        exact ⟨rfl, by first | exact bw3 | (rw [hq]; exact bw3)⟩
      case pos =>
      have hdd : decide (dn = ar) = true := decide_eq_true hda
      rw [hdd]
      have hEk2 := HEK.out
      rw [if_pos hda] at hEk2
      have HEK2 := Lib.hid hEk2
      clear hEk2 HEK hda hdd
      go_wp2_with fail
      refine (HBo.out _).mono ?_
      rintro e' w' ⟨rfl, hw'⟩
      obtain rfl := hw'.symm
      obtain ⟨lo, hlo⟩ : ∃ z, loB dpn sg = z := ⟨_, rfl⟩
      obtain ⟨hi, hhi⟩ : ∃ z, hiB dpn sg = z := ⟨_, rfl⟩
      rw [hlo, hhi] at HEK2
      rw [hlo, hhi]
      clear hlo hhi HBo c_0 c_1
      go_wp2_with fail
      go_loopw [10] (fun j wr => ∃ i : Nat, i ≤ dn ∧ j = .int .i64 (i : Int) ∧ sampOk lo hi i (G k) = true ∧ wr = V3) (fun j _ => dn - (intOf j).toNat)
      case atStart => exact ⟨0, Nat.zero_le _, rfl, rfl, rfl⟩
      case round =>
        obtain ⟨i, hi1, rfl, hsm, rfl⟩ := hrel
        obtain ⟨V4, hV4⟩ : ∃ V4, V4 = wr := ⟨_, rfl⟩
        subst hV4
        by_cases hil : i < dn
        · obtain ⟨db, dof, hDe, hdl, hdc'⟩ := HI3.out.at_ hil
          subst hDe
          obtain ⟨gv, hgv⟩ : ∃ z, G k i = z := ⟨_, rfl⟩
          rw [hgv] at hdc'
          have k7 : IntKind.i64.wrap ((i : Int) + 1) = ((i + 1 : Nat) : Int) := by rw [show (i : Int) + 1 = ((i + 1 : Nat) : Int) by omega]; exact wr (by omega)
          have HGV2 := Lib.hid hgv
          have HSM := Lib.hid hsm
          clear hgv hsm
          by_cases u1 : gv < lo
          · have hEE : E = 11 := by
              have h := HEK2.out
              rw [if_neg (by rw [sampOk_bad hil (by rw [HGV2.out]; exact inB_false.2 (by omega))]; simp)] at h
              rw [← HE.out, firstE_at HF.out hlt (by rw [← h]; decide), ← h]
            subst hEE
            clear HI3 HEK2 HF HE HSM
            go_wp2_with fail
            go_ret
            exact ⟨rfl, by first | exact bw3 | (rw [hq]; exact bw3)⟩
          by_cases u2 : hi < gv
          · have hEE : E = 11 := by
              have h := HEK2.out
              rw [if_neg (by rw [sampOk_bad hil (by rw [HGV2.out]; exact inB_false.2 (by omega))]; simp)] at h
              rw [← HE.out, firstE_at HF.out hlt (by rw [← h]; decide), ← h]
            subst hEE
            clear HI3 HEK2 HF HE HSM
            go_wp2_with fail
            go_ret
            exact ⟨rfl, by first | exact bw3 | (rw [hq]; exact bw3)⟩
          have hnx : sampOk lo hi (i + 1) (G k) = true := by rw [sampOk_succ, HSM.out, HGV2.out, inB_true.2 (by omega)]; rfl
          have HNX := Lib.hid hnx
          clear hnx HI3 HEK2 HF HE
          go_wp2_with fail
          go_roundw
          case rel => exact ⟨i + 1, by omega, by go_num, HNX.out, by first | rfl | trivial⟩
          case measure => simp [intOf]; omega
        · obtain rfl : i = dn := by omega
          have hnx : firstE Ef (k + 1) = 0 := by
            have h := HEK2.out
            rw [if_pos hsm] at h
            exact firstE_next HF.out h.symm
          have k7 : IntKind.i64.wrap ((k : Int) + 1) = ((k + 1 : Nat) : Int) := by rw [show (k : Int) + 1 = ((k + 1 : Nat) : Int) by omega]; exact wr (by omega)
          have HNX := Lib.hid hnx
          clear hnx hsm HI3 HEK2 HF HE
          go_wp2_with fail
          go_roundw
          case rel => exact ⟨k + 1, by omega, by go_num, HNX.out, b3⟩
          case measure => simp [intOf]; omega
    · obtain rfl : k = n := by omega
      have hEE : E = 0 := by rw [← HE.out, hf]
      subst hEE
      clear HE hf
      go_wp2_with fail
      go_ret
      exact ⟨rfl, by first | exact hbw | (rw [hq]; exact hbw)⟩
end Go.Proofs.Ytmieoifagnpbiaa
