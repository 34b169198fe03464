/- symMerge at order.spot: the two short cases. -/
import Derived.Test.YtpgkdpoehkdhcaaStI
import Derived.Test.YtpgkdpoehkdhcaaStR
namespace Go.Proofs.Ytpgkdpoehkdhcaa
open Go.RowKit Go.Sort
attribute [local go_sem] opv opnd
set_option maxHeartbeats 40000000
set_option linter.unusedVariables false
set_option linter.unusedSimpArgs false
set_option maxRecDepth 1000000
theorem sym_one (w0 : World) (base g c N : Nat) (a b : Nat) (d : Array Spot) (W : World) (HC : ∀ x y, CmpAt x y) (S : SW w0 base g c d W) (hN : d.size = N) (h2 : a + 1 < b) (h3 : b ≤ N) (hz : N ≤ 1099511627776) (hs : SortedIn ltS (a + 1) b d) :
    Calls Try.prog 58 #[.slice (some ⟨g, 0, none⟩) N c, .int .i64 a, .int .i64 (a + 1 : Nat), .int .i64 b, .func (.func 30) #[] #[]] W fun e w' => e = .returned (.tuple #[]) ∧ ∃ d', PermIn a b d d' ∧ SortedIn ltS a b d' ∧ SW w0 base g c d' w' := by
  obtain ⟨m, hm⟩ : ∃ z, a + 1 = z := ⟨_, rfl⟩
  rw [hm] at hs h2 ⊢
  have HS0 := Lib.hid S
  have HCM := Lib.hid HC
  have HSR := Lib.hid hs
  clear S HC hs
  have W0 := wrap_sub (a := m) (b := a) (c := 1) (by omega) (by omega)
  go_enter Try.func58, Try.ntmps58
  go_wp2
  clear W0
  go_loopg [10, 11] (b - m) (fun kx s10 s11 wr => ∃ (i j : Nat), s10 = .int .i64 (i : Int) ∧ s11 = .int .i64 (j : Int) ∧ m ≤ i ∧ i ≤ j ∧ j ≤ b ∧ j - i ≤ kx ∧ Hid (SW w0 base g c d wr) ∧ Hid (i = m ∨ ltS d[i - 1]! d[a]! = true) ∧ Hid (j = b ∨ ltS d[j]! d[a]! = false))
  case atStart => exact ⟨m, b, rfl, rfl, by omega, by omega, by omega, by omega, HS0, Lib.hid (Or.inl rfl), Lib.hid (Or.inl rfl)⟩
  case round =>
    clear HS0
    obtain ⟨i, j, rfl, rfl, b1, b2, b3, hk, HS, HL, HR⟩ := hrel
    by_cases hlt : i < j
    · have hltz : (i : Int) < (j : Int) := by omega
      obtain ⟨ij, hij⟩ : ∃ z, i + j = z := ⟨_, rfl⟩
      obtain ⟨h, hh⟩ : ∃ z, ij / 2 = z := ⟨_, rfl⟩
      have hhz : (ij : Int) / 2 = (h : Int) := by omega
      have W1 := wrap_add (a := i) (b := j) hij (by omega)
      have lt_h : h < d.size := by omega
      have lt_a : a < d.size := by omega
      have la : h < N := by omega
      have lb : a < N := by omega
      obtain ⟨xh, hxh⟩ : ∃ z, d[h]! = z := ⟨_, rfl⟩
      have LD_h : ∀ U : World, SW w0 base g c d U → (loadCells ⟨g, h * 12, none⟩ 12).run Try.prog U = .ok (spotL xh).toArray U := fun U h => by rw [← hxh]; exact h.load _ lt_h
      obtain ⟨xa, hxa⟩ : ∃ z, d[a]! = z := ⟨_, rfl⟩
      have LD_a : ∀ U : World, SW w0 base g c d U → (loadCells ⟨g, a * 12, none⟩ 12).run Try.prog U = .ok (spotL xa).toArray U := fun U h => by rw [← hxa]; exact h.load _ lt_a
      obtain ⟨r, hr⟩ : ∃ r, cfS xh xa = r := ⟨_, rfl⟩
      have HCR := Lib.hid (fun V : World => hr ▸ HCM.out xh xa V)
      have HLT := Lib.hid (show ltS d[h]! d[a]! = decide (r < 0) by unfold ltS; rw [hxh, hxa, hr])
      clear hxh hxa
      go_wp2_with fail
      refine last_cut (by kernel_rfl) (fun U => SW w0 base g c d U) (fun aF a' W' => a' = (((((((((((aF.put (some 40) (.func (.func 30) #[] #[])).put (some 41) (.slice (some ⟨g, 0, none⟩) N c)).put (some 42) (.int .i64 (h : Int))).put (some 43) (.pointer (some ⟨g, h * 12, none⟩))).put (some 44) (.agg (spotL xh).toArray)).put (some 45) (.slice (some ⟨g, 0, none⟩) N c)).put (some 46) (.int .i64 (a : Int))).put (some 47) (.pointer (some ⟨g, a * 12, none⟩))).put (some 48) (.agg (spotL xa).toArray)).put (some 49) (.int .i64 r)).put (some 50) (.bool (decide (r < 0)))) ∧ SW w0 base g c d W') (HS.out.drew) (fun hS => ?_) ?_
      · skip
        have hSB : ∀ U : World, Below (wr.heap.size) wr U → SW w0 base g c d U := fun U h => ((HS.out).below h)
        have bV : Below wr.heap.size wr wr.drew := (Below.refl _ _).drew
        generalize wr.drew = V0 at *
        change wpAnyL _ _ _ _ _ 11 #[false, false, false, false, false, false, false, false, false, false, false] _ _
        refine wpAnyL_take (i := 0) (v := .func (.func 30) #[] #[]) (by simp only [List.getElem?_toArray, List.getElem?_cons_succ, List.getElem?_cons_zero]; rfl) (by as_aux_lemma => kernel_rfl) (by as_aux_lemma => kernel_rfl) (by as_aux_lemma => kernel_rfl) (fun _ _ _ h => h) (Or.inl ⟨by rfl, ?_⟩) hS ?_
        · intro U hU
          have s0 := hU
          show _ = _
          kernel_rfl
        simp only [Act.put, List.setIfInBounds_toArray, List.set_cons_zero, List.set_cons_succ]
        refine wpAnyL_take (i := 1) (v := .slice (some ⟨g, 0, none⟩) N c) (by simp only [List.getElem?_toArray, List.getElem?_cons_succ, List.getElem?_cons_zero]; rfl) (by as_aux_lemma => kernel_rfl) (by as_aux_lemma => kernel_rfl) (by as_aux_lemma => kernel_rfl) (fun _ _ _ h => h) (Or.inl ⟨by rfl, ?_⟩) hS ?_
        · intro U hU
          have s0 := hU
          show _ = _
          kernel_rfl
        simp only [Act.put, List.setIfInBounds_toArray, List.set_cons_zero, List.set_cons_succ]
        refine wpAnyL_take (i := 2) (v := .int .i64 (h : Int)) (by simp only [List.getElem?_toArray, List.getElem?_cons_succ, List.getElem?_cons_zero]; rfl) (by as_aux_lemma => kernel_rfl) (by as_aux_lemma => kernel_rfl) (by as_aux_lemma => kernel_rfl) (fun _ _ _ h => h) (Or.inl ⟨by rfl, ?_⟩) hS ?_
        · intro U hU
          have s0 := hU
          show _ = _
          kernel_rfl
        simp only [Act.put, List.setIfInBounds_toArray, List.set_cons_zero, List.set_cons_succ]
        refine wpAnyL_take (i := 3) (v := .pointer (some ⟨g, h * 12, none⟩)) (by simp only [List.getElem?_toArray, List.getElem?_cons_succ, List.getElem?_cons_zero]; rfl) (by as_aux_lemma => kernel_rfl) (by as_aux_lemma => kernel_rfl) (by as_aux_lemma => kernel_rfl) (fun _ _ _ h => h) (Or.inl ⟨by rfl, ?_⟩) hS ?_
        · intro U hU
          have s0 := hU
          show _ = _
          go_simp
        simp only [Act.put, List.setIfInBounds_toArray, List.set_cons_zero, List.set_cons_succ]
        refine wpAnyL_take (i := 4) (v := .agg (spotL xh).toArray) (by simp only [List.getElem?_toArray, List.getElem?_cons_succ, List.getElem?_cons_zero]; rfl) (by as_aux_lemma => kernel_rfl) (by as_aux_lemma => kernel_rfl) (by as_aux_lemma => kernel_rfl) (fun _ _ _ h => h) (Or.inl ⟨by rfl, ?_⟩) hS ?_
        · intro U hU
          have s0 := hU
          show _ = _
          exact exec_loadK rfl rfl (by kernel_rfl) (by kernel_rfl) (LD_h _ s0)
        simp only [Act.put, List.setIfInBounds_toArray, List.set_cons_zero, List.set_cons_succ]
        refine wpAnyL_take (i := 5) (v := .slice (some ⟨g, 0, none⟩) N c) (by simp only [List.getElem?_toArray, List.getElem?_cons_succ, List.getElem?_cons_zero]; rfl) (by as_aux_lemma => kernel_rfl) (by as_aux_lemma => kernel_rfl) (by as_aux_lemma => kernel_rfl) (fun _ _ _ h => h) (Or.inl ⟨by rfl, ?_⟩) hS ?_
        · intro U hU
          have s0 := hU
          show _ = _
          kernel_rfl
        simp only [Act.put, List.setIfInBounds_toArray, List.set_cons_zero, List.set_cons_succ]
        refine wpAnyL_take (i := 6) (v := .int .i64 (a : Int)) (by simp only [List.getElem?_toArray, List.getElem?_cons_succ, List.getElem?_cons_zero]; rfl) (by as_aux_lemma => kernel_rfl) (by as_aux_lemma => kernel_rfl) (by as_aux_lemma => kernel_rfl) (fun _ _ _ h => h) (Or.inl ⟨by rfl, ?_⟩) hS ?_
        · intro U hU
          have s0 := hU
          show _ = _
          kernel_rfl
        simp only [Act.put, List.setIfInBounds_toArray, List.set_cons_zero, List.set_cons_succ]
        refine wpAnyL_take (i := 7) (v := .pointer (some ⟨g, a * 12, none⟩)) (by simp only [List.getElem?_toArray, List.getElem?_cons_succ, List.getElem?_cons_zero]; rfl) (by as_aux_lemma => kernel_rfl) (by as_aux_lemma => kernel_rfl) (by as_aux_lemma => kernel_rfl) (fun _ _ _ h => h) (Or.inl ⟨by rfl, ?_⟩) hS ?_
        · intro U hU
          have s0 := hU
          show _ = _
          go_simp
        simp only [Act.put, List.setIfInBounds_toArray, List.set_cons_zero, List.set_cons_succ]
        refine wpAnyL_take (i := 8) (v := .agg (spotL xa).toArray) (by simp only [List.getElem?_toArray, List.getElem?_cons_succ, List.getElem?_cons_zero]; rfl) (by as_aux_lemma => kernel_rfl) (by as_aux_lemma => kernel_rfl) (by as_aux_lemma => kernel_rfl) (fun _ _ _ h => h) (Or.inl ⟨by rfl, ?_⟩) hS ?_
        · intro U hU
          have s0 := hU
          show _ = _
          exact exec_loadK rfl rfl (by kernel_rfl) (by kernel_rfl) (LD_a _ s0)
        simp only [Act.put, List.setIfInBounds_toArray, List.set_cons_zero, List.set_cons_succ]
        refine wpAnyL_ready (rs := [9]) (by as_aux_lemma => kernel_rfl) (by simp) ?_
        refine AllReadyL.cons (by simp only [List.getElem?_toArray, List.getElem?_cons_succ, List.getElem?_cons_zero]; rfl) (fun K' hK' => ?_) AllReadyL.nil
        go_simp
        go_at_call 30
        refine (HCR.out _).mono ?_
        rintro e' U9 ⟨rfl, hb9⟩
        have b9 := below_trans bV hb9
        have hS := hSB _ b9
        dsimp only
        refine hK'.out _ _ hS (fun _ => ?_)
        clear hb9
        clear hK' K'
        try simp only [Act.put, List.setIfInBounds_toArray, List.set_cons_zero, List.set_cons_succ]
        refine wpAnyL_take (i := 10) (v := .bool (decide (r < 0))) (by simp only [List.getElem?_toArray, List.getElem?_cons_succ, List.getElem?_cons_zero]; rfl) (by as_aux_lemma => kernel_rfl) (by as_aux_lemma => kernel_rfl) (by as_aux_lemma => kernel_rfl) (fun _ _ _ h => h) (Or.inl ⟨by rfl, ?_⟩) hS ?_
        · intro U hU
          have s0 := hU
          show _ = _
          go_simp
        simp only [Act.put, List.setIfInBounds_toArray, List.set_cons_zero, List.set_cons_succ]
        refine wpAnyL_done (by as_aux_lemma => kernel_rfl) ?_ _
        simp only [OnlyN]
        refine ⟨?_, hS⟩
        (try simp only [Act.put, List.setIfInBounds_toArray, List.set_cons_zero, List.set_cons_succ])
      rintro a' W4 ⟨rfl, h4⟩
      simp only [Act.put, List.setIfInBounds_toArray, List.set_cons_zero, List.set_cons_succ]
      have HS4 := Lib.hid h4
      clear h4 HS HCR LD_h LD_a
      by_cases hrn : r < 0
      · have hd : decide (r < 0) = true := decide_eq_true hrn
        have W2 := wrap_add1 (a := h) (c := h + 1) rfl (by omega)
        rw [hd]
        go_wp2_with fail
        go_roundg (j - (h + 1))
        case measure => omega
        case rel => exact ⟨h + 1, j, by go_num, rfl, by omega, by omega, b3, Nat.le_refl _, HS4, Lib.hid (Or.inr (by rw [Nat.add_sub_cancel, HLT.out]; exact hd)), HR⟩
      · have hd : decide (r < 0) = false := decide_eq_false hrn
        rw [hd]
        go_wp2_with fail
        go_roundg (h - i)
        case measure => omega
        case rel => exact ⟨i, h, rfl, rfl, b1, by omega, by omega, Nat.le_refl _, HS4, HL, Lib.hid (Or.inr (by rw [HLT.out]; exact hd))⟩
    · have hltz : ¬ (i : Int) < (j : Int) := by omega
      have he : i = j := by omega
      subst he
      obtain ⟨ip, hip⟩ : ∃ z, z + 1 = i := ⟨i - 1, by omega⟩
      have WI := wrap_sub1 hip (by omega)
      go_wp2_with fail
      go_loopg [13] (b - a) (fun ky s13 wr2 => ∃ (k n : Nat), s13 = .int .i64 (k : Int) ∧ a + n = k ∧ k ≤ ip ∧ ip - k ≤ ky ∧ Hid (SW w0 base g c (bubU a n d) wr2))
      case atStart => exact ⟨a, 0, rfl, rfl, by omega, by omega, HS⟩
      case round =>
        clear HS
        obtain ⟨k, n, rfl, e1, e2, hk2, HS⟩ := hrel
        by_cases hki : k < ip
        · have hkz : (k : Int) < (ip : Int) := by omega
          obtain ⟨k1, hk1⟩ : ∃ z, k + 1 = z := ⟨_, rfl⟩
          have W2 := Lib.hid (wrap_add1 hk1 (by omega))
          have hz0 : (bubU a n d).size = N := by rw [size_bubU]; exact hN
          have HD := Lib.hid (show swp (bubU a n d) k k1 = bubU a (n + 1) d by rw [bubU, e1, hk1])
          generalize bubU a n d = dk at HS hz0 HD
          have lt_k : k < dk.size := by omega
          have lt_k1 : k1 < dk.size := by omega
          have la : k < N := by omega
          have lb : k1 < N := by omega
          go_wp2_with fail
          refine last_cut (by kernel_rfl) (fun U => True) (fun aF a' W' => a' = ((((((((((((((((aF.put (some 61) (.slice (some ⟨g, 0, none⟩) N c)).put (some 62) (.int .i64 (k : Int))).put (some 63) (.slice (some ⟨g, 0, none⟩) N c)).put (some 64) (.int .i64 (k : Int))).put (some 65) (.int .i64 (k1 : Int))).put (some 66) (.slice (some ⟨g, 0, none⟩) N c)).put (some 67) (.int .i64 (k : Int))).put (some 68) (.int .i64 (k1 : Int))).put (some 69) (.pointer (some ⟨g, k1 * 12, none⟩))).put (some 70) (.agg (spotL dk[k1]!).toArray)).put (some 71) (.slice (some ⟨g, 0, none⟩) N c)).put (some 72) (.int .i64 (k : Int))).put (some 73) (.pointer (some ⟨g, k * 12, none⟩))).put (some 74) (.agg (spotL dk[k]!).toArray)).put (some 75) (.pointer (some ⟨g, k * 12, none⟩))).put (some 76) (.pointer (some ⟨g, k1 * 12, none⟩))) ∧ SW w0 base g c (swp dk k k1) W') trivial (fun hS => ?_) ?_
          · skip
            have hSB : ∀ U : World, Below (0) wr U → True := fun _ _ => trivial
            have bV : Below wr.heap.size wr wr.drew := (Below.refl _ _).drew
            have SV : SW w0 base g c dk wr.drew := (HS.out).drew
            generalize wr.drew = V0 at *
            change wpAnyL _ _ _ _ _ 18 #[false, false, false, false, false, false, false, false, false, false, false, false, false, false, false, false, false, false] _ _
            refine wpAnyL_take (i := 0) (v := .slice (some ⟨g, 0, none⟩) N c) (by simp only [List.getElem?_toArray, List.getElem?_cons_succ, List.getElem?_cons_zero]; rfl) (by as_aux_lemma => kernel_rfl) (by as_aux_lemma => kernel_rfl) (by as_aux_lemma => kernel_rfl) (fun _ _ _ h => h) (Or.inl ⟨by rfl, ?_⟩) hS ?_
            · intro U hU
              show _ = _
              kernel_rfl
            simp only [Act.put, List.setIfInBounds_toArray, List.set_cons_zero, List.set_cons_succ]
            refine wpAnyL_take (i := 1) (v := .int .i64 (k : Int)) (by simp only [List.getElem?_toArray, List.getElem?_cons_succ, List.getElem?_cons_zero]; rfl) (by as_aux_lemma => kernel_rfl) (by as_aux_lemma => kernel_rfl) (by as_aux_lemma => kernel_rfl) (fun _ _ _ h => h) (Or.inl ⟨by rfl, ?_⟩) hS ?_
            · intro U hU
              show _ = _
              kernel_rfl
            simp only [Act.put, List.setIfInBounds_toArray, List.set_cons_zero, List.set_cons_succ]
            refine wpAnyL_take (i := 2) (v := .slice (some ⟨g, 0, none⟩) N c) (by simp only [List.getElem?_toArray, List.getElem?_cons_succ, List.getElem?_cons_zero]; rfl) (by as_aux_lemma => kernel_rfl) (by as_aux_lemma => kernel_rfl) (by as_aux_lemma => kernel_rfl) (fun _ _ _ h => h) (Or.inl ⟨by rfl, ?_⟩) hS ?_
            · intro U hU
              show _ = _
              kernel_rfl
            simp only [Act.put, List.setIfInBounds_toArray, List.set_cons_zero, List.set_cons_succ]
            refine wpAnyL_take (i := 3) (v := .int .i64 (k : Int)) (by simp only [List.getElem?_toArray, List.getElem?_cons_succ, List.getElem?_cons_zero]; rfl) (by as_aux_lemma => kernel_rfl) (by as_aux_lemma => kernel_rfl) (by as_aux_lemma => kernel_rfl) (fun _ _ _ h => h) (Or.inl ⟨by rfl, ?_⟩) hS ?_
            · intro U hU
              show _ = _
              kernel_rfl
            simp only [Act.put, List.setIfInBounds_toArray, List.set_cons_zero, List.set_cons_succ]
            refine wpAnyL_take (i := 4) (v := .int .i64 (k1 : Int)) (by simp only [List.getElem?_toArray, List.getElem?_cons_succ, List.getElem?_cons_zero]; rfl) (by as_aux_lemma => kernel_rfl) (by as_aux_lemma => kernel_rfl) (by as_aux_lemma => kernel_rfl) (fun _ _ _ h => h) (Or.inl ⟨by rfl, ?_⟩) hS ?_
            · intro U hU
              show _ = _
              have hz := W2.out
              go_simp
            simp only [Act.put, List.setIfInBounds_toArray, List.set_cons_zero, List.set_cons_succ]
            refine wpAnyL_take (i := 5) (v := .slice (some ⟨g, 0, none⟩) N c) (by simp only [List.getElem?_toArray, List.getElem?_cons_succ, List.getElem?_cons_zero]; rfl) (by as_aux_lemma => kernel_rfl) (by as_aux_lemma => kernel_rfl) (by as_aux_lemma => kernel_rfl) (fun _ _ _ h => h) (Or.inl ⟨by rfl, ?_⟩) hS ?_
            · intro U hU
              show _ = _
              kernel_rfl
            simp only [Act.put, List.setIfInBounds_toArray, List.set_cons_zero, List.set_cons_succ]
            refine wpAnyL_take (i := 6) (v := .int .i64 (k : Int)) (by simp only [List.getElem?_toArray, List.getElem?_cons_succ, List.getElem?_cons_zero]; rfl) (by as_aux_lemma => kernel_rfl) (by as_aux_lemma => kernel_rfl) (by as_aux_lemma => kernel_rfl) (fun _ _ _ h => h) (Or.inl ⟨by rfl, ?_⟩) hS ?_
            · intro U hU
              show _ = _
              kernel_rfl
            simp only [Act.put, List.setIfInBounds_toArray, List.set_cons_zero, List.set_cons_succ]
            refine wpAnyL_take (i := 7) (v := .int .i64 (k1 : Int)) (by simp only [List.getElem?_toArray, List.getElem?_cons_succ, List.getElem?_cons_zero]; rfl) (by as_aux_lemma => kernel_rfl) (by as_aux_lemma => kernel_rfl) (by as_aux_lemma => kernel_rfl) (fun _ _ _ h => h) (Or.inl ⟨by rfl, ?_⟩) hS ?_
            · intro U hU
              show _ = _
              have hz := W2.out
              go_simp
            simp only [Act.put, List.setIfInBounds_toArray, List.set_cons_zero, List.set_cons_succ]
            refine wpAnyL_take (i := 8) (v := .pointer (some ⟨g, k1 * 12, none⟩)) (by simp only [List.getElem?_toArray, List.getElem?_cons_succ, List.getElem?_cons_zero]; rfl) (by as_aux_lemma => kernel_rfl) (by as_aux_lemma => kernel_rfl) (by as_aux_lemma => kernel_rfl) (fun _ _ _ h => h) (Or.inl ⟨by rfl, ?_⟩) hS ?_
            · intro U hU
              show _ = _
              go_simp
            simp only [Act.put, List.setIfInBounds_toArray, List.set_cons_zero, List.set_cons_succ]
            refine wpAnyL_take (i := 10) (v := .slice (some ⟨g, 0, none⟩) N c) (by simp only [List.getElem?_toArray, List.getElem?_cons_succ, List.getElem?_cons_zero]; rfl) (by as_aux_lemma => kernel_rfl) (by as_aux_lemma => kernel_rfl) (by as_aux_lemma => kernel_rfl) (fun _ _ _ h => h) (Or.inl ⟨by rfl, ?_⟩) hS ?_
            · intro U hU
              show _ = _
              kernel_rfl
            simp only [Act.put, List.setIfInBounds_toArray, List.set_cons_zero, List.set_cons_succ]
            refine wpAnyL_take (i := 11) (v := .int .i64 (k : Int)) (by simp only [List.getElem?_toArray, List.getElem?_cons_succ, List.getElem?_cons_zero]; rfl) (by as_aux_lemma => kernel_rfl) (by as_aux_lemma => kernel_rfl) (by as_aux_lemma => kernel_rfl) (fun _ _ _ h => h) (Or.inl ⟨by rfl, ?_⟩) hS ?_
            · intro U hU
              show _ = _
              kernel_rfl
            simp only [Act.put, List.setIfInBounds_toArray, List.set_cons_zero, List.set_cons_succ]
            refine wpAnyL_take (i := 12) (v := .pointer (some ⟨g, k * 12, none⟩)) (by simp only [List.getElem?_toArray, List.getElem?_cons_succ, List.getElem?_cons_zero]; rfl) (by as_aux_lemma => kernel_rfl) (by as_aux_lemma => kernel_rfl) (by as_aux_lemma => kernel_rfl) (fun _ _ _ h => h) (Or.inl ⟨by rfl, ?_⟩) hS ?_
            · intro U hU
              show _ = _
              go_simp
            simp only [Act.put, List.setIfInBounds_toArray, List.set_cons_zero, List.set_cons_succ]
            refine wpAnyL_ready (rs := [9, 13]) (by as_aux_lemma => kernel_rfl) (by simp) ?_
            refine AllReadyL.cons (by simp only [List.getElem?_toArray, List.getElem?_cons_succ, List.getElem?_cons_zero]; rfl) (fun K' hK' => ?_) (AllReadyL.cons (by simp only [List.getElem?_toArray, List.getElem?_cons_succ, List.getElem?_cons_zero]; rfl) (fun K' hK' => ?_) AllReadyL.nil)
            · refine step_loadK rfl rfl rfl (by kernel_rfl) (by kernel_rfl) (SV.load _ lt_k1) ?_
              refine hK'.out _ _ hS (fun _ => ?_)
              clear hK' K'
              try simp only [Act.put, List.setIfInBounds_toArray, List.set_cons_zero, List.set_cons_succ]
              refine wpAnyL_ready (rs := [13]) (by as_aux_lemma => kernel_rfl) (by simp) ?_
              refine AllReadyL.cons (by simp only [List.getElem?_toArray, List.getElem?_cons_succ, List.getElem?_cons_zero]; rfl) (fun K' hK' => ?_) AllReadyL.nil
              refine step_loadK rfl rfl rfl (by kernel_rfl) (by kernel_rfl) (SV.load _ lt_k) ?_
              refine hK'.out _ _ hS (fun _ => ?_)
              clear hK' K'
              try simp only [Act.put, List.setIfInBounds_toArray, List.set_cons_zero, List.set_cons_succ]
              refine wpAnyL_take (i := 14) (v := .pointer (some ⟨g, k * 12, none⟩)) (by simp only [List.getElem?_toArray, List.getElem?_cons_succ, List.getElem?_cons_zero]; rfl) (by as_aux_lemma => kernel_rfl) (by as_aux_lemma => kernel_rfl) (by as_aux_lemma => kernel_rfl) (fun _ _ _ h => h) (Or.inl ⟨by rfl, ?_⟩) hS ?_
              · intro U hU
                show _ = _
                go_simp
              simp only [Act.put, List.setIfInBounds_toArray, List.set_cons_zero, List.set_cons_succ]
              refine wpAnyL_ready (rs := [15]) (by as_aux_lemma => kernel_rfl) (by simp) ?_
              refine AllReadyL.cons (by simp only [List.getElem?_toArray, List.getElem?_cons_succ, List.getElem?_cons_zero]; rfl) (fun K' hK' => ?_) AllReadyL.nil
              refine step_storeK (ad := ⟨g, k * 12, none⟩) (cs := spotL dk[k1]!) rfl rfl (by kernel_rfl) (by kernel_rfl) (by kernel_rfl) (SV.store _ lt_k dk[k1]!) ?_
              refine hK'.out _ _ hS (fun _ => ?_)
              have SV1 := SV.stored lt_k dk[k1]!
              generalize V0.setCells g (k * 12) (spotL dk[k1]!) = V1 at SV1 ⊢
              clear hK' K'
              try simp only [Act.put, List.setIfInBounds_toArray, List.set_cons_zero, List.set_cons_succ]
              refine wpAnyL_take (i := 16) (v := .pointer (some ⟨g, k1 * 12, none⟩)) (by simp only [List.getElem?_toArray, List.getElem?_cons_succ, List.getElem?_cons_zero]; rfl) (by as_aux_lemma => kernel_rfl) (by as_aux_lemma => kernel_rfl) (by as_aux_lemma => kernel_rfl) (fun _ _ _ h => h) (Or.inl ⟨by rfl, ?_⟩) hS ?_
              · intro U hU
                show _ = _
                go_simp
              simp only [Act.put, List.setIfInBounds_toArray, List.set_cons_zero, List.set_cons_succ]
              refine wpAnyL_ready (rs := [17]) (by as_aux_lemma => kernel_rfl) (by simp) ?_
              refine AllReadyL.last (by simp only [List.getElem?_toArray, List.getElem?_cons_succ, List.getElem?_cons_zero]; rfl) (by as_aux_lemma => kernel_rfl) (fun K' hK' => ?_)
              refine step_storeK (ad := ⟨g, k1 * 12, none⟩) (cs := spotL dk[k]!) rfl rfl (by kernel_rfl) (by kernel_rfl) (by kernel_rfl) (SV1.store _ (by simpa using lt_k1) dk[k]!) ?_
              refine hK'.out _ _ ?_
              have SV2 := SV1.stored (k := k1) (by simpa using lt_k1) dk[k]!
              generalize V1.setCells g (k1 * 12) (spotL dk[k]!) = V2 at SV2 ⊢
              clear hK' K'
              try simp only [Act.put, List.setIfInBounds_toArray, List.set_cons_zero, List.set_cons_succ]
              refine wpAnyL_done (by as_aux_lemma => kernel_rfl) ?_ _
              simp only [OnlyN]
              refine ⟨?_, SV2⟩
              (try simp only [Act.put, List.setIfInBounds_toArray, List.set_cons_zero, List.set_cons_succ])
            · refine step_loadK rfl rfl rfl (by kernel_rfl) (by kernel_rfl) (SV.load _ lt_k) ?_
              refine hK'.out _ _ hS (fun _ => ?_)
              clear hK' K'
              try simp only [Act.put, List.setIfInBounds_toArray, List.set_cons_zero, List.set_cons_succ]
              refine wpAnyL_ready (rs := [9]) (by as_aux_lemma => kernel_rfl) (by simp) ?_
              refine AllReadyL.cons (by simp only [List.getElem?_toArray, List.getElem?_cons_succ, List.getElem?_cons_zero]; rfl) (fun K' hK' => ?_) AllReadyL.nil
              refine step_loadK rfl rfl rfl (by kernel_rfl) (by kernel_rfl) (SV.load _ lt_k1) ?_
              refine hK'.out _ _ hS (fun _ => ?_)
              clear hK' K'
              try simp only [Act.put, List.setIfInBounds_toArray, List.set_cons_zero, List.set_cons_succ]
              refine wpAnyL_take (i := 14) (v := .pointer (some ⟨g, k * 12, none⟩)) (by simp only [List.getElem?_toArray, List.getElem?_cons_succ, List.getElem?_cons_zero]; rfl) (by as_aux_lemma => kernel_rfl) (by as_aux_lemma => kernel_rfl) (by as_aux_lemma => kernel_rfl) (fun _ _ _ h => h) (Or.inl ⟨by rfl, ?_⟩) hS ?_
              · intro U hU
                show _ = _
                go_simp
              simp only [Act.put, List.setIfInBounds_toArray, List.set_cons_zero, List.set_cons_succ]
              refine wpAnyL_ready (rs := [15]) (by as_aux_lemma => kernel_rfl) (by simp) ?_
              refine AllReadyL.cons (by simp only [List.getElem?_toArray, List.getElem?_cons_succ, List.getElem?_cons_zero]; rfl) (fun K' hK' => ?_) AllReadyL.nil
              refine step_storeK (ad := ⟨g, k * 12, none⟩) (cs := spotL dk[k1]!) rfl rfl (by kernel_rfl) (by kernel_rfl) (by kernel_rfl) (SV.store _ lt_k dk[k1]!) ?_
              refine hK'.out _ _ hS (fun _ => ?_)
              have SV1 := SV.stored lt_k dk[k1]!
              generalize V0.setCells g (k * 12) (spotL dk[k1]!) = V1 at SV1 ⊢
              clear hK' K'
              try simp only [Act.put, List.setIfInBounds_toArray, List.set_cons_zero, List.set_cons_succ]
              refine wpAnyL_take (i := 16) (v := .pointer (some ⟨g, k1 * 12, none⟩)) (by simp only [List.getElem?_toArray, List.getElem?_cons_succ, List.getElem?_cons_zero]; rfl) (by as_aux_lemma => kernel_rfl) (by as_aux_lemma => kernel_rfl) (by as_aux_lemma => kernel_rfl) (fun _ _ _ h => h) (Or.inl ⟨by rfl, ?_⟩) hS ?_
              · intro U hU
                show _ = _
                go_simp
              simp only [Act.put, List.setIfInBounds_toArray, List.set_cons_zero, List.set_cons_succ]
              refine wpAnyL_ready (rs := [17]) (by as_aux_lemma => kernel_rfl) (by simp) ?_
              refine AllReadyL.last (by simp only [List.getElem?_toArray, List.getElem?_cons_succ, List.getElem?_cons_zero]; rfl) (by as_aux_lemma => kernel_rfl) (fun K' hK' => ?_)
              refine step_storeK (ad := ⟨g, k1 * 12, none⟩) (cs := spotL dk[k]!) rfl rfl (by kernel_rfl) (by kernel_rfl) (by kernel_rfl) (SV1.store _ (by simpa using lt_k1) dk[k]!) ?_
              refine hK'.out _ _ ?_
              have SV2 := SV1.stored (k := k1) (by simpa using lt_k1) dk[k]!
              generalize V1.setCells g (k1 * 12) (spotL dk[k]!) = V2 at SV2 ⊢
              clear hK' K'
              try simp only [Act.put, List.setIfInBounds_toArray, List.set_cons_zero, List.set_cons_succ]
              refine wpAnyL_done (by as_aux_lemma => kernel_rfl) ?_ _
              simp only [OnlyN]
              refine ⟨?_, SV2⟩
              (try simp only [Act.put, List.setIfInBounds_toArray, List.set_cons_zero, List.set_cons_succ])
          rintro a' W6 ⟨rfl, h6⟩
          simp only [Act.put, List.setIfInBounds_toArray, List.set_cons_zero, List.set_cons_succ]
          have HS6 := Lib.hid (HD.out ▸ h6)
          clear h6 HS
          have W3 := W2.out
          go_wp2_with fail
          go_roundg (ip - k1)
          case measure => omega
          case rel => exact ⟨k1, n + 1, rfl, by omega, by omega, Nat.le_refl _, HS6⟩
        · have hkz : ¬ (k : Int) < (ip : Int) := by omega
          have hnn : n = i - 1 - a := by omega
          have hres := merge_one swoS (a := a) (b := b) (i := i) (d := d) (by omega) (by omega) (by omega) (by rw [hm]; exact HSR.out) (by rcases HL.out with h | h; exact Or.inl (by omega); exact Or.inr h) HR.out
          rw [← hnn] at hres
          have HRES := Lib.hid hres
          clear hres hnn
          go_wp2_with fail
          ((try simp only [Exit.inBlock, Exit.then]); refine bodyPost_ret (results_none rfl _ _ _) rfl ?_)
          exact ⟨rfl, _, HRES.out.1, HRES.out.2, HS.out⟩
end Go.Proofs.Ytpgkdpoehkdhcaa
