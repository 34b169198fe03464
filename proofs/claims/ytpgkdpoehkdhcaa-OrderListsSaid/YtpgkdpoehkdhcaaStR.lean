/- swapRange, rotate at order.spot: the walks. -/
import Derived.Test.YtpgkdpoehkdhcaaSw
import Derived.Test.YtpgkdpoehkdhcaaLoad
import Derived.Deep.LoopGhost
namespace Go.Proofs.Ytpgkdpoehkdhcaa
open Go.RowKit Go.Sort
attribute [local go_sem] opv opnd
set_option maxHeartbeats 40000000
set_option linter.unusedVariables false
set_option linter.unusedSimpArgs false
set_option maxRecDepth 1000000
theorem swapRange_any (w0 : World) (base g c N : Nat) (a b n : Nat) (d : Array Spot) (W : World) (S : SW w0 base g c d W) (hN : d.size = N) (h1 : a + n ≤ b) (h2 : b + n ≤ N) (hz : N ≤ 1099511627776) :
    Calls Try.prog 62 #[.slice (some ⟨g, 0, none⟩) N c, .int .i64 a, .int .i64 b, .int .i64 n, .func (.func 30) #[] #[]] W fun e w' => e = .returned (.tuple #[]) ∧ SW w0 base g c (swapR a b n d) w' := by
  have HS0 := Lib.hid S
  clear S
  go_enter Try.func62, Try.ntmps62
  go_wp2
  go_loopg [10] n (fun kx s10 wr => ∃ i : Nat, s10 = .int .i64 (i : Int) ∧ i ≤ n ∧ n - i ≤ kx ∧ Hid (SW w0 base g c (swapR a b i d) wr))
  case atStart => exact ⟨0, rfl, by omega, by omega, HS0⟩
  case round =>
    clear HS0
    obtain ⟨i, rfl, hi, hk, HS⟩ := hrel
    by_cases hlt : i < n
    · have hltz : (i : Int) < (n : Int) := by omega
      obtain ⟨ai, hai⟩ : ∃ z, a + i = z := ⟨_, rfl⟩
      obtain ⟨bi, hbi⟩ : ∃ z, b + i = z := ⟨_, rfl⟩
      have W1 := Lib.hid (wrap_add hai (by omega))
      have W2 := Lib.hid (wrap_add hbi (by omega))
      have hz0 : (swapR a b i d).size = N := by rw [size_swapR]; exact hN
      have HD := Lib.hid (show swp (swapR a b i d) ai bi = swapR a b (i + 1) d by rw [swapR, hai, hbi])
      generalize swapR a b i d = dk at HS hz0 HD
      have lt_ai : ai < dk.size := by omega
      have lt_bi : bi < dk.size := by omega
      have la : ai < N := by omega
      have lb : bi < N := by omega
      go_wp2_with fail
      refine last_cut (by kernel_rfl) (fun U => True) (fun aF a' W' => a' = ((((((((((((((((((((((aF.put (some 16) (.slice (some ⟨g, 0, none⟩) N c)).put (some 17) (.int .i64 (a : Int))).put (some 18) (.int .i64 (i : Int))).put (some 19) (.int .i64 (ai : Int))).put (some 20) (.slice (some ⟨g, 0, none⟩) N c)).put (some 21) (.int .i64 (b : Int))).put (some 22) (.int .i64 (i : Int))).put (some 23) (.int .i64 (bi : Int))).put (some 24) (.slice (some ⟨g, 0, none⟩) N c)).put (some 25) (.int .i64 (b : Int))).put (some 26) (.int .i64 (i : Int))).put (some 27) (.int .i64 (bi : Int))).put (some 28) (.pointer (some ⟨g, bi * 12, none⟩))).put (some 29) (.agg (spotL dk[bi]!).toArray)).put (some 30) (.slice (some ⟨g, 0, none⟩) N c)).put (some 31) (.int .i64 (a : Int))).put (some 32) (.int .i64 (i : Int))).put (some 33) (.int .i64 (ai : Int))).put (some 34) (.pointer (some ⟨g, ai * 12, none⟩))).put (some 35) (.agg (spotL dk[ai]!).toArray)).put (some 36) (.pointer (some ⟨g, ai * 12, none⟩))).put (some 37) (.pointer (some ⟨g, bi * 12, none⟩))) ∧ SW w0 base g c (swp dk ai bi) W') trivial (fun hS => ?_) ?_
      · skip
        have hSB : ∀ U : World, Below (0) wr U → True := fun _ _ => trivial
        have bV : Below wr.heap.size wr wr.drew := (Below.refl _ _).drew
        have SV : SW w0 base g c dk wr.drew := (HS.out).drew
        generalize wr.drew = V0 at *
        change wpAnyL _ _ _ _ _ 24 #[false, false, false, false, false, false, false, false, false, false, false, false, false, false, false, false, false, false, false, false, false, false, false, false] _ _
        refine wpAnyL_take (i := 0) (v := .slice (some ⟨g, 0, none⟩) N c) (by simp only [List.getElem?_toArray, List.getElem?_cons_succ, List.getElem?_cons_zero]; rfl) (by as_aux_lemma => kernel_rfl) (by as_aux_lemma => kernel_rfl) (by as_aux_lemma => kernel_rfl) (fun _ _ _ h => h) (Or.inl ⟨by rfl, ?_⟩) hS ?_
        · intro U hU
          show _ = _
          kernel_rfl
        simp only [Act.put, List.setIfInBounds_toArray, List.set_cons_zero, List.set_cons_succ]
        refine wpAnyL_take (i := 1) (v := .int .i64 (a : Int)) (by simp only [List.getElem?_toArray, List.getElem?_cons_succ, List.getElem?_cons_zero]; rfl) (by as_aux_lemma => kernel_rfl) (by as_aux_lemma => kernel_rfl) (by as_aux_lemma => kernel_rfl) (fun _ _ _ h => h) (Or.inl ⟨by rfl, ?_⟩) hS ?_
        · intro U hU
          show _ = _
          kernel_rfl
        simp only [Act.put, List.setIfInBounds_toArray, List.set_cons_zero, List.set_cons_succ]
        refine wpAnyL_take (i := 2) (v := .int .i64 (i : Int)) (by simp only [List.getElem?_toArray, List.getElem?_cons_succ, List.getElem?_cons_zero]; rfl) (by as_aux_lemma => kernel_rfl) (by as_aux_lemma => kernel_rfl) (by as_aux_lemma => kernel_rfl) (fun _ _ _ h => h) (Or.inl ⟨by rfl, ?_⟩) hS ?_
        · intro U hU
          show _ = _
          kernel_rfl
        simp only [Act.put, List.setIfInBounds_toArray, List.set_cons_zero, List.set_cons_succ]
        refine wpAnyL_take (i := 3) (v := .int .i64 (ai : Int)) (by simp only [List.getElem?_toArray, List.getElem?_cons_succ, List.getElem?_cons_zero]; rfl) (by as_aux_lemma => kernel_rfl) (by as_aux_lemma => kernel_rfl) (by as_aux_lemma => kernel_rfl) (fun _ _ _ h => h) (Or.inl ⟨by rfl, ?_⟩) hS ?_
        · intro U hU
          show _ = _
          have hz := W1.out
          go_simp
        simp only [Act.put, List.setIfInBounds_toArray, List.set_cons_zero, List.set_cons_succ]
        refine wpAnyL_take (i := 4) (v := .slice (some ⟨g, 0, none⟩) N c) (by simp only [List.getElem?_toArray, List.getElem?_cons_succ, List.getElem?_cons_zero]; rfl) (by as_aux_lemma => kernel_rfl) (by as_aux_lemma => kernel_rfl) (by as_aux_lemma => kernel_rfl) (fun _ _ _ h => h) (Or.inl ⟨by rfl, ?_⟩) hS ?_
        · intro U hU
          show _ = _
          kernel_rfl
        simp only [Act.put, List.setIfInBounds_toArray, List.set_cons_zero, List.set_cons_succ]
        refine wpAnyL_take (i := 5) (v := .int .i64 (b : Int)) (by simp only [List.getElem?_toArray, List.getElem?_cons_succ, List.getElem?_cons_zero]; rfl) (by as_aux_lemma => kernel_rfl) (by as_aux_lemma => kernel_rfl) (by as_aux_lemma => kernel_rfl) (fun _ _ _ h => h) (Or.inl ⟨by rfl, ?_⟩) hS ?_
        · intro U hU
          show _ = _
          kernel_rfl
        simp only [Act.put, List.setIfInBounds_toArray, List.set_cons_zero, List.set_cons_succ]
        refine wpAnyL_take (i := 6) (v := .int .i64 (i : Int)) (by simp only [List.getElem?_toArray, List.getElem?_cons_succ, List.getElem?_cons_zero]; rfl) (by as_aux_lemma => kernel_rfl) (by as_aux_lemma => kernel_rfl) (by as_aux_lemma => kernel_rfl) (fun _ _ _ h => h) (Or.inl ⟨by rfl, ?_⟩) hS ?_
        · intro U hU
          show _ = _
          kernel_rfl
        simp only [Act.put, List.setIfInBounds_toArray, List.set_cons_zero, List.set_cons_succ]
        refine wpAnyL_take (i := 7) (v := .int .i64 (bi : Int)) (by simp only [List.getElem?_toArray, List.getElem?_cons_succ, List.getElem?_cons_zero]; rfl) (by as_aux_lemma => kernel_rfl) (by as_aux_lemma => kernel_rfl) (by as_aux_lemma => kernel_rfl) (fun _ _ _ h => h) (Or.inl ⟨by rfl, ?_⟩) hS ?_
        · intro U hU
          show _ = _
          have hz := W2.out
          go_simp
        simp only [Act.put, List.setIfInBounds_toArray, List.set_cons_zero, List.set_cons_succ]
        refine wpAnyL_take (i := 8) (v := .slice (some ⟨g, 0, none⟩) N c) (by simp only [List.getElem?_toArray, List.getElem?_cons_succ, List.getElem?_cons_zero]; rfl) (by as_aux_lemma => kernel_rfl) (by as_aux_lemma => kernel_rfl) (by as_aux_lemma => kernel_rfl) (fun _ _ _ h => h) (Or.inl ⟨by rfl, ?_⟩) hS ?_
        · intro U hU
          show _ = _
          kernel_rfl
        simp only [Act.put, List.setIfInBounds_toArray, List.set_cons_zero, List.set_cons_succ]
        refine wpAnyL_take (i := 9) (v := .int .i64 (b : Int)) (by simp only [List.getElem?_toArray, List.getElem?_cons_succ, List.getElem?_cons_zero]; rfl) (by as_aux_lemma => kernel_rfl) (by as_aux_lemma => kernel_rfl) (by as_aux_lemma => kernel_rfl) (fun _ _ _ h => h) (Or.inl ⟨by rfl, ?_⟩) hS ?_
        · intro U hU
          show _ = _
          kernel_rfl
        simp only [Act.put, List.setIfInBounds_toArray, List.set_cons_zero, List.set_cons_succ]
        refine wpAnyL_take (i := 10) (v := .int .i64 (i : Int)) (by simp only [List.getElem?_toArray, List.getElem?_cons_succ, List.getElem?_cons_zero]; rfl) (by as_aux_lemma => kernel_rfl) (by as_aux_lemma => kernel_rfl) (by as_aux_lemma => kernel_rfl) (fun _ _ _ h => h) (Or.inl ⟨by rfl, ?_⟩) hS ?_
        · intro U hU
          show _ = _
          kernel_rfl
        simp only [Act.put, List.setIfInBounds_toArray, List.set_cons_zero, List.set_cons_succ]
        refine wpAnyL_take (i := 11) (v := .int .i64 (bi : Int)) (by simp only [List.getElem?_toArray, List.getElem?_cons_succ, List.getElem?_cons_zero]; rfl) (by as_aux_lemma => kernel_rfl) (by as_aux_lemma => kernel_rfl) (by as_aux_lemma => kernel_rfl) (fun _ _ _ h => h) (Or.inl ⟨by rfl, ?_⟩) hS ?_
        · intro U hU
          show _ = _
          have hz := W2.out
          go_simp
        simp only [Act.put, List.setIfInBounds_toArray, List.set_cons_zero, List.set_cons_succ]
        refine wpAnyL_take (i := 12) (v := .pointer (some ⟨g, bi * 12, none⟩)) (by simp only [List.getElem?_toArray, List.getElem?_cons_succ, List.getElem?_cons_zero]; rfl) (by as_aux_lemma => kernel_rfl) (by as_aux_lemma => kernel_rfl) (by as_aux_lemma => kernel_rfl) (fun _ _ _ h => h) (Or.inl ⟨by rfl, ?_⟩) hS ?_
        · intro U hU
          show _ = _
          go_simp
        simp only [Act.put, List.setIfInBounds_toArray, List.set_cons_zero, List.set_cons_succ]
        refine wpAnyL_take (i := 14) (v := .slice (some ⟨g, 0, none⟩) N c) (by simp only [List.getElem?_toArray, List.getElem?_cons_succ, List.getElem?_cons_zero]; rfl) (by as_aux_lemma => kernel_rfl) (by as_aux_lemma => kernel_rfl) (by as_aux_lemma => kernel_rfl) (fun _ _ _ h => h) (Or.inl ⟨by rfl, ?_⟩) hS ?_
        · intro U hU
          show _ = _
          kernel_rfl
        simp only [Act.put, List.setIfInBounds_toArray, List.set_cons_zero, List.set_cons_succ]
        refine wpAnyL_take (i := 15) (v := .int .i64 (a : Int)) (by simp only [List.getElem?_toArray, List.getElem?_cons_succ, List.getElem?_cons_zero]; rfl) (by as_aux_lemma => kernel_rfl) (by as_aux_lemma => kernel_rfl) (by as_aux_lemma => kernel_rfl) (fun _ _ _ h => h) (Or.inl ⟨by rfl, ?_⟩) hS ?_
        · intro U hU
          show _ = _
          kernel_rfl
        simp only [Act.put, List.setIfInBounds_toArray, List.set_cons_zero, List.set_cons_succ]
        refine wpAnyL_take (i := 16) (v := .int .i64 (i : Int)) (by simp only [List.getElem?_toArray, List.getElem?_cons_succ, List.getElem?_cons_zero]; rfl) (by as_aux_lemma => kernel_rfl) (by as_aux_lemma => kernel_rfl) (by as_aux_lemma => kernel_rfl) (fun _ _ _ h => h) (Or.inl ⟨by rfl, ?_⟩) hS ?_
        · intro U hU
          show _ = _
          kernel_rfl
        simp only [Act.put, List.setIfInBounds_toArray, List.set_cons_zero, List.set_cons_succ]
        refine wpAnyL_take (i := 17) (v := .int .i64 (ai : Int)) (by simp only [List.getElem?_toArray, List.getElem?_cons_succ, List.getElem?_cons_zero]; rfl) (by as_aux_lemma => kernel_rfl) (by as_aux_lemma => kernel_rfl) (by as_aux_lemma => kernel_rfl) (fun _ _ _ h => h) (Or.inl ⟨by rfl, ?_⟩) hS ?_
        · intro U hU
          show _ = _
          have hz := W1.out
          go_simp
        simp only [Act.put, List.setIfInBounds_toArray, List.set_cons_zero, List.set_cons_succ]
        refine wpAnyL_take (i := 18) (v := .pointer (some ⟨g, ai * 12, none⟩)) (by simp only [List.getElem?_toArray, List.getElem?_cons_succ, List.getElem?_cons_zero]; rfl) (by as_aux_lemma => kernel_rfl) (by as_aux_lemma => kernel_rfl) (by as_aux_lemma => kernel_rfl) (fun _ _ _ h => h) (Or.inl ⟨by rfl, ?_⟩) hS ?_
        · intro U hU
          show _ = _
          go_simp
        simp only [Act.put, List.setIfInBounds_toArray, List.set_cons_zero, List.set_cons_succ]
        refine wpAnyL_ready (rs := [13, 19]) (by as_aux_lemma => kernel_rfl) (by simp) ?_
        refine AllReadyL.cons (by simp only [List.getElem?_toArray, List.getElem?_cons_succ, List.getElem?_cons_zero]; rfl) (fun K' hK' => ?_) (AllReadyL.cons (by simp only [List.getElem?_toArray, List.getElem?_cons_succ, List.getElem?_cons_zero]; rfl) (fun K' hK' => ?_) AllReadyL.nil)
        · refine step_loadK rfl rfl rfl (by kernel_rfl) (by kernel_rfl) (SV.load _ lt_bi) ?_
          refine hK'.out _ _ hS (fun _ => ?_)
          clear hK' K'
          try simp only [Act.put, List.setIfInBounds_toArray, List.set_cons_zero, List.set_cons_succ]
          refine wpAnyL_ready (rs := [19]) (by as_aux_lemma => kernel_rfl) (by simp) ?_
          refine AllReadyL.cons (by simp only [List.getElem?_toArray, List.getElem?_cons_succ, List.getElem?_cons_zero]; rfl) (fun K' hK' => ?_) AllReadyL.nil
          refine step_loadK rfl rfl rfl (by kernel_rfl) (by kernel_rfl) (SV.load _ lt_ai) ?_
          refine hK'.out _ _ hS (fun _ => ?_)
          clear hK' K'
          try simp only [Act.put, List.setIfInBounds_toArray, List.set_cons_zero, List.set_cons_succ]
          refine wpAnyL_take (i := 20) (v := .pointer (some ⟨g, ai * 12, none⟩)) (by simp only [List.getElem?_toArray, List.getElem?_cons_succ, List.getElem?_cons_zero]; rfl) (by as_aux_lemma => kernel_rfl) (by as_aux_lemma => kernel_rfl) (by as_aux_lemma => kernel_rfl) (fun _ _ _ h => h) (Or.inl ⟨by rfl, ?_⟩) hS ?_
          · intro U hU
            show _ = _
            go_simp
          simp only [Act.put, List.setIfInBounds_toArray, List.set_cons_zero, List.set_cons_succ]
          refine wpAnyL_ready (rs := [21]) (by as_aux_lemma => kernel_rfl) (by simp) ?_
          refine AllReadyL.cons (by simp only [List.getElem?_toArray, List.getElem?_cons_succ, List.getElem?_cons_zero]; rfl) (fun K' hK' => ?_) AllReadyL.nil
          refine step_storeK (ad := ⟨g, ai * 12, none⟩) (cs := spotL dk[bi]!) rfl rfl (by kernel_rfl) (by kernel_rfl) (by kernel_rfl) (SV.store _ lt_ai dk[bi]!) ?_
          refine hK'.out _ _ hS (fun _ => ?_)
          have SV1 := SV.stored lt_ai dk[bi]!
          generalize V0.setCells g (ai * 12) (spotL dk[bi]!) = V1 at SV1 ⊢
          clear hK' K'
          try simp only [Act.put, List.setIfInBounds_toArray, List.set_cons_zero, List.set_cons_succ]
          refine wpAnyL_take (i := 22) (v := .pointer (some ⟨g, bi * 12, none⟩)) (by simp only [List.getElem?_toArray, List.getElem?_cons_succ, List.getElem?_cons_zero]; rfl) (by as_aux_lemma => kernel_rfl) (by as_aux_lemma => kernel_rfl) (by as_aux_lemma => kernel_rfl) (fun _ _ _ h => h) (Or.inl ⟨by rfl, ?_⟩) hS ?_
          · intro U hU
            show _ = _
            go_simp
          simp only [Act.put, List.setIfInBounds_toArray, List.set_cons_zero, List.set_cons_succ]
          refine wpAnyL_ready (rs := [23]) (by as_aux_lemma => kernel_rfl) (by simp) ?_
          refine AllReadyL.last (by simp only [List.getElem?_toArray, List.getElem?_cons_succ, List.getElem?_cons_zero]; rfl) (by as_aux_lemma => kernel_rfl) (fun K' hK' => ?_)
          refine step_storeK (ad := ⟨g, bi * 12, none⟩) (cs := spotL dk[ai]!) rfl rfl (by kernel_rfl) (by kernel_rfl) (by kernel_rfl) (SV1.store _ (by simpa using lt_bi) dk[ai]!) ?_
          refine hK'.out _ _ ?_
          have SV2 := SV1.stored (k := bi) (by simpa using lt_bi) dk[ai]!
          generalize V1.setCells g (bi * 12) (spotL dk[ai]!) = V2 at SV2 ⊢
          clear hK' K'
          try simp only [Act.put, List.setIfInBounds_toArray, List.set_cons_zero, List.set_cons_succ]
          refine wpAnyL_done (by as_aux_lemma => kernel_rfl) ?_ _
          simp only [OnlyN]
          refine ⟨?_, SV2⟩
          (try simp only [Act.put, List.setIfInBounds_toArray, List.set_cons_zero, List.set_cons_succ])
        · refine step_loadK rfl rfl rfl (by kernel_rfl) (by kernel_rfl) (SV.load _ lt_ai) ?_
          refine hK'.out _ _ hS (fun _ => ?_)
          clear hK' K'
          try simp only [Act.put, List.setIfInBounds_toArray, List.set_cons_zero, List.set_cons_succ]
          refine wpAnyL_ready (rs := [13]) (by as_aux_lemma => kernel_rfl) (by simp) ?_
          refine AllReadyL.cons (by simp only [List.getElem?_toArray, List.getElem?_cons_succ, List.getElem?_cons_zero]; rfl) (fun K' hK' => ?_) AllReadyL.nil
          refine step_loadK rfl rfl rfl (by kernel_rfl) (by kernel_rfl) (SV.load _ lt_bi) ?_
          refine hK'.out _ _ hS (fun _ => ?_)
          clear hK' K'
          try simp only [Act.put, List.setIfInBounds_toArray, List.set_cons_zero, List.set_cons_succ]
          refine wpAnyL_take (i := 20) (v := .pointer (some ⟨g, ai * 12, none⟩)) (by simp only [List.getElem?_toArray, List.getElem?_cons_succ, List.getElem?_cons_zero]; rfl) (by as_aux_lemma => kernel_rfl) (by as_aux_lemma => kernel_rfl) (by as_aux_lemma => kernel_rfl) (fun _ _ _ h => h) (Or.inl ⟨by rfl, ?_⟩) hS ?_
          · intro U hU
            show _ = _
            go_simp
          simp only [Act.put, List.setIfInBounds_toArray, List.set_cons_zero, List.set_cons_succ]
          refine wpAnyL_ready (rs := [21]) (by as_aux_lemma => kernel_rfl) (by simp) ?_
          refine AllReadyL.cons (by simp only [List.getElem?_toArray, List.getElem?_cons_succ, List.getElem?_cons_zero]; rfl) (fun K' hK' => ?_) AllReadyL.nil
          refine step_storeK (ad := ⟨g, ai * 12, none⟩) (cs := spotL dk[bi]!) rfl rfl (by kernel_rfl) (by kernel_rfl) (by kernel_rfl) (SV.store _ lt_ai dk[bi]!) ?_
          refine hK'.out _ _ hS (fun _ => ?_)
          have SV1 := SV.stored lt_ai dk[bi]!
          generalize V0.setCells g (ai * 12) (spotL dk[bi]!) = V1 at SV1 ⊢
          clear hK' K'
          try simp only [Act.put, List.setIfInBounds_toArray, List.set_cons_zero, List.set_cons_succ]
          refine wpAnyL_take (i := 22) (v := .pointer (some ⟨g, bi * 12, none⟩)) (by simp only [List.getElem?_toArray, List.getElem?_cons_succ, List.getElem?_cons_zero]; rfl) (by as_aux_lemma => kernel_rfl) (by as_aux_lemma => kernel_rfl) (by as_aux_lemma => kernel_rfl) (fun _ _ _ h => h) (Or.inl ⟨by rfl, ?_⟩) hS ?_
          · intro U hU
            show _ = _
            go_simp
          simp only [Act.put, List.setIfInBounds_toArray, List.set_cons_zero, List.set_cons_succ]
          refine wpAnyL_ready (rs := [23]) (by as_aux_lemma => kernel_rfl) (by simp) ?_
          refine AllReadyL.last (by simp only [List.getElem?_toArray, List.getElem?_cons_succ, List.getElem?_cons_zero]; rfl) (by as_aux_lemma => kernel_rfl) (fun K' hK' => ?_)
          refine step_storeK (ad := ⟨g, bi * 12, none⟩) (cs := spotL dk[ai]!) rfl rfl (by kernel_rfl) (by kernel_rfl) (by kernel_rfl) (SV1.store _ (by simpa using lt_bi) dk[ai]!) ?_
          refine hK'.out _ _ ?_
          have SV2 := SV1.stored (k := bi) (by simpa using lt_bi) dk[ai]!
          generalize V1.setCells g (bi * 12) (spotL dk[ai]!) = V2 at SV2 ⊢
          clear hK' K'
          try simp only [Act.put, List.setIfInBounds_toArray, List.set_cons_zero, List.set_cons_succ]
          refine wpAnyL_done (by as_aux_lemma => kernel_rfl) ?_ _
          simp only [OnlyN]
          refine ⟨?_, SV2⟩
          (try simp only [Act.put, List.setIfInBounds_toArray, List.set_cons_zero, List.set_cons_succ])
      rintro a' W2' ⟨rfl, h5⟩
      simp only [Act.put, List.setIfInBounds_toArray, List.set_cons_zero, List.set_cons_succ]
      have HS2 := Lib.hid (HD.out ▸ h5)
      clear h5
      go_wp2_with fail
      go_roundg (n - (i + 1))
      case measure => omega
      case rel => exact ⟨i + 1, by go_num, by omega, by omega, HS2⟩
    · have hltz : ¬ (i : Int) < (n : Int) := by omega
      have e : i = n := by omega
      subst e
      go_wp2
      go_end0
      exact ⟨rfl, HS.out⟩
theorem rotate_any (w0 : World) (base g c N : Nat) (a m b : Nat) (d : Array Spot) (W : World) (S : SW w0 base g c d W) (hN : d.size = N) (h1 : a < m) (h2 : m < b) (h3 : b ≤ N) (hz : N ≤ 1099511627776) :
    Calls Try.prog 61 #[.slice (some ⟨g, 0, none⟩) N c, .int .i64 a, .int .i64 m, .int .i64 b, .func (.func 30) #[] #[]] W fun e w' => e = .returned (.tuple #[]) ∧ ∃ d', PermIn a b d d' ∧ RotOf a m b d d' ∧ SW w0 base g c d' w' := by
  have HS0 := Lib.hid S
  clear S
  obtain ⟨i0, hi0⟩ : ∃ z, z + a = m := ⟨m - a, by omega⟩
  obtain ⟨j0, hj0⟩ : ∃ z, z + m = b := ⟨b - m, by omega⟩
  have W1 := wrap_sub (a := m) (b := a) hi0 (by omega)
  have W2 := wrap_sub (a := b) (b := m) hj0 (by omega)
  go_enter Try.func61, Try.ntmps61
  go_wp2
  clear W1 W2
  go_loopg [10, 11] (b - a) (fun kx s10 s11 wr => ∃ (i j lo hh : Nat) (dk : Array Spot), s10 = .int .i64 (i : Int) ∧ s11 = .int .i64 (j : Int) ∧ lo + i = m ∧ m + j = hh ∧ 0 < i ∧ 0 < j ∧ a ≤ lo ∧ hh ≤ b ∧ i + j ≤ kx ∧ dk.size = N ∧ PermIn a b d dk ∧ Hid (∀ d', RotOf lo m hh dk d' → RotOf a m b d d') ∧ Hid (SW w0 base g c dk wr))
  case atStart => exact ⟨i0, j0, a, b, d, rfl, rfl, by omega, by omega, by omega, by omega, Nat.le_refl _, Nat.le_refl _, by omega, hN, permIn_refl _ _ _, fun _ h => h, HS0⟩
  case round =>
    clear HS0
    obtain ⟨i, j, lo, hh, dk, rfl, rfl, e1, e2, p1, p2, b1, b2, hk, hs, hp, HR, HS⟩ := hrel
    have W1 := wrap_sub (a := m) (b := i) e1 (by omega)
    by_cases hij : i = j
    · subst hij
      have dne : decide ((i : Int) ≠ (i : Int)) = false := by simp
      go_wp2_with fail
      refine (swapRange_any w0 base g c N lo m i dk wr HS.out hs (by omega) (by omega) hz).mono ?_
      rintro e' W9 ⟨rfl, h9⟩
      go_wp2_with fail
      go_end0
      exact ⟨rfl, _, permIn_trans _ _ _ _ _ hp (swapR_perm lo m a b dk b1 (by omega) (by omega) i (by omega) (by omega)), HR.out _ (rot_even e1 e2 (by omega)), h9⟩
    · have hne : ¬ (i : Int) = (j : Int) := by omega
      by_cases hgt : j < i
      · have hgtz : (j : Int) < (i : Int) := by omega
        obtain ⟨i', hi'⟩ : ∃ z, z + j = i := ⟨i - j, by omega⟩
        have W2 := wrap_sub (a := i) (b := j) hi' (by omega)
        go_wp2_with fail
        refine (swapRange_any w0 base g c N lo m j dk wr HS.out hs (by omega) (by omega) hz).mono ?_
        rintro e' W9 ⟨rfl, h9⟩
        have H9 := Lib.hid h9
        clear h9
        go_wp2_with fail
        go_roundg (i' + j)
        case measure => omega
        case rel =>
          refine ⟨i', j, lo + j, hh, _, rfl, rfl, by omega, e2, by omega, p2, by omega, b2, Nat.le_refl _, by rw [size_swapR]; exact hs, permIn_trans _ _ _ _ _ hp (swapR_perm lo m a b dk b1 (by omega) (by omega) j (by omega) (by omega)), ?_, H9⟩
          exact fun d' h => HR.out d' (rot_left e2.symm p2 (by omega) (by omega) h)
      · have hgtz : ¬ (j : Int) < (i : Int) := by omega
        obtain ⟨j', hj'⟩ : ∃ z, z + i = j := ⟨j - i, by omega⟩
        obtain ⟨hh', hh2⟩ : ∃ z, z + i = hh := ⟨hh - i, by omega⟩
        have W2 := wrap_sub (a := j) (b := i) hj' (by omega)
        have W3 := wrap_add (a := m) (b := j) e2 (by omega)
        have W4 := wrap_sub (a := hh) (b := i) hh2 (by omega)
        go_wp2_with fail
        refine (swapRange_any w0 base g c N lo hh' i dk wr HS.out hs (by omega) (by omega) hz).mono ?_
        rintro e' W9 ⟨rfl, h9⟩
        have H9 := Lib.hid h9
        clear h9
        go_wp2_with fail
        go_roundg (i + j')
        case measure => omega
        case rel =>
          refine ⟨i, j', lo, hh', _, rfl, rfl, e1, by omega, p1, by omega, b1, by omega, Nat.le_refl _, by rw [size_swapR]; exact hs, permIn_trans _ _ _ _ _ hp (swapR_perm lo hh' a b dk b1 (by omega) (by omega) i (by omega) (by omega)), ?_, H9⟩
          have ee : hh' = hh - i := by omega
          subst ee
          exact fun d' h => HR.out d' (rot_right e1 p1 (by omega) (by omega) h)
end Go.Proofs.Ytpgkdpoehkdhcaa
