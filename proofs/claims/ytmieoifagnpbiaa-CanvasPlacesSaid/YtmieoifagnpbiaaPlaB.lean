/- CONTRACT of waveletref12.Bands. -/
import Derived.Test.YtmieoifagnpbiaaPlaR
import Derived.Test.YtmieoifagnpbiaaLoad
import Derived.Deep.CutBlock
namespace Go.Proofs.Ytmieoifagnpbiaa
open Go.RowKit
attribute [local go_sem] opv opnd
set_option maxHeartbeats 4000000
set_option linter.unusedVariables false
set_option linter.unusedSimpArgs false
set_option maxRecDepth 100000

theorem bandsR_any (C : Rc) (lv r : Nat) (hr : r ≤ lv) (hl : lv ≤ 18) (hC : okR C) (w : World) :
    Calls Try.prog 26 #[rcV C, .int .i64 lv, .int .i64 r] w fun e w' => ∃ K cK X cx, e = .returned (.tuple #[.slice K (bandN r) cK, .slice X (bandN r) cx]) ∧ OwnI w' w.heap.size 3 (.slice K (bandN r) cK) (bandN r) (kindI r) ∧
      OwnC w' w.heap.size 53 4 (.slice X (bandN r) cx) (bandN r) (fun k => rcL (bandA C lv r k)) ∧ Below w.heap.size w w' := by
  by_cases hr0 : r = 0
  · subst hr0
    have H := Lib.hid (fun v => resolutionR_any C lv 0 lv (by omega) (by omega) (by omega) hC v)
    rw [show ((0 : Nat) : Int) = 0 from rfl] at H
    obtain ⟨a0, a1, a2, a3⟩ := C
    obtain ⟨R, hR⟩ : ∃ R : Rc, R = resR ⟨a0, a1, a2, a3⟩ lv := ⟨_, rfl⟩
    have hb : ∀ k, bandA ⟨a0, a1, a2, a3⟩ lv 0 k = R := fun k => by unfold bandA; rw [if_pos rfl, hR]
    rw [← hR] at H
    obtain ⟨r0, r1, r2, r3⟩ := R
    unfold rcV at H
    unfold rcV
    simp only at H ⊢
    have HB := Lib.hid hb
    clear hR hb hC
    go_enter Try.func26, Try.ntmps26
    go_wp2_with fail
    generalize hv1 : World.alloc (World.alloc w _) _ = V1
    have g1 : V1.heap[w.heap.size + 1]? = some (.cells #[.int .i64 0] 3 (0, 0)) := by rw [← hv1]; exact heap_alloc_new3 w _ _
    have s1 : V1.heap.size = w.heap.size + 2 := by rw [← hv1]; simp
    have b1 : Below w.heap.size w V1 := by rw [← hv1]; exact below_alloc (below_alloc (Below.refl _ _) _) _
    clear hv1
    refine (H.out _).mono ?_
    rintro e V2 ⟨rfl, hb2⟩
    have g2 := (hb2.block (w.heap.size + 1) (by omega)).trans g1
    have b2 := below_trans b1 hb2
    have s2 : w.heap.size + 2 ≤ V2.heap.size := by have := hb2.size; omega
    clear g1 s1 b1 hb2
    go_wp2_with fail
    generalize hv3 : World.alloc V2 _ = V3
    have g3 : V3.heap[V2.heap.size]? = some (.cells #[.int .i64 r0, .int .i64 r1, .int .i64 r2, .int .i64 r3] 53 (0, 0)) := by rw [← hv3]; exact heap_alloc_new _ _
    have g4 : V3.heap[w.heap.size + 1]? = some (.cells #[.int .i64 0] 3 (0, 0)) := by rw [← hv3]; exact (Below.heap_alloc _ _ _ (by omega)).trans g2
    have b3 : Below w.heap.size w V3 := by rw [← hv3]; exact below_alloc b2 _
    refine bodyPost_ret (v := .tuple #[.slice (some ⟨w.heap.size + 1, 0, none⟩) 1 1, .slice (some ⟨V2.heap.size, 0, none⟩) 1 1]) (by simp [results, Try.results26, go_sem]) rfl ?_
    refine ⟨_, _, _, _, rfl, ?_, ?_, b3⟩
    · exact OwnI.of_block g4 (by omega) (by show (1 : Nat) ≤ maxLen; unfold maxLen; omega) rfl
    · exact OwnC.of_block g3 (by omega) (fun _ => rfl) (by show (1 : Nat) ≤ maxLen; unfold maxLen; omega) (by simp only [HB.out]; rfl)
  · obtain ⟨n, hn⟩ : ∃ n, lv - r + 1 = n := ⟨_, rfl⟩
    have hbN : bandN r = 3 := by unfold bandN; rw [if_neg hr0]
    have hkI : ∀ k, kindI r k = (k : Int) + 1 := fun k => by unfold kindI; rw [if_neg hr0]
    have hbA : ∀ k, bandA C lv r k = bandR C n ((k : Int) + 1 != 2) ((k : Int) + 1 != 1) := fun k => by unfold bandA; rw [if_neg hr0, hn]
    rw [hbN]
    have e1 : IntKind.i64.wrap ((lv : Int) - r) = ((lv - r : Nat) : Int) := by rw [show (lv : Int) - r = ((lv - r : Nat) : Int) by omega]; exact wr (by omega)
    have e2 : IntKind.i64.wrap (((lv - r : Nat) : Int) + 1) = (n : Int) := by rw [show ((lv - r : Nat) : Int) + 1 = (n : Int) by omega]; exact wr (by omega)
    have e6 : ¬ ((r : Int) = 0) := by omega
    have e5 : ((r : Int) == 0) = false := by simp; omega
    have hn2 : 1 ≤ n ∧ n ≤ 19 := by omega
    obtain ⟨m, hm, m1, m2⟩ : ∃ m : Nat, 2 ^ n = m ∧ 1 ≤ m ∧ m ≤ 1048576 := ⟨_, rfl, Nat.one_le_two_pow, Nat.pow_le_pow_right (by omega) (show n ≤ 20 by omega)⟩
    obtain ⟨h, hh⟩ : ∃ h : Nat, 2 ^ (n - 1) = h := ⟨_, rfl⟩
    have hmh : m = 2 * h := by
      rw [← hm, ← hh]
      obtain ⟨j, rfl⟩ : ∃ j, n = j + 1 := ⟨n - 1, by omega⟩
      rw [Nat.add_sub_cancel, Nat.pow_succ, Nat.mul_comm]
    have hq : ((m : Nat) : Int).tdiv 2 = (h : Int) := by rw [Int.tdiv_eq_ediv_of_nonneg (by omega)]; omega
    have hw : IntKind.i64.wrap (h : Int) = (h : Int) := wr (by omega)
    have t1 : ∀ x, clI (x - (h : Int)) m = hfI x n true := fun x => by rw [← hm, ← hh]; exact clI_hf x n true
    have t0 : ∀ x, clI (x - 0) m = hfI x n false := fun x => by rw [← hm]; exact clI_hf x n false
    have mk : ∀ (ax ay : Int) (ox oy : Bool), (∀ x, clI (x - ax) m = hfI x n ox) → (∀ x, clI (x - ay) m = hfI x n oy) → (-1073741824 ≤ ax ∧ ax ≤ 1073741824) → (-1073741824 ≤ ay ∧ ay ≤ 1073741824) → ∀ v, Calls Try.prog 52 #[rcV C, .int .i64 m, .int .i64 m, .int .i64 ax, .int .i64 ay] v fun e w' => e = .returned (rcV (bandR C n ox oy)) ∧ Below v.heap.size v w' := fun ax ay ox oy hx hy bx b y => by
      have := over12_any C m m ax ay hC.1 hC.2.1 hC.2.2.1 hC.2.2.2 (by omega) (by omega) bx b y
      rw [hx, hy, hx, hy] at this
      exact this
    have o0 := mk h 0 true false t1 t0 (by omega) (by omega)
    have o1 := mk 0 h false true t0 t1 (by omega) (by omega)
    have o2 := mk h h true true t1 t1 (by omega) (by omega)
    have c0 := hbA 0
    have c1 := hbA 1
    have c2 := hbA 2
    rw [show ((((0 : Nat) : Int) + 1 != 2) = true) from rfl, show ((((0 : Nat) : Int) + 1 != 1) = false) from rfl] at c0
    rw [show ((((1 : Nat) : Int) + 1 != 2) = false) from rfl, show ((((1 : Nat) : Int) + 1 != 1) = true) from rfl] at c1
    rw [show ((((2 : Nat) : Int) + 1 != 2) = true) from rfl, show ((((2 : Nat) : Int) + 1 != 1) = true) from rfl] at c2
    rw [← c0] at o0
    rw [← c1] at o1
    rw [← c2] at o2
    have q1 : wrap64 (2 ^ n) = (m : Int) := by
      rw [show (2 : Int) ^ n = ((2 ^ n : Nat) : Int) by simp, hm]; exact IntWalk.wrap64_in _ (by omega)
    have hd1 : ¬ ((n : Int) < 0) := by omega
    clear mk t0 t1 c0 c1 c2 hmh hh
    obtain ⟨fb, hfb⟩ : ∃ fb : Nat → Rc, (fun k => bandA C lv r k) = fb := ⟨_, rfl⟩
    have hfb' : ∀ k, bandA C lv r k = fb k := fun k => by rw [← hfb]
    rw [hfb'] at o0 o1 o2
    rw [show (fun k => rcL (bandA C lv r k)) = (fun k => rcL (fb k)) from by funext k; rw [hfb']]
    have HF : ∀ k, ∃ u v x y : Int, fb k = ⟨u, v, x, y⟩ := fun k => ⟨_, _, _, _, rfl⟩
    obtain ⟨r00, r01, r02, r03, f0⟩ := HF 0
    obtain ⟨r10, r11, r12, r13, f1⟩ := HF 1
    obtain ⟨r20, r21, r22, r23, f2⟩ := HF 2
    rw [f0] at o0
    rw [f1] at o1
    rw [f2] at o2
    have HKI := Lib.hid hkI
    have F0 := Lib.hid f0
    have F1 := Lib.hid f1
    have F2 := Lib.hid f2
    have HQ := Lib.hid (And.intro hq hw)
    clear hbA hkI hbN hn hr hl hr0 hfb hfb' HF f0 f1 f2 hm hC hq hw
    obtain ⟨a0, a1, a2, a3⟩ := C
    unfold rcV at o0 o1 o2 ⊢
    simp only at o0 o1 o2 ⊢
    have HO0 := Lib.hid o0
    have HO1 := Lib.hid o1
    have HO2 := Lib.hid o2
    clear o0 o1 o2
    go_enter Try.func26, Try.ntmps26
    go_upto_region 4 with fail
    rw [q1]
    try rw [e5]
    obtain ⟨q, hqs⟩ : ∃ q, w.heap.size = q := ⟨_, rfl⟩
    rw [hqs]
    generalize hv1 : World.alloc _ _ = V1
    have g0 : V1.heap[q]? = some (.cells #[.int .i64 a0, .int .i64 a1, .int .i64 a2, .int .i64 a3] 53 (0, 0)) := by rw [← hv1, ← hqs]; exact heap_alloc_new w _
    have hs : V1.heap.size = q + 1 := by rw [← hv1, ← hqs]; simp
    have bb : Below q w V1 := by rw [← hv1, ← hqs]; exact below_alloc (Below.refl _ _) _
    clear hv1 e1 e2 e6 e5 q1 hd1
    have hsz : q + 1 ≤ V1.heap.size := by omega
    refine last_cut (by kernel_rfl) (fun U => U.heap[q]? = some (.cells #[.int .i64 a0, .int .i64 a1, .int .i64 a2, .int .i64 a3] 53 (0, 0))) (fun aF a' W' => ∃ gi gx, a' = ((((((((((((((((((((((((aF.put (some 22) (.slice (some ⟨gi, 0, none⟩) 3 3)).put (some 23) (.agg #[.int .i64 a0, .int .i64 a1, .int .i64 a2, .int .i64 a3])).put (some 24) (.int .i64 (m : Int))).put (some 25) (.int .i64 (m : Int))).put (some 26) (.int .i64 (m : Int))).put (some 27) (.int .i64 (h : Int))).put (some 28) (.agg #[.int .i64 r00, .int .i64 r01, .int .i64 r02, .int .i64 r03])).put (some 29) (.agg #[.int .i64 a0, .int .i64 a1, .int .i64 a2, .int .i64 a3])).put (some 30) (.int .i64 (m : Int))).put (some 31) (.int .i64 (m : Int))).put (some 32) (.int .i64 (m : Int))).put (some 33) (.int .i64 (h : Int))).put (some 34) (.agg #[.int .i64 r10, .int .i64 r11, .int .i64 r12, .int .i64 r13])).put (some 35) (.agg #[.int .i64 a0, .int .i64 a1, .int .i64 a2, .int .i64 a3])).put (some 36) (.int .i64 (m : Int))).put (some 37) (.int .i64 (m : Int))).put (some 38) (.int .i64 (m : Int))).put (some 39) (.int .i64 (h : Int))).put (some 40) (.int .i64 (m : Int))).put (some 41) (.int .i64 (h : Int))).put (some 42) (.agg #[.int .i64 r20, .int .i64 r21, .int .i64 r22, .int .i64 r23])).put (some 43) (.slice (some ⟨gx, 0, none⟩) 3 3)).put (some 6) (.slice (some ⟨gi, 0, none⟩) 3 3)).put (some 7) (.slice (some ⟨gx, 0, none⟩) 3 3)) ∧ W'.heap[gi]? = some (.cells #[.int .i64 1, .int .i64 2, .int .i64 3] 3 (0, 0)) ∧ W'.heap[gx]? = some (.cells #[.int .i64 r00, .int .i64 r01, .int .i64 r02, .int .i64 r03, .int .i64 r10, .int .i64 r11, .int .i64 r12, .int .i64 r13, .int .i64 r20, .int .i64 r21, .int .i64 r22, .int .i64 r23] 53 (0, 0)) ∧ q + 1 ≤ gi ∧ q + 1 ≤ gx ∧ Below (q + 1) V1 W') (g0) (fun hS => ?_) ?_
    · skip
      have hSB : ∀ U : World, Below (q + 1) V1 U → U.heap[q]? = some (.cells #[.int .i64 a0, .int .i64 a1, .int .i64 a2, .int .i64 a3] 53 (0, 0)) := fun U h => ((h.block (q) (by omega)).trans (g0))
      have bV : Below V1.heap.size V1 V1.drew := (Below.refl _ _).drew
      generalize V1.drew = V0 at *
      change wpAnyL _ _ _ _ _ 24 #[false, false, false, false, false, false, false, false, false, false, false, false, false, false, false, false, false, false, false, false, false, false, false, false] _ _
      refine wpAnyL_take (i := 1) (v := .agg #[.int .i64 a0, .int .i64 a1, .int .i64 a2, .int .i64 a3]) (by simp only [List.getElem?_toArray, List.getElem?_cons_succ, List.getElem?_cons_zero]; rfl) (by as_aux_lemma => kernel_rfl) (by as_aux_lemma => kernel_rfl) (by as_aux_lemma => kernel_rfl) (fun _ _ _ h => h) (Or.inl ⟨by rfl, ?_⟩) hS ?_
      · intro U hU
        have s0 := hU
        show _ = _
        exact exec_loadRow (cs := [.int .i64 a0, .int .i64 a1, .int .i64 a2, .int .i64 a3]) rfl rfl s0 (by kernel_rfl) (by kernel_rfl)
      simp only [Act.put, List.setIfInBounds_toArray, List.set_cons_zero, List.set_cons_succ]
      refine wpAnyL_take (i := 2) (v := .int .i64 (m : Int)) (by simp only [List.getElem?_toArray, List.getElem?_cons_succ, List.getElem?_cons_zero]; rfl) (by as_aux_lemma => kernel_rfl) (by as_aux_lemma => kernel_rfl) (by as_aux_lemma => kernel_rfl) (fun _ _ _ h => h) (Or.inl ⟨by rfl, ?_⟩) hS ?_
      · intro U hU
        have s0 := hU
        show _ = _
        kernel_rfl
      simp only [Act.put, List.setIfInBounds_toArray, List.set_cons_zero, List.set_cons_succ]
      refine wpAnyL_take (i := 3) (v := .int .i64 (m : Int)) (by simp only [List.getElem?_toArray, List.getElem?_cons_succ, List.getElem?_cons_zero]; rfl) (by as_aux_lemma => kernel_rfl) (by as_aux_lemma => kernel_rfl) (by as_aux_lemma => kernel_rfl) (fun _ _ _ h => h) (Or.inl ⟨by rfl, ?_⟩) hS ?_
      · intro U hU
        have s0 := hU
        show _ = _
        kernel_rfl
      simp only [Act.put, List.setIfInBounds_toArray, List.set_cons_zero, List.set_cons_succ]
      refine wpAnyL_take (i := 4) (v := .int .i64 (m : Int)) (by simp only [List.getElem?_toArray, List.getElem?_cons_succ, List.getElem?_cons_zero]; rfl) (by as_aux_lemma => kernel_rfl) (by as_aux_lemma => kernel_rfl) (by as_aux_lemma => kernel_rfl) (fun _ _ _ h => h) (Or.inl ⟨by rfl, ?_⟩) hS ?_
      · intro U hU
        have s0 := hU
        show _ = _
        kernel_rfl
      simp only [Act.put, List.setIfInBounds_toArray, List.set_cons_zero, List.set_cons_succ]
      refine wpAnyL_take (i := 5) (v := .int .i64 (h : Int)) (by simp only [List.getElem?_toArray, List.getElem?_cons_succ, List.getElem?_cons_zero]; rfl) (by as_aux_lemma => kernel_rfl) (by as_aux_lemma => kernel_rfl) (by as_aux_lemma => kernel_rfl) (fun _ _ _ h => h) (Or.inl ⟨by rfl, ?_⟩) hS ?_
      · intro U hU
        have s0 := hU
        show _ = _
        obtain ⟨hz, hz2⟩ := HQ.out
        go_simp
      simp only [Act.put, List.setIfInBounds_toArray, List.set_cons_zero, List.set_cons_succ]
      refine wpAnyL_take (i := 7) (v := .agg #[.int .i64 a0, .int .i64 a1, .int .i64 a2, .int .i64 a3]) (by simp only [List.getElem?_toArray, List.getElem?_cons_succ, List.getElem?_cons_zero]; rfl) (by as_aux_lemma => kernel_rfl) (by as_aux_lemma => kernel_rfl) (by as_aux_lemma => kernel_rfl) (fun _ _ _ h => h) (Or.inl ⟨by rfl, ?_⟩) hS ?_
      · intro U hU
        have s0 := hU
        show _ = _
        exact exec_loadRow (cs := [.int .i64 a0, .int .i64 a1, .int .i64 a2, .int .i64 a3]) rfl rfl s0 (by kernel_rfl) (by kernel_rfl)
      simp only [Act.put, List.setIfInBounds_toArray, List.set_cons_zero, List.set_cons_succ]
      refine wpAnyL_take (i := 8) (v := .int .i64 (m : Int)) (by simp only [List.getElem?_toArray, List.getElem?_cons_succ, List.getElem?_cons_zero]; rfl) (by as_aux_lemma => kernel_rfl) (by as_aux_lemma => kernel_rfl) (by as_aux_lemma => kernel_rfl) (fun _ _ _ h => h) (Or.inl ⟨by rfl, ?_⟩) hS ?_
      · intro U hU
        have s0 := hU
        show _ = _
        kernel_rfl
      simp only [Act.put, List.setIfInBounds_toArray, List.set_cons_zero, List.set_cons_succ]
      refine wpAnyL_take (i := 9) (v := .int .i64 (m : Int)) (by simp only [List.getElem?_toArray, List.getElem?_cons_succ, List.getElem?_cons_zero]; rfl) (by as_aux_lemma => kernel_rfl) (by as_aux_lemma => kernel_rfl) (by as_aux_lemma => kernel_rfl) (fun _ _ _ h => h) (Or.inl ⟨by rfl, ?_⟩) hS ?_
      · intro U hU
        have s0 := hU
        show _ = _
        kernel_rfl
      simp only [Act.put, List.setIfInBounds_toArray, List.set_cons_zero, List.set_cons_succ]
      refine wpAnyL_take (i := 10) (v := .int .i64 (m : Int)) (by simp only [List.getElem?_toArray, List.getElem?_cons_succ, List.getElem?_cons_zero]; rfl) (by as_aux_lemma => kernel_rfl) (by as_aux_lemma => kernel_rfl) (by as_aux_lemma => kernel_rfl) (fun _ _ _ h => h) (Or.inl ⟨by rfl, ?_⟩) hS ?_
      · intro U hU
        have s0 := hU
        show _ = _
        kernel_rfl
      simp only [Act.put, List.setIfInBounds_toArray, List.set_cons_zero, List.set_cons_succ]
      refine wpAnyL_take (i := 11) (v := .int .i64 (h : Int)) (by simp only [List.getElem?_toArray, List.getElem?_cons_succ, List.getElem?_cons_zero]; rfl) (by as_aux_lemma => kernel_rfl) (by as_aux_lemma => kernel_rfl) (by as_aux_lemma => kernel_rfl) (fun _ _ _ h => h) (Or.inl ⟨by rfl, ?_⟩) hS ?_
      · intro U hU
        have s0 := hU
        show _ = _
        obtain ⟨hz, hz2⟩ := HQ.out
        go_simp
      simp only [Act.put, List.setIfInBounds_toArray, List.set_cons_zero, List.set_cons_succ]
      refine wpAnyL_take (i := 13) (v := .agg #[.int .i64 a0, .int .i64 a1, .int .i64 a2, .int .i64 a3]) (by simp only [List.getElem?_toArray, List.getElem?_cons_succ, List.getElem?_cons_zero]; rfl) (by as_aux_lemma => kernel_rfl) (by as_aux_lemma => kernel_rfl) (by as_aux_lemma => kernel_rfl) (fun _ _ _ h => h) (Or.inl ⟨by rfl, ?_⟩) hS ?_
      · intro U hU
        have s0 := hU
        show _ = _
        exact exec_loadRow (cs := [.int .i64 a0, .int .i64 a1, .int .i64 a2, .int .i64 a3]) rfl rfl s0 (by kernel_rfl) (by kernel_rfl)
      simp only [Act.put, List.setIfInBounds_toArray, List.set_cons_zero, List.set_cons_succ]
      refine wpAnyL_take (i := 14) (v := .int .i64 (m : Int)) (by simp only [List.getElem?_toArray, List.getElem?_cons_succ, List.getElem?_cons_zero]; rfl) (by as_aux_lemma => kernel_rfl) (by as_aux_lemma => kernel_rfl) (by as_aux_lemma => kernel_rfl) (fun _ _ _ h => h) (Or.inl ⟨by rfl, ?_⟩) hS ?_
      · intro U hU
        have s0 := hU
        show _ = _
        kernel_rfl
      simp only [Act.put, List.setIfInBounds_toArray, List.set_cons_zero, List.set_cons_succ]
      refine wpAnyL_take (i := 15) (v := .int .i64 (m : Int)) (by simp only [List.getElem?_toArray, List.getElem?_cons_succ, List.getElem?_cons_zero]; rfl) (by as_aux_lemma => kernel_rfl) (by as_aux_lemma => kernel_rfl) (by as_aux_lemma => kernel_rfl) (fun _ _ _ h => h) (Or.inl ⟨by rfl, ?_⟩) hS ?_
      · intro U hU
        have s0 := hU
        show _ = _
        kernel_rfl
      simp only [Act.put, List.setIfInBounds_toArray, List.set_cons_zero, List.set_cons_succ]
      refine wpAnyL_take (i := 16) (v := .int .i64 (m : Int)) (by simp only [List.getElem?_toArray, List.getElem?_cons_succ, List.getElem?_cons_zero]; rfl) (by as_aux_lemma => kernel_rfl) (by as_aux_lemma => kernel_rfl) (by as_aux_lemma => kernel_rfl) (fun _ _ _ h => h) (Or.inl ⟨by rfl, ?_⟩) hS ?_
      · intro U hU
        have s0 := hU
        show _ = _
        kernel_rfl
      simp only [Act.put, List.setIfInBounds_toArray, List.set_cons_zero, List.set_cons_succ]
      refine wpAnyL_take (i := 17) (v := .int .i64 (h : Int)) (by simp only [List.getElem?_toArray, List.getElem?_cons_succ, List.getElem?_cons_zero]; rfl) (by as_aux_lemma => kernel_rfl) (by as_aux_lemma => kernel_rfl) (by as_aux_lemma => kernel_rfl) (fun _ _ _ h => h) (Or.inl ⟨by rfl, ?_⟩) hS ?_
      · intro U hU
        have s0 := hU
        show _ = _
        obtain ⟨hz, hz2⟩ := HQ.out
        go_simp
      simp only [Act.put, List.setIfInBounds_toArray, List.set_cons_zero, List.set_cons_succ]
      refine wpAnyL_take (i := 18) (v := .int .i64 (m : Int)) (by simp only [List.getElem?_toArray, List.getElem?_cons_succ, List.getElem?_cons_zero]; rfl) (by as_aux_lemma => kernel_rfl) (by as_aux_lemma => kernel_rfl) (by as_aux_lemma => kernel_rfl) (fun _ _ _ h => h) (Or.inl ⟨by rfl, ?_⟩) hS ?_
      · intro U hU
        have s0 := hU
        show _ = _
        kernel_rfl
      simp only [Act.put, List.setIfInBounds_toArray, List.set_cons_zero, List.set_cons_succ]
      refine wpAnyL_take (i := 19) (v := .int .i64 (h : Int)) (by simp only [List.getElem?_toArray, List.getElem?_cons_succ, List.getElem?_cons_zero]; rfl) (by as_aux_lemma => kernel_rfl) (by as_aux_lemma => kernel_rfl) (by as_aux_lemma => kernel_rfl) (fun _ _ _ h => h) (Or.inl ⟨by rfl, ?_⟩) hS ?_
      · intro U hU
        have s0 := hU
        show _ = _
        obtain ⟨hz, hz2⟩ := HQ.out
        go_simp
      simp only [Act.put, List.setIfInBounds_toArray, List.set_cons_zero, List.set_cons_succ]
      refine wpAnyL_ready (rs := [0, 6]) (by as_aux_lemma => kernel_rfl) (by simp) ?_
      refine AllReadyL.cons (by simp only [List.getElem?_toArray, List.getElem?_cons_succ, List.getElem?_cons_zero]; rfl) (fun K' hK' => ?_) (AllReadyL.cons (by simp only [List.getElem?_toArray, List.getElem?_cons_succ, List.getElem?_cons_zero]; rfl) (fun K' hK' => ?_) AllReadyL.nil)
      · go_simp
        have hbx := below_alloc (Below.refl V0.heap.size V0) (.cells #[.int .i64 1, .int .i64 2, .int .i64 3] 3)
        obtain ⟨gi, hgi⟩ : ∃ g, V0.heap.size = g := ⟨_, rfl⟩
        have xi := heap_alloc_new V0 (.cells #[.int .i64 1, .int .i64 2, .int .i64 3] 3)
        have li : V0.heap.size < (V0.alloc (.cells #[.int .i64 1, .int .i64 2, .int .i64 3] 3)).heap.size := by simp
        have yi : q + 1 ≤ V0.heap.size := Nat.le_trans hsz bV.size
        have b0 := below_alloc bV (.cells #[.int .i64 1, .int .i64 2, .int .i64 3] 3)
        generalize V0.alloc (.cells #[.int .i64 1, .int .i64 2, .int .i64 3] 3) = U0 at *
        rw [hgi] at xi li yi ⊢
        clear hgi hbx bV
        have hS := hSB _ (b0.mono hsz)
        refine hK'.out _ _ hS (fun _ => ?_)
        clear hK' K'
        try simp only [Act.put, List.setIfInBounds_toArray, List.set_cons_zero, List.set_cons_succ]
        refine wpAnyL_ready (rs := [6]) (by as_aux_lemma => kernel_rfl) (by simp) ?_
        refine AllReadyL.cons (by simp only [List.getElem?_toArray, List.getElem?_cons_succ, List.getElem?_cons_zero]; rfl) (fun K' hK' => ?_) AllReadyL.nil
        go_simp
        go_at_call 52
        refine (HO0.out _).mono ?_
        rintro e' U6 ⟨rfl, hb6⟩
        replace xi := (hb6.block gi li).trans xi
        replace li := Nat.lt_of_lt_of_le li hb6.size
        have b6 := below_trans b0 hb6
        have hS := hSB _ (b6.mono hsz)
        dsimp only
        refine hK'.out _ _ hS (fun _ => ?_)
        clear hb6 b0
        clear hK' K'
        try simp only [Act.put, List.setIfInBounds_toArray, List.set_cons_zero, List.set_cons_succ]
        refine wpAnyL_ready (rs := [12]) (by as_aux_lemma => kernel_rfl) (by simp) ?_
        refine AllReadyL.cons (by simp only [List.getElem?_toArray, List.getElem?_cons_succ, List.getElem?_cons_zero]; rfl) (fun K' hK' => ?_) AllReadyL.nil
        go_simp
        go_at_call 52
        refine (HO1.out _).mono ?_
        rintro e' U12 ⟨rfl, hb12⟩
        replace xi := (hb12.block gi li).trans xi
        replace li := Nat.lt_of_lt_of_le li hb12.size
        have b12 := below_trans b6 hb12
        have hS := hSB _ (b12.mono hsz)
        dsimp only
        refine hK'.out _ _ hS (fun _ => ?_)
        clear hb12 b6
        clear hK' K'
        try simp only [Act.put, List.setIfInBounds_toArray, List.set_cons_zero, List.set_cons_succ]
        refine wpAnyL_ready (rs := [20]) (by as_aux_lemma => kernel_rfl) (by simp) ?_
        refine AllReadyL.cons (by simp only [List.getElem?_toArray, List.getElem?_cons_succ, List.getElem?_cons_zero]; rfl) (fun K' hK' => ?_) AllReadyL.nil
        go_simp
        go_at_call 52
        refine (HO2.out _).mono ?_
        rintro e' U20 ⟨rfl, hb20⟩
        replace xi := (hb20.block gi li).trans xi
        replace li := Nat.lt_of_lt_of_le li hb20.size
        have b20 := below_trans b12 hb20
        have hS := hSB _ (b20.mono hsz)
        dsimp only
        refine hK'.out _ _ hS (fun _ => ?_)
        clear hb20 b12
        clear hK' K'
        try simp only [Act.put, List.setIfInBounds_toArray, List.set_cons_zero, List.set_cons_succ]
        refine wpAnyL_take (i := 22) (v := .slice (some ⟨gi, 0, none⟩) 3 3) (by simp only [List.getElem?_toArray, List.getElem?_cons_succ, List.getElem?_cons_zero]; rfl) (by as_aux_lemma => kernel_rfl) (by as_aux_lemma => kernel_rfl) (by as_aux_lemma => kernel_rfl) (fun _ _ _ h => h) (Or.inl ⟨by rfl, ?_⟩) hS ?_
        · intro U hU
          have s0 := hU
          show _ = _
          kernel_rfl
        simp only [Act.put, List.setIfInBounds_toArray, List.set_cons_zero, List.set_cons_succ]
        refine wpAnyL_ready (rs := [21]) (by as_aux_lemma => kernel_rfl) (by simp) ?_
        refine AllReadyL.cons (by simp only [List.getElem?_toArray, List.getElem?_cons_succ, List.getElem?_cons_zero]; rfl) (fun K' hK' => ?_) AllReadyL.nil
        go_simp
        have hbx := below_alloc (Below.refl U20.heap.size U20) (.cells #[.int .i64 r00, .int .i64 r01, .int .i64 r02, .int .i64 r03, .int .i64 r10, .int .i64 r11, .int .i64 r12, .int .i64 r13, .int .i64 r20, .int .i64 r21, .int .i64 r22, .int .i64 r23] 53)
        replace xi := (hbx.block gi li).trans xi
        replace li := Nat.lt_of_lt_of_le li hbx.size
        obtain ⟨gx, hgx⟩ : ∃ g, U20.heap.size = g := ⟨_, rfl⟩
        have xx := heap_alloc_new U20 (.cells #[.int .i64 r00, .int .i64 r01, .int .i64 r02, .int .i64 r03, .int .i64 r10, .int .i64 r11, .int .i64 r12, .int .i64 r13, .int .i64 r20, .int .i64 r21, .int .i64 r22, .int .i64 r23] 53)
        have lx : U20.heap.size < (U20.alloc (.cells #[.int .i64 r00, .int .i64 r01, .int .i64 r02, .int .i64 r03, .int .i64 r10, .int .i64 r11, .int .i64 r12, .int .i64 r13, .int .i64 r20, .int .i64 r21, .int .i64 r22, .int .i64 r23] 53)).heap.size := by simp
        have yx : q + 1 ≤ U20.heap.size := Nat.le_trans hsz b20.size
        have b21 := below_alloc b20 (.cells #[.int .i64 r00, .int .i64 r01, .int .i64 r02, .int .i64 r03, .int .i64 r10, .int .i64 r11, .int .i64 r12, .int .i64 r13, .int .i64 r20, .int .i64 r21, .int .i64 r22, .int .i64 r23] 53)
        generalize U20.alloc (.cells #[.int .i64 r00, .int .i64 r01, .int .i64 r02, .int .i64 r03, .int .i64 r10, .int .i64 r11, .int .i64 r12, .int .i64 r13, .int .i64 r20, .int .i64 r21, .int .i64 r22, .int .i64 r23] 53) = U21 at *
        rw [hgx] at xx lx yx ⊢
        clear hgx hbx b20
        have hS := hSB _ (b21.mono hsz)
        refine hK'.out _ _ hS (fun _ => ?_)
        clear hK' K'
        try simp only [Act.put, List.setIfInBounds_toArray, List.set_cons_zero, List.set_cons_succ]
        refine wpAnyL_take (i := 23) (v := .slice (some ⟨gx, 0, none⟩) 3 3) (by simp only [List.getElem?_toArray, List.getElem?_cons_succ, List.getElem?_cons_zero]; rfl) (by as_aux_lemma => kernel_rfl) (by as_aux_lemma => kernel_rfl) (by as_aux_lemma => kernel_rfl) (fun _ _ _ h => h) (Or.inl ⟨by rfl, ?_⟩) hS ?_
        · intro U hU
          have s0 := hU
          show _ = _
          kernel_rfl
        simp only [Act.put, List.setIfInBounds_toArray, List.set_cons_zero, List.set_cons_succ]
        refine wpAnyL_done (by as_aux_lemma => kernel_rfl) ?_ _
        simp only [OnlyN]
        refine ⟨gi, gx, ?_, xi, xx, yi, yx, b21.mono hsz⟩
        (try simp only [Act.put, List.setIfInBounds_toArray, List.set_cons_zero, List.set_cons_succ])
      · go_simp
        go_at_call 52
        refine (HO0.out _).mono ?_
        rintro e' U6 ⟨rfl, hb6⟩
        have b6 := below_trans bV hb6
        have hS := hSB _ (b6.mono hsz)
        dsimp only
        refine hK'.out _ _ hS (fun _ => ?_)
        clear hb6 bV
        clear hK' K'
        try simp only [Act.put, List.setIfInBounds_toArray, List.set_cons_zero, List.set_cons_succ]
        refine wpAnyL_ready (rs := [0, 12]) (by as_aux_lemma => kernel_rfl) (by simp) ?_
        refine AllReadyL.cons (by simp only [List.getElem?_toArray, List.getElem?_cons_succ, List.getElem?_cons_zero]; rfl) (fun K' hK' => ?_) (AllReadyL.cons (by simp only [List.getElem?_toArray, List.getElem?_cons_succ, List.getElem?_cons_zero]; rfl) (fun K' hK' => ?_) AllReadyL.nil)
        · go_simp
          have hbx := below_alloc (Below.refl U6.heap.size U6) (.cells #[.int .i64 1, .int .i64 2, .int .i64 3] 3)
          obtain ⟨gi, hgi⟩ : ∃ g, U6.heap.size = g := ⟨_, rfl⟩
          have xi := heap_alloc_new U6 (.cells #[.int .i64 1, .int .i64 2, .int .i64 3] 3)
          have li : U6.heap.size < (U6.alloc (.cells #[.int .i64 1, .int .i64 2, .int .i64 3] 3)).heap.size := by simp
          have yi : q + 1 ≤ U6.heap.size := Nat.le_trans hsz b6.size
          have b0 := below_alloc b6 (.cells #[.int .i64 1, .int .i64 2, .int .i64 3] 3)
          generalize U6.alloc (.cells #[.int .i64 1, .int .i64 2, .int .i64 3] 3) = U0 at *
          rw [hgi] at xi li yi ⊢
          clear hgi hbx b6
          have hS := hSB _ (b0.mono hsz)
          refine hK'.out _ _ hS (fun _ => ?_)
          clear hK' K'
          try simp only [Act.put, List.setIfInBounds_toArray, List.set_cons_zero, List.set_cons_succ]
          refine wpAnyL_ready (rs := [12]) (by as_aux_lemma => kernel_rfl) (by simp) ?_
          refine AllReadyL.cons (by simp only [List.getElem?_toArray, List.getElem?_cons_succ, List.getElem?_cons_zero]; rfl) (fun K' hK' => ?_) AllReadyL.nil
          go_simp
          go_at_call 52
          refine (HO1.out _).mono ?_
          rintro e' U12 ⟨rfl, hb12⟩
          replace xi := (hb12.block gi li).trans xi
          replace li := Nat.lt_of_lt_of_le li hb12.size
          have b12 := below_trans b0 hb12
          have hS := hSB _ (b12.mono hsz)
          dsimp only
          refine hK'.out _ _ hS (fun _ => ?_)
          clear hb12 b0
          clear hK' K'
          try simp only [Act.put, List.setIfInBounds_toArray, List.set_cons_zero, List.set_cons_succ]
          refine wpAnyL_ready (rs := [20]) (by as_aux_lemma => kernel_rfl) (by simp) ?_
          refine AllReadyL.cons (by simp only [List.getElem?_toArray, List.getElem?_cons_succ, List.getElem?_cons_zero]; rfl) (fun K' hK' => ?_) AllReadyL.nil
          go_simp
          go_at_call 52
          refine (HO2.out _).mono ?_
          rintro e' U20 ⟨rfl, hb20⟩
          replace xi := (hb20.block gi li).trans xi
          replace li := Nat.lt_of_lt_of_le li hb20.size
          have b20 := below_trans b12 hb20
          have hS := hSB _ (b20.mono hsz)
          dsimp only
          refine hK'.out _ _ hS (fun _ => ?_)
          clear hb20 b12
          clear hK' K'
          try simp only [Act.put, List.setIfInBounds_toArray, List.set_cons_zero, List.set_cons_succ]
          refine wpAnyL_take (i := 22) (v := .slice (some ⟨gi, 0, none⟩) 3 3) (by simp only [List.getElem?_toArray, List.getElem?_cons_succ, List.getElem?_cons_zero]; rfl) (by as_aux_lemma => kernel_rfl) (by as_aux_lemma => kernel_rfl) (by as_aux_lemma => kernel_rfl) (fun _ _ _ h => h) (Or.inl ⟨by rfl, ?_⟩) hS ?_
          · intro U hU
            have s0 := hU
            show _ = _
            kernel_rfl
          simp only [Act.put, List.setIfInBounds_toArray, List.set_cons_zero, List.set_cons_succ]
          refine wpAnyL_ready (rs := [21]) (by as_aux_lemma => kernel_rfl) (by simp) ?_
          refine AllReadyL.cons (by simp only [List.getElem?_toArray, List.getElem?_cons_succ, List.getElem?_cons_zero]; rfl) (fun K' hK' => ?_) AllReadyL.nil
          go_simp
          have hbx := below_alloc (Below.refl U20.heap.size U20) (.cells #[.int .i64 r00, .int .i64 r01, .int .i64 r02, .int .i64 r03, .int .i64 r10, .int .i64 r11, .int .i64 r12, .int .i64 r13, .int .i64 r20, .int .i64 r21, .int .i64 r22, .int .i64 r23] 53)
          replace xi := (hbx.block gi li).trans xi
          replace li := Nat.lt_of_lt_of_le li hbx.size
          obtain ⟨gx, hgx⟩ : ∃ g, U20.heap.size = g := ⟨_, rfl⟩
          have xx := heap_alloc_new U20 (.cells #[.int .i64 r00, .int .i64 r01, .int .i64 r02, .int .i64 r03, .int .i64 r10, .int .i64 r11, .int .i64 r12, .int .i64 r13, .int .i64 r20, .int .i64 r21, .int .i64 r22, .int .i64 r23] 53)
          have lx : U20.heap.size < (U20.alloc (.cells #[.int .i64 r00, .int .i64 r01, .int .i64 r02, .int .i64 r03, .int .i64 r10, .int .i64 r11, .int .i64 r12, .int .i64 r13, .int .i64 r20, .int .i64 r21, .int .i64 r22, .int .i64 r23] 53)).heap.size := by simp
          have yx : q + 1 ≤ U20.heap.size := Nat.le_trans hsz b20.size
          have b21 := below_alloc b20 (.cells #[.int .i64 r00, .int .i64 r01, .int .i64 r02, .int .i64 r03, .int .i64 r10, .int .i64 r11, .int .i64 r12, .int .i64 r13, .int .i64 r20, .int .i64 r21, .int .i64 r22, .int .i64 r23] 53)
          generalize U20.alloc (.cells #[.int .i64 r00, .int .i64 r01, .int .i64 r02, .int .i64 r03, .int .i64 r10, .int .i64 r11, .int .i64 r12, .int .i64 r13, .int .i64 r20, .int .i64 r21, .int .i64 r22, .int .i64 r23] 53) = U21 at *
          rw [hgx] at xx lx yx ⊢
          clear hgx hbx b20
          have hS := hSB _ (b21.mono hsz)
          refine hK'.out _ _ hS (fun _ => ?_)
          clear hK' K'
          try simp only [Act.put, List.setIfInBounds_toArray, List.set_cons_zero, List.set_cons_succ]
          refine wpAnyL_take (i := 23) (v := .slice (some ⟨gx, 0, none⟩) 3 3) (by simp only [List.getElem?_toArray, List.getElem?_cons_succ, List.getElem?_cons_zero]; rfl) (by as_aux_lemma => kernel_rfl) (by as_aux_lemma => kernel_rfl) (by as_aux_lemma => kernel_rfl) (fun _ _ _ h => h) (Or.inl ⟨by rfl, ?_⟩) hS ?_
          · intro U hU
            have s0 := hU
            show _ = _
            kernel_rfl
          simp only [Act.put, List.setIfInBounds_toArray, List.set_cons_zero, List.set_cons_succ]
          refine wpAnyL_done (by as_aux_lemma => kernel_rfl) ?_ _
          simp only [OnlyN]
          refine ⟨gi, gx, ?_, xi, xx, yi, yx, b21.mono hsz⟩
          (try simp only [Act.put, List.setIfInBounds_toArray, List.set_cons_zero, List.set_cons_succ])
        · go_simp
          go_at_call 52
          refine (HO1.out _).mono ?_
          rintro e' U12 ⟨rfl, hb12⟩
          have b12 := below_trans b6 hb12
          have hS := hSB _ (b12.mono hsz)
          dsimp only
          refine hK'.out _ _ hS (fun _ => ?_)
          clear hb12 b6
          clear hK' K'
          try simp only [Act.put, List.setIfInBounds_toArray, List.set_cons_zero, List.set_cons_succ]
          refine wpAnyL_ready (rs := [0, 20]) (by as_aux_lemma => kernel_rfl) (by simp) ?_
          refine AllReadyL.cons (by simp only [List.getElem?_toArray, List.getElem?_cons_succ, List.getElem?_cons_zero]; rfl) (fun K' hK' => ?_) (AllReadyL.cons (by simp only [List.getElem?_toArray, List.getElem?_cons_succ, List.getElem?_cons_zero]; rfl) (fun K' hK' => ?_) AllReadyL.nil)
          · go_simp
            have hbx := below_alloc (Below.refl U12.heap.size U12) (.cells #[.int .i64 1, .int .i64 2, .int .i64 3] 3)
            obtain ⟨gi, hgi⟩ : ∃ g, U12.heap.size = g := ⟨_, rfl⟩
            have xi := heap_alloc_new U12 (.cells #[.int .i64 1, .int .i64 2, .int .i64 3] 3)
            have li : U12.heap.size < (U12.alloc (.cells #[.int .i64 1, .int .i64 2, .int .i64 3] 3)).heap.size := by simp
            have yi : q + 1 ≤ U12.heap.size := Nat.le_trans hsz b12.size
            have b0 := below_alloc b12 (.cells #[.int .i64 1, .int .i64 2, .int .i64 3] 3)
            generalize U12.alloc (.cells #[.int .i64 1, .int .i64 2, .int .i64 3] 3) = U0 at *
            rw [hgi] at xi li yi ⊢
            clear hgi hbx b12
            have hS := hSB _ (b0.mono hsz)
            refine hK'.out _ _ hS (fun _ => ?_)
            clear hK' K'
            try simp only [Act.put, List.setIfInBounds_toArray, List.set_cons_zero, List.set_cons_succ]
            refine wpAnyL_ready (rs := [20]) (by as_aux_lemma => kernel_rfl) (by simp) ?_
            refine AllReadyL.cons (by simp only [List.getElem?_toArray, List.getElem?_cons_succ, List.getElem?_cons_zero]; rfl) (fun K' hK' => ?_) AllReadyL.nil
            go_simp
            go_at_call 52
            refine (HO2.out _).mono ?_
            rintro e' U20 ⟨rfl, hb20⟩
            replace xi := (hb20.block gi li).trans xi
            replace li := Nat.lt_of_lt_of_le li hb20.size
            have b20 := below_trans b0 hb20
            have hS := hSB _ (b20.mono hsz)
            dsimp only
            refine hK'.out _ _ hS (fun _ => ?_)
            clear hb20 b0
            clear hK' K'
            try simp only [Act.put, List.setIfInBounds_toArray, List.set_cons_zero, List.set_cons_succ]
            refine wpAnyL_take (i := 22) (v := .slice (some ⟨gi, 0, none⟩) 3 3) (by simp only [List.getElem?_toArray, List.getElem?_cons_succ, List.getElem?_cons_zero]; rfl) (by as_aux_lemma => kernel_rfl) (by as_aux_lemma => kernel_rfl) (by as_aux_lemma => kernel_rfl) (fun _ _ _ h => h) (Or.inl ⟨by rfl, ?_⟩) hS ?_
            · intro U hU
              have s0 := hU
              show _ = _
              kernel_rfl
            simp only [Act.put, List.setIfInBounds_toArray, List.set_cons_zero, List.set_cons_succ]
            refine wpAnyL_ready (rs := [21]) (by as_aux_lemma => kernel_rfl) (by simp) ?_
            refine AllReadyL.cons (by simp only [List.getElem?_toArray, List.getElem?_cons_succ, List.getElem?_cons_zero]; rfl) (fun K' hK' => ?_) AllReadyL.nil
            go_simp
            have hbx := below_alloc (Below.refl U20.heap.size U20) (.cells #[.int .i64 r00, .int .i64 r01, .int .i64 r02, .int .i64 r03, .int .i64 r10, .int .i64 r11, .int .i64 r12, .int .i64 r13, .int .i64 r20, .int .i64 r21, .int .i64 r22, .int .i64 r23] 53)
            replace xi := (hbx.block gi li).trans xi
            replace li := Nat.lt_of_lt_of_le li hbx.size
            obtain ⟨gx, hgx⟩ : ∃ g, U20.heap.size = g := ⟨_, rfl⟩
            have xx := heap_alloc_new U20 (.cells #[.int .i64 r00, .int .i64 r01, .int .i64 r02, .int .i64 r03, .int .i64 r10, .int .i64 r11, .int .i64 r12, .int .i64 r13, .int .i64 r20, .int .i64 r21, .int .i64 r22, .int .i64 r23] 53)
            have lx : U20.heap.size < (U20.alloc (.cells #[.int .i64 r00, .int .i64 r01, .int .i64 r02, .int .i64 r03, .int .i64 r10, .int .i64 r11, .int .i64 r12, .int .i64 r13, .int .i64 r20, .int .i64 r21, .int .i64 r22, .int .i64 r23] 53)).heap.size := by simp
            have yx : q + 1 ≤ U20.heap.size := Nat.le_trans hsz b20.size
            have b21 := below_alloc b20 (.cells #[.int .i64 r00, .int .i64 r01, .int .i64 r02, .int .i64 r03, .int .i64 r10, .int .i64 r11, .int .i64 r12, .int .i64 r13, .int .i64 r20, .int .i64 r21, .int .i64 r22, .int .i64 r23] 53)
            generalize U20.alloc (.cells #[.int .i64 r00, .int .i64 r01, .int .i64 r02, .int .i64 r03, .int .i64 r10, .int .i64 r11, .int .i64 r12, .int .i64 r13, .int .i64 r20, .int .i64 r21, .int .i64 r22, .int .i64 r23] 53) = U21 at *
            rw [hgx] at xx lx yx ⊢
            clear hgx hbx b20
            have hS := hSB _ (b21.mono hsz)
            refine hK'.out _ _ hS (fun _ => ?_)
            clear hK' K'
            try simp only [Act.put, List.setIfInBounds_toArray, List.set_cons_zero, List.set_cons_succ]
            refine wpAnyL_take (i := 23) (v := .slice (some ⟨gx, 0, none⟩) 3 3) (by simp only [List.getElem?_toArray, List.getElem?_cons_succ, List.getElem?_cons_zero]; rfl) (by as_aux_lemma => kernel_rfl) (by as_aux_lemma => kernel_rfl) (by as_aux_lemma => kernel_rfl) (fun _ _ _ h => h) (Or.inl ⟨by rfl, ?_⟩) hS ?_
            · intro U hU
              have s0 := hU
              show _ = _
              kernel_rfl
            simp only [Act.put, List.setIfInBounds_toArray, List.set_cons_zero, List.set_cons_succ]
            refine wpAnyL_done (by as_aux_lemma => kernel_rfl) ?_ _
            simp only [OnlyN]
            refine ⟨gi, gx, ?_, xi, xx, yi, yx, b21.mono hsz⟩
            (try simp only [Act.put, List.setIfInBounds_toArray, List.set_cons_zero, List.set_cons_succ])
          · go_simp
            go_at_call 52
            refine (HO2.out _).mono ?_
            rintro e' U20 ⟨rfl, hb20⟩
            have b20 := below_trans b12 hb20
            have hS := hSB _ (b20.mono hsz)
            dsimp only
            refine hK'.out _ _ hS (fun _ => ?_)
            clear hb20 b12
            clear hK' K'
            try simp only [Act.put, List.setIfInBounds_toArray, List.set_cons_zero, List.set_cons_succ]
            refine wpAnyL_ready (rs := [0, 21]) (by as_aux_lemma => kernel_rfl) (by simp) ?_
            refine AllReadyL.cons (by simp only [List.getElem?_toArray, List.getElem?_cons_succ, List.getElem?_cons_zero]; rfl) (fun K' hK' => ?_) (AllReadyL.cons (by simp only [List.getElem?_toArray, List.getElem?_cons_succ, List.getElem?_cons_zero]; rfl) (fun K' hK' => ?_) AllReadyL.nil)
            · go_simp
              have hbx := below_alloc (Below.refl U20.heap.size U20) (.cells #[.int .i64 1, .int .i64 2, .int .i64 3] 3)
              obtain ⟨gi, hgi⟩ : ∃ g, U20.heap.size = g := ⟨_, rfl⟩
              have xi := heap_alloc_new U20 (.cells #[.int .i64 1, .int .i64 2, .int .i64 3] 3)
              have li : U20.heap.size < (U20.alloc (.cells #[.int .i64 1, .int .i64 2, .int .i64 3] 3)).heap.size := by simp
              have yi : q + 1 ≤ U20.heap.size := Nat.le_trans hsz b20.size
              have b0 := below_alloc b20 (.cells #[.int .i64 1, .int .i64 2, .int .i64 3] 3)
              generalize U20.alloc (.cells #[.int .i64 1, .int .i64 2, .int .i64 3] 3) = U0 at *
              rw [hgi] at xi li yi ⊢
              clear hgi hbx b20
              have hS := hSB _ (b0.mono hsz)
              refine hK'.out _ _ hS (fun _ => ?_)
              clear hK' K'
              try simp only [Act.put, List.setIfInBounds_toArray, List.set_cons_zero, List.set_cons_succ]
              refine wpAnyL_take (i := 22) (v := .slice (some ⟨gi, 0, none⟩) 3 3) (by simp only [List.getElem?_toArray, List.getElem?_cons_succ, List.getElem?_cons_zero]; rfl) (by as_aux_lemma => kernel_rfl) (by as_aux_lemma => kernel_rfl) (by as_aux_lemma => kernel_rfl) (fun _ _ _ h => h) (Or.inl ⟨by rfl, ?_⟩) hS ?_
              · intro U hU
                have s0 := hU
                show _ = _
                kernel_rfl
              simp only [Act.put, List.setIfInBounds_toArray, List.set_cons_zero, List.set_cons_succ]
              refine wpAnyL_ready (rs := [21]) (by as_aux_lemma => kernel_rfl) (by simp) ?_
              refine AllReadyL.cons (by simp only [List.getElem?_toArray, List.getElem?_cons_succ, List.getElem?_cons_zero]; rfl) (fun K' hK' => ?_) AllReadyL.nil
              go_simp
              have hbx := below_alloc (Below.refl U0.heap.size U0) (.cells #[.int .i64 r00, .int .i64 r01, .int .i64 r02, .int .i64 r03, .int .i64 r10, .int .i64 r11, .int .i64 r12, .int .i64 r13, .int .i64 r20, .int .i64 r21, .int .i64 r22, .int .i64 r23] 53)
              replace xi := (hbx.block gi li).trans xi
              replace li := Nat.lt_of_lt_of_le li hbx.size
              obtain ⟨gx, hgx⟩ : ∃ g, U0.heap.size = g := ⟨_, rfl⟩
              have xx := heap_alloc_new U0 (.cells #[.int .i64 r00, .int .i64 r01, .int .i64 r02, .int .i64 r03, .int .i64 r10, .int .i64 r11, .int .i64 r12, .int .i64 r13, .int .i64 r20, .int .i64 r21, .int .i64 r22, .int .i64 r23] 53)
              have lx : U0.heap.size < (U0.alloc (.cells #[.int .i64 r00, .int .i64 r01, .int .i64 r02, .int .i64 r03, .int .i64 r10, .int .i64 r11, .int .i64 r12, .int .i64 r13, .int .i64 r20, .int .i64 r21, .int .i64 r22, .int .i64 r23] 53)).heap.size := by simp
              have yx : q + 1 ≤ U0.heap.size := Nat.le_trans hsz b0.size
              have b21 := below_alloc b0 (.cells #[.int .i64 r00, .int .i64 r01, .int .i64 r02, .int .i64 r03, .int .i64 r10, .int .i64 r11, .int .i64 r12, .int .i64 r13, .int .i64 r20, .int .i64 r21, .int .i64 r22, .int .i64 r23] 53)
              generalize U0.alloc (.cells #[.int .i64 r00, .int .i64 r01, .int .i64 r02, .int .i64 r03, .int .i64 r10, .int .i64 r11, .int .i64 r12, .int .i64 r13, .int .i64 r20, .int .i64 r21, .int .i64 r22, .int .i64 r23] 53) = U21 at *
              rw [hgx] at xx lx yx ⊢
              clear hgx hbx b0
              have hS := hSB _ (b21.mono hsz)
              refine hK'.out _ _ hS (fun _ => ?_)
              clear hK' K'
              try simp only [Act.put, List.setIfInBounds_toArray, List.set_cons_zero, List.set_cons_succ]
              refine wpAnyL_take (i := 23) (v := .slice (some ⟨gx, 0, none⟩) 3 3) (by simp only [List.getElem?_toArray, List.getElem?_cons_succ, List.getElem?_cons_zero]; rfl) (by as_aux_lemma => kernel_rfl) (by as_aux_lemma => kernel_rfl) (by as_aux_lemma => kernel_rfl) (fun _ _ _ h => h) (Or.inl ⟨by rfl, ?_⟩) hS ?_
              · intro U hU
                have s0 := hU
                show _ = _
                kernel_rfl
              simp only [Act.put, List.setIfInBounds_toArray, List.set_cons_zero, List.set_cons_succ]
              refine wpAnyL_done (by as_aux_lemma => kernel_rfl) ?_ _
              simp only [OnlyN]
              refine ⟨gi, gx, ?_, xi, xx, yi, yx, b21.mono hsz⟩
              (try simp only [Act.put, List.setIfInBounds_toArray, List.set_cons_zero, List.set_cons_succ])
            · go_simp
              have hbx := below_alloc (Below.refl U20.heap.size U20) (.cells #[.int .i64 r00, .int .i64 r01, .int .i64 r02, .int .i64 r03, .int .i64 r10, .int .i64 r11, .int .i64 r12, .int .i64 r13, .int .i64 r20, .int .i64 r21, .int .i64 r22, .int .i64 r23] 53)
              obtain ⟨gx, hgx⟩ : ∃ g, U20.heap.size = g := ⟨_, rfl⟩
              have xx := heap_alloc_new U20 (.cells #[.int .i64 r00, .int .i64 r01, .int .i64 r02, .int .i64 r03, .int .i64 r10, .int .i64 r11, .int .i64 r12, .int .i64 r13, .int .i64 r20, .int .i64 r21, .int .i64 r22, .int .i64 r23] 53)
              have lx : U20.heap.size < (U20.alloc (.cells #[.int .i64 r00, .int .i64 r01, .int .i64 r02, .int .i64 r03, .int .i64 r10, .int .i64 r11, .int .i64 r12, .int .i64 r13, .int .i64 r20, .int .i64 r21, .int .i64 r22, .int .i64 r23] 53)).heap.size := by simp
              have yx : q + 1 ≤ U20.heap.size := Nat.le_trans hsz b20.size
              have b21 := below_alloc b20 (.cells #[.int .i64 r00, .int .i64 r01, .int .i64 r02, .int .i64 r03, .int .i64 r10, .int .i64 r11, .int .i64 r12, .int .i64 r13, .int .i64 r20, .int .i64 r21, .int .i64 r22, .int .i64 r23] 53)
              generalize U20.alloc (.cells #[.int .i64 r00, .int .i64 r01, .int .i64 r02, .int .i64 r03, .int .i64 r10, .int .i64 r11, .int .i64 r12, .int .i64 r13, .int .i64 r20, .int .i64 r21, .int .i64 r22, .int .i64 r23] 53) = U21 at *
              rw [hgx] at xx lx yx ⊢
              clear hgx hbx b20
              have hS := hSB _ (b21.mono hsz)
              refine hK'.out _ _ hS (fun _ => ?_)
              clear hK' K'
              try simp only [Act.put, List.setIfInBounds_toArray, List.set_cons_zero, List.set_cons_succ]
              refine wpAnyL_ready (rs := [0]) (by as_aux_lemma => kernel_rfl) (by simp) ?_
              refine AllReadyL.cons (by simp only [List.getElem?_toArray, List.getElem?_cons_succ, List.getElem?_cons_zero]; rfl) (fun K' hK' => ?_) AllReadyL.nil
              go_simp
              have hbx := below_alloc (Below.refl U21.heap.size U21) (.cells #[.int .i64 1, .int .i64 2, .int .i64 3] 3)
              replace xx := (hbx.block gx lx).trans xx
              replace lx := Nat.lt_of_lt_of_le lx hbx.size
              obtain ⟨gi, hgi⟩ : ∃ g, U21.heap.size = g := ⟨_, rfl⟩
              have xi := heap_alloc_new U21 (.cells #[.int .i64 1, .int .i64 2, .int .i64 3] 3)
              have li : U21.heap.size < (U21.alloc (.cells #[.int .i64 1, .int .i64 2, .int .i64 3] 3)).heap.size := by simp
              have yi : q + 1 ≤ U21.heap.size := Nat.le_trans hsz b21.size
              have b0 := below_alloc b21 (.cells #[.int .i64 1, .int .i64 2, .int .i64 3] 3)
              generalize U21.alloc (.cells #[.int .i64 1, .int .i64 2, .int .i64 3] 3) = U0 at *
              rw [hgi] at xi li yi ⊢
              clear hgi hbx b21
              have hS := hSB _ (b0.mono hsz)
              refine hK'.out _ _ hS (fun _ => ?_)
              clear hK' K'
              try simp only [Act.put, List.setIfInBounds_toArray, List.set_cons_zero, List.set_cons_succ]
              refine wpAnyL_take (i := 22) (v := .slice (some ⟨gi, 0, none⟩) 3 3) (by simp only [List.getElem?_toArray, List.getElem?_cons_succ, List.getElem?_cons_zero]; rfl) (by as_aux_lemma => kernel_rfl) (by as_aux_lemma => kernel_rfl) (by as_aux_lemma => kernel_rfl) (fun _ _ _ h => h) (Or.inl ⟨by rfl, ?_⟩) hS ?_
              · intro U hU
                have s0 := hU
                show _ = _
                kernel_rfl
              simp only [Act.put, List.setIfInBounds_toArray, List.set_cons_zero, List.set_cons_succ]
              refine wpAnyL_take (i := 23) (v := .slice (some ⟨gx, 0, none⟩) 3 3) (by simp only [List.getElem?_toArray, List.getElem?_cons_succ, List.getElem?_cons_zero]; rfl) (by as_aux_lemma => kernel_rfl) (by as_aux_lemma => kernel_rfl) (by as_aux_lemma => kernel_rfl) (fun _ _ _ h => h) (Or.inl ⟨by rfl, ?_⟩) hS ?_
              · intro U hU
                have s0 := hU
                show _ = _
                kernel_rfl
              simp only [Act.put, List.setIfInBounds_toArray, List.set_cons_zero, List.set_cons_succ]
              refine wpAnyL_done (by as_aux_lemma => kernel_rfl) ?_ _
              simp only [OnlyN]
              refine ⟨gi, gx, ?_, xi, xx, yi, yx, b0.mono hsz⟩
              (try simp only [Act.put, List.setIfInBounds_toArray, List.set_cons_zero, List.set_cons_succ])
    rintro a' V2 ⟨gi, gx, rfl, xi, xx, yi, yx, h2⟩
    simp only [Act.put, List.setIfInBounds_toArray, List.set_cons_zero, List.set_cons_succ]
    have bz := bb.trans (h2.mono (show q ≤ q + 1 by omega))
    go_wp2_with fail
    refine bodyPost_ret (v := .tuple #[.slice (some ⟨gi, 0, none⟩) 3 3, .slice (some ⟨gx, 0, none⟩) 3 3]) (by simp [results, Try.results26, go_sem]) rfl ?_
    refine ⟨_, _, _, _, rfl, ?_, ?_, by rw [hqs]; exact bz⟩
    · refine OwnI.of_block xi (by omega) (by unfold maxLen; omega) ?_
      simp only [HKI.out]
      rfl
    · refine OwnC.of_block xx (by omega) (fun _ => rfl) (by unfold maxLen; omega) ?_
      rw [show (List.range 3) = [0, 1, 2] from rfl]
      simp only [List.flatMap_cons, List.flatMap_nil, F0.out, F1.out, F2.out]
      rfl
end Go.Proofs.Ytmieoifagnpbiaa
