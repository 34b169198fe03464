/- waveletref16.less, merge, sorted: a sort by merging. -/
import Derived.Test.YtpgkdpoehkdhcaaOrdM
import Derived.Deep.LoopGhost
import Derived.Deep.CutBlock
namespace Go.Proofs.Ytpgkdpoehkdhcaa
open Go.RowKit Go.Sort
set_option maxHeartbeats 1000000
set_option linter.unusedVariables false

def leS (a b : Spot) : Bool := !ltS b a
theorem leS_true {a b : Spot} : leS a b = true ↔ ltS b a = false := by unfold leS; simp
theorem leS_trans (a b c : Spot) (h1 : leS a b = true) (h2 : leS b c = true) : leS a c = true := by
  rw [leS_true] at *
  exact decide_eq_false (lexL_ntrans (rk c) (rk b) (rk a) rfl rfl (of_decide_eq_false h2) (of_decide_eq_false h1))
theorem leS_total (a b : Spot) : (leS a b || leS b a) = true := by
  rw [Bool.or_eq_true, leS_true, leS_true]
  by_cases h : ltS b a = true
  · right
    rw [Bool.eq_false_iff]
    intro h2
    exact lexL_irrefl _ (lexL_trans (rk a) (rk b) (rk a) (of_decide_eq_true h2) (of_decide_eq_true h))
  · left; simpa using h
def mergeS (A B : List Spot) : List Spot := List.merge A B leS
theorem mergeS_perm (A B : List Spot) : (mergeS A B).Perm (A ++ B) := List.merge_perm_append leS
theorem mergeS_sorted {A B : List Spot} (ha : A.Pairwise (fun a b => ltS b a = false)) (hb : B.Pairwise (fun a b => ltS b a = false)) : (mergeS A B).Pairwise (fun a b => ltS b a = false) := by
  have h := List.pairwise_merge (le := leS) leS_trans leS_total A B (ha.imp (fun h => leS_true.2 h)) (hb.imp (fun h => leS_true.2 h))
  exact h.imp (fun h => leS_true.1 h)
theorem drop_get {A : List Spot} {i : Nat} (h : i < A.length) : A.drop i = (A[i]?.getD default) :: A.drop (i + 1) := by
  rw [List.drop_eq_getElem_cons h, List.getElem?_eq_getElem h]; rfl
theorem mergeS_nil (A : List Spot) : mergeS A [] = A := by unfold mergeS; simp
theorem nil_mergeS (A : List Spot) : mergeS [] A = A := by unfold mergeS; simp
theorem mergeS_a {A B : List Spot} {i j : Nat} (hi : i < A.length) (h : j = B.length ∨ j < B.length ∧ ltS (B[j]?.getD default) (A[i]?.getD default) = false) :
    mergeS (A.drop i) (B.drop j) = (A[i]?.getD default) :: mergeS (A.drop (i + 1)) (B.drop j) := by
  rcases h with rfl | ⟨hj, h⟩
  · rw [List.drop_length, mergeS_nil, mergeS_nil, drop_get hi]
  · rw [drop_get hi, drop_get hj]
    unfold mergeS
    rw [List.cons_merge_cons, if_pos (leS_true.2 h)]
theorem mergeS_b {A B : List Spot} {i j : Nat} (hj : j < B.length) (h : i = A.length ∨ i < A.length ∧ ltS (B[j]?.getD default) (A[i]?.getD default) = true) :
    mergeS (A.drop i) (B.drop j) = (B[j]?.getD default) :: mergeS (A.drop i) (B.drop (j + 1)) := by
  rcases h with rfl | ⟨hi, h⟩
  · rw [List.drop_length, nil_mergeS, nil_mergeS, drop_get hj]
  · rw [drop_get hi, drop_get hj]
    unfold mergeS
    rw [List.cons_merge_cons, if_neg (by rw [leS_true, h]; simp)]

theorem flat_app {α : Type} (f g : Nat → List α) : ∀ n, ((List.range n).flatMap (fun c => f c ++ g c)).Perm ((List.range n).flatMap f ++ (List.range n).flatMap g)
  | 0 => by simp
  | n + 1 => by
    rw [List.range_succ, List.flatMap_append, List.flatMap_append, List.flatMap_append]
    simp only [List.flatMap_cons, List.flatMap_nil, List.append_nil]
    refine ((flat_app f g n).append_right _).trans ?_
    simp only [List.append_assoc]
    refine List.Perm.append_left _ ?_
    rw [← List.append_assoc, ← List.append_assoc]
    exact List.Perm.append_right _ List.perm_append_comm
theorem flat_swap {α : Type} (F : Nat → Nat → List α) (n : Nat) : ∀ m, ((List.range n).flatMap (fun c => (List.range m).flatMap (fun r => F c r))).Perm ((List.range m).flatMap (fun r => (List.range n).flatMap (fun c => F c r)))
  | 0 => by simp
  | m + 1 => by
    have e : (fun c => (List.range (m + 1)).flatMap (fun r => F c r)) = fun c => (List.range m).flatMap (fun r => F c r) ++ F c m := by
      funext c
      rw [List.range_succ, List.flatMap_append]; simp
    rw [e]
    refine (flat_app _ _ n).trans ?_
    rw [List.range_succ, List.flatMap_append]
    simp only [List.flatMap_cons, List.flatMap_nil, List.append_nil]
    exact List.Perm.append_right _ (flat_swap F n m)
/-- waveletref16's spots -/
def OrdQ.s3 (q : OrdQ) (c r m : Nat) : List Spot := (List.range m).map (q.sp 0 r c)
def OrdQ.s2 (q : OrdQ) (c m : Nat) : List Spot := (List.range m).flatMap fun r => q.s3 c r (q.w r c * q.h r c)
def OrdQ.s1 (q : OrdQ) (m : Nat) : List Spot := (List.range m).flatMap fun c => q.s2 c (q.lv + 1)
theorem OrdQ.s3_succ (q : OrdQ) (c r m : Nat) : q.s3 c r (m + 1) = q.s3 c r m ++ [q.sp 0 r c m] := by unfold OrdQ.s3; rw [List.range_succ, List.map_append]; rfl
theorem OrdQ.s2_succ (q : OrdQ) (c m : Nat) : q.s2 c (m + 1) = q.s2 c m ++ q.s3 c m (q.w m c * q.h m c) := by unfold OrdQ.s2; rw [List.range_succ, List.flatMap_append]; simp
theorem OrdQ.s1_succ (q : OrdQ) (m : Nat) : q.s1 (m + 1) = q.s1 m ++ q.s2 m (q.lv + 1) := by unfold OrdQ.s1; rw [List.range_succ, List.flatMap_append]; simp
def layS (od l : Nat) (s : Spot) : Spot := rankS od { s with ly := (l : Int) }
/-- its packets, ahead of the sort -/
def OrdQ.r1 (q : OrdQ) (m : Nat) : List Spot := (List.range m).flatMap fun l => (q.s1 q.n).map (layS q.od l)
theorem OrdQ.r1_succ (q : OrdQ) (m : Nat) : q.r1 (m + 1) = q.r1 m ++ (q.s1 q.n).map (layS q.od m) := by unfold OrdQ.r1; rw [List.range_succ, List.flatMap_append]; simp
theorem flatMap_perm {α β : Type} {f g : α → List β} (h : ∀ a, (f a).Perm (g a)) : ∀ L : List α, (L.flatMap f).Perm (L.flatMap g)
  | [] => List.Perm.refl _
  | a :: L => by rw [List.flatMap_cons, List.flatMap_cons]; exact (h a).append (flatMap_perm h L)
theorem OrdQ.r1_perm (q : OrdQ) (m : Nat) : (q.r1 m).Perm (q.l1 m) := by
  unfold OrdQ.r1 OrdQ.l1
  refine flatMap_perm (fun l => ?_) _
  unfold OrdQ.s1 OrdQ.s2 OrdQ.s3 OrdQ.l2 OrdQ.l3 OrdQ.l4
  simp only [List.map_flatMap, List.map_map]
  exact flat_swap (fun c r => (List.range (q.w r c * q.h r c)).map (q.pk l r c)) q.n (q.lv + 1)
theorem OrdQ.s3_len (q : OrdQ) (c r m : Nat) : (q.s3 c r m).length = m := by unfold OrdQ.s3; simp
/-- a ranked packet's ten cells; a spot's five -/
def tenL (s : Spot) : List Value := [.int .i64 s.ly, .int .i64 s.rs, .int .i64 s.cm, .int .i64 s.pc, .int .i64 s.r0, .int .i64 s.r1, .int .i64 s.r2, .int .i64 s.r3, .int .i64 s.r4, .int .i64 s.r5]
def fiveL (s : Spot) : List Value := [.int .i64 s.rs, .int .i64 s.cm, .int .i64 s.pc, .int .i64 s.x, .int .i64 s.y]
def rowT (L : List Spot) (k : Nat) : List Value := tenL (L[k]?.getD default)
def rowF (L : List Spot) (k : Nat) : List Value := fiveL (L[k]?.getD default)
theorem one_ten (s : Spot) : ∀ u ∈ tenL s, u.oneCell' = true := by
  intro u hu
  simp only [tenL, List.mem_cons, List.not_mem_nil, or_false] at hu
  rcases hu with rfl | rfl | rfl | rfl | rfl | rfl | rfl | rfl | rfl | rfl <;> rfl
theorem one_five (s : Spot) : ∀ u ∈ fiveL s, u.oneCell' = true := by
  intro u hu
  simp only [fiveL, List.mem_cons, List.not_mem_nil, or_false] at hu
  rcases hu with rfl | rfl | rfl | rfl | rfl <;> rfl
theorem rowT_new (L : List Spot) (x : Spot) : rowT (L ++ [x]) L.length = tenL x := by unfold rowT; simp
theorem rowT_lt (L M : List Spot) {k : Nat} (hk : k < L.length) : rowT (L ++ M) k = rowT L k := by unfold rowT; rw [List.getElem?_append_left hk]
theorem rowF_new (L : List Spot) (x : Spot) : rowF (L ++ [x]) L.length = fiveL x := by unfold rowF; simp
theorem rowF_lt (L M : List Spot) {k : Nat} (hk : k < L.length) : rowF (L ++ M) k = rowF L k := by unfold rowF; rw [List.getElem?_append_left hk]
theorem rowT_take (L : List Spot) (h k : Nat) (hk : k < (L.take h).length) : rowT (L.take h) k = rowT L k := by
  unfold rowT
  rw [List.length_take] at hk
  rw [List.getElem?_take, if_pos (by omega)]
theorem rowT_drop (L : List Spot) (h k : Nat) : rowT (L.drop h) k = rowT L (h + k) := by
  unfold rowT
  rw [List.getElem?_drop]
end Go.Proofs.Ytpgkdpoehkdhcaa
namespace Go.Proofs.Ytpgkdpoehkdhcaa
open Go.RowKit Go.Sort
attribute [local go_sem] opv opnd
set_option maxHeartbeats 40000000
set_option linter.unusedVariables false
set_option linter.unusedSimpArgs false
set_option maxRecDepth 1000000

theorem less_any (x0 x1 x2 x3 x4 x5 y0 y1 y2 y3 y4 y5 : Int) (w : World) : Calls Try.prog 60 #[.agg #[.int .i64 x0, .int .i64 x1, .int .i64 x2, .int .i64 x3, .int .i64 x4, .int .i64 x5], .agg #[.int .i64 y0, .int .i64 y1, .int .i64 y2, .int .i64 y3, .int .i64 y4, .int .i64 y5]] w fun e w' => e = .returned (.bool (decide (lexL [x0, x1, x2, x3, x4, x5] [y0, y1, y2, y3, y4, y5] < 0))) ∧ Below w.heap.size w w' := by
  obtain ⟨R, hR⟩ : ∃ R, lexL [x0, x1, x2, x3, x4, x5] [y0, y1, y2, y3, y4, y5] = R := ⟨_, rfl⟩
  obtain ⟨X, hX⟩ : ∃ X : List Int, X = [x0, x1, x2, x3, x4, x5] := ⟨_, rfl⟩
  obtain ⟨Y, hY⟩ : ∃ Y : List Int, Y = [y0, y1, y2, y3, y4, y5] := ⟨_, rfl⟩
  rw [hR]
  have HR0 := Lib.hid (show lexL (X.drop 0) (Y.drop 0) = R by rw [hX, hY]; exact hR)
  have HLN := Lib.hid (show X.length = 6 ∧ Y.length = 6 by rw [hX, hY]; exact ⟨rfl, rfl⟩)
  go_enter Try.func60, Try.ntmps60
  go_upto_region 1 with fail
  obtain ⟨q, hq⟩ : ∃ q, w.heap.size = q := ⟨_, rfl⟩
  generalize hW2 : World.alloc (World.alloc w _) _ = W2
  have hx : W2.heap[q]? = some (.cells #[.int .i64 x0, .int .i64 x1, .int .i64 x2, .int .i64 x3, .int .i64 x4, .int .i64 x5] 63 (0, 0)) := by rw [← hW2, ← hq]; exact (Below.heap_alloc _ _ _ (by simp)).trans (heap_alloc_new w _)
  have hy : W2.heap[q + 1]? = some (.cells #[.int .i64 y0, .int .i64 y1, .int .i64 y2, .int .i64 y3, .int .i64 y4, .int .i64 y5] 63 (0, 0)) := by rw [← hW2, ← hq]; exact heap_alloc_new2 w _ _
  have hb := Lib.hid (show Below q w W2 by rw [← hW2, ← hq]; exact below_alloc (below_alloc (Below.refl _ _) _) _)
  have z2 : W2.heap.size = q + 2 := by rw [← hW2, ← hq]; simp
  clear hW2 hR
  have HXC := Lib.hid (show ∀ k, k < 6 → W2.cell? ⟨q, k, none⟩ = some (.int .i64 (X.getD k 0)) from fun k hk => by
    rw [cell_of_row _ _ k _ _ (0, 0) hx, hX]
    match k, hk with
    | 0, _ => rfl
    | 1, _ => rfl
    | 2, _ => rfl
    | 3, _ => rfl
    | 4, _ => rfl
    | 5, _ => rfl)
  have HYC := Lib.hid (show ∀ k, k < 6 → W2.cell? ⟨q + 1, k, none⟩ = some (.int .i64 (Y.getD k 0)) from fun k hk => by
    rw [cell_of_row _ _ k _ _ (0, 0) hy, hY]
    match k, hk with
    | 0, _ => rfl
    | 1, _ => rfl
    | 2, _ => rfl
    | 3, _ => rfl
    | 4, _ => rfl
    | 5, _ => rfl)
  clear hx hy hX hY
  rw [hq]
  go_wp2_with fail
  go_loopg [5] 6 (fun kx s5 wr => ∃ (i : Nat), s5 = .int .i64 (i : Int) ∧ i ≤ 6 ∧ 6 - i ≤ kx ∧ Hid (lexL (X.drop i) (Y.drop i) = R) ∧ Hid (Below (q + 2) W2 wr))
  case atStart => exact ⟨0, rfl, by omega, by omega, HR0, Lib.hid (Below.refl _ _)⟩
  case round =>
    clear HR0
    obtain ⟨i, rfl, hi, hk, HR, HB⟩ := hrel
    by_cases hlt : i < 6
    · have hltz : (i : Int) < 6 := by omega
      obtain ⟨a, ha⟩ : ∃ z, X.getD i 0 = z := ⟨_, rfl⟩
      obtain ⟨b, hb'⟩ : ∃ z, Y.getD i 0 = z := ⟨_, rfl⟩
      have c0 := (HB.out.cell (p := ⟨q, i, none⟩) (by simp only; omega)).trans (HXC.out i hlt)
      have c1 := (HB.out.cell (p := ⟨q + 1, i, none⟩) (by simp only; omega)).trans (HYC.out i hlt)
      rw [ha] at c0
      rw [hb'] at c1
      have HD := Lib.hid (show lexL (a :: X.drop (i + 1)) (b :: Y.drop (i + 1)) = R by
        have h7 := HR.out
        have e1 : X.drop i = a :: X.drop (i + 1) := by
          rw [List.drop_eq_getElem_cons (by rw [HLN.out.1]; exact hlt), ← ha, List.getD_eq_getElem?_getD, List.getElem?_eq_getElem (by rw [HLN.out.1]; exact hlt)]; rfl
        have e2 : Y.drop i = b :: Y.drop (i + 1) := by
          rw [List.drop_eq_getElem_cons (by rw [HLN.out.2]; exact hlt), ← hb', List.getD_eq_getElem?_getD, List.getElem?_eq_getElem (by rw [HLN.out.2]; exact hlt)]; rfl
        rw [e1, e2] at h7
        exact h7)
      have zw : q + 2 ≤ wr.heap.size := by have := HB.out.size; omega
      have WI := wrap_add1 (a := i) (c := i + 1) rfl (by omega)
      clear ha hb' HR
      by_cases hab : a = b
      · subst hab
        go_wp2_with fail
        refine last_cut (by kernel_rfl) (fun U => U.cell? ⟨q, i, none⟩ = some (.int .i64 a) ∧ U.cell? ⟨q + 1, i, none⟩ = some (.int .i64 a)) (fun aF a' W' => a' = (((((((aF.put (some 10) (.int .i64 (i : Int))).put (some 11) (.pointer (some ⟨q, i, none⟩))).put (some 12) (.int .i64 a)).put (some 13) (.int .i64 (i : Int))).put (some 14) (.pointer (some ⟨q + 1, i, none⟩))).put (some 15) (.int .i64 a)).put (some 16) (.bool false)) ∧ Below wr.heap.size wr W') ⟨c0, c1⟩ (fun hS => ?_) ?_
        · skip
          have hSB : ∀ U : World, Below (wr.heap.size) wr U → U.cell? ⟨q, i, none⟩ = some (.int .i64 a) ∧ U.cell? ⟨q + 1, i, none⟩ = some (.int .i64 a) := fun U h => ⟨(h.cell (p := ⟨q, i, none⟩) (by simp only; omega)).trans (c0), (h.cell (p := ⟨q + 1, i, none⟩) (by simp only; omega)).trans (c1)⟩
          have bV : Below wr.heap.size wr wr.drew := (Below.refl _ _).drew
          generalize wr.drew = V0 at *
          change wpAnyL _ _ _ _ _ 7 #[false, false, false, false, false, false, false] _ _
          refine wpAnyL_take (i := 0) (v := .int .i64 (i : Int)) (by simp only [List.getElem?_toArray, List.getElem?_cons_succ, List.getElem?_cons_zero]; rfl) (by as_aux_lemma => kernel_rfl) (by as_aux_lemma => kernel_rfl) (by as_aux_lemma => kernel_rfl) (fun _ _ _ h => h) (Or.inl ⟨by rfl, ?_⟩) hS ?_
          · intro U hU
            obtain ⟨s0, s1⟩ := hU
            kernel_rfl
          simp only [Act.put, List.setIfInBounds_toArray, List.set_cons_zero, List.set_cons_succ]
          refine wpAnyL_take (i := 1) (v := .pointer (some ⟨q, i, none⟩)) (by simp only [List.getElem?_toArray, List.getElem?_cons_succ, List.getElem?_cons_zero]; rfl) (by as_aux_lemma => kernel_rfl) (by as_aux_lemma => kernel_rfl) (by as_aux_lemma => kernel_rfl) (fun _ _ _ h => h) (Or.inl ⟨by rfl, ?_⟩) hS ?_
          · intro U hU
            obtain ⟨s0, s1⟩ := hU
            go_simp
          simp only [Act.put, List.setIfInBounds_toArray, List.set_cons_zero, List.set_cons_succ]
          refine wpAnyL_take (i := 2) (v := .int .i64 a) (by simp only [List.getElem?_toArray, List.getElem?_cons_succ, List.getElem?_cons_zero]; rfl) (by as_aux_lemma => kernel_rfl) (by as_aux_lemma => kernel_rfl) (by as_aux_lemma => kernel_rfl) (fun _ _ _ h => h) (Or.inl ⟨by rfl, ?_⟩) hS ?_
          · intro U hU
            obtain ⟨s0, s1⟩ := hU
            exact exec_loadCell rfl rfl s0 (by kernel_rfl)
          simp only [Act.put, List.setIfInBounds_toArray, List.set_cons_zero, List.set_cons_succ]
          refine wpAnyL_take (i := 3) (v := .int .i64 (i : Int)) (by simp only [List.getElem?_toArray, List.getElem?_cons_succ, List.getElem?_cons_zero]; rfl) (by as_aux_lemma => kernel_rfl) (by as_aux_lemma => kernel_rfl) (by as_aux_lemma => kernel_rfl) (fun _ _ _ h => h) (Or.inl ⟨by rfl, ?_⟩) hS ?_
          · intro U hU
            obtain ⟨s0, s1⟩ := hU
            kernel_rfl
          simp only [Act.put, List.setIfInBounds_toArray, List.set_cons_zero, List.set_cons_succ]
          refine wpAnyL_take (i := 4) (v := .pointer (some ⟨q + 1, i, none⟩)) (by simp only [List.getElem?_toArray, List.getElem?_cons_succ, List.getElem?_cons_zero]; rfl) (by as_aux_lemma => kernel_rfl) (by as_aux_lemma => kernel_rfl) (by as_aux_lemma => kernel_rfl) (fun _ _ _ h => h) (Or.inl ⟨by rfl, ?_⟩) hS ?_
          · intro U hU
            obtain ⟨s0, s1⟩ := hU
            go_simp
          simp only [Act.put, List.setIfInBounds_toArray, List.set_cons_zero, List.set_cons_succ]
          refine wpAnyL_take (i := 5) (v := .int .i64 a) (by simp only [List.getElem?_toArray, List.getElem?_cons_succ, List.getElem?_cons_zero]; rfl) (by as_aux_lemma => kernel_rfl) (by as_aux_lemma => kernel_rfl) (by as_aux_lemma => kernel_rfl) (fun _ _ _ h => h) (Or.inl ⟨by rfl, ?_⟩) hS ?_
          · intro U hU
            obtain ⟨s0, s1⟩ := hU
            exact exec_loadCell rfl rfl s1 (by kernel_rfl)
          simp only [Act.put, List.setIfInBounds_toArray, List.set_cons_zero, List.set_cons_succ]
          refine wpAnyL_take (i := 6) (v := .bool false) (by simp only [List.getElem?_toArray, List.getElem?_cons_succ, List.getElem?_cons_zero]; rfl) (by as_aux_lemma => kernel_rfl) (by as_aux_lemma => kernel_rfl) (by as_aux_lemma => kernel_rfl) (fun _ _ _ h => h) (Or.inl ⟨by rfl, ?_⟩) hS ?_
          · intro U hU
            obtain ⟨s0, s1⟩ := hU
            go_simp
          simp only [Act.put, List.setIfInBounds_toArray, List.set_cons_zero, List.set_cons_succ]
          refine wpAnyL_done (by as_aux_lemma => kernel_rfl) ?_ _
          simp only [OnlyN]
          refine ⟨?_, bV⟩
          (try simp only [Act.put, List.setIfInBounds_toArray, List.set_cons_zero, List.set_cons_succ])
        rintro a' Wa ⟨rfl, ha⟩
        simp only [Act.put, List.setIfInBounds_toArray, List.set_cons_zero, List.set_cons_succ]
        have HBa := Lib.hid (HB.out.trans (ha.mono zw))
        have HD2 := Lib.hid (show lexL (X.drop (i + 1)) (Y.drop (i + 1)) = R by
          have h7 := HD.out
          rw [lexL, if_neg (Int.lt_irrefl _), if_neg (Int.lt_irrefl _)] at h7
          exact h7)
        clear ha c0 c1 HB HD
        go_wp2_with fail
        go_roundg (6 - (i + 1))
        case measure => omega
        case rel => exact ⟨i + 1, by go_num, by omega, Nat.le_refl _, HD2, HBa⟩
      · go_wp2_with fail
        refine last_cut (by kernel_rfl) (fun U => U.cell? ⟨q, i, none⟩ = some (.int .i64 a) ∧ U.cell? ⟨q + 1, i, none⟩ = some (.int .i64 b)) (fun aF a' W' => a' = (((((((aF.put (some 10) (.int .i64 (i : Int))).put (some 11) (.pointer (some ⟨q, i, none⟩))).put (some 12) (.int .i64 a)).put (some 13) (.int .i64 (i : Int))).put (some 14) (.pointer (some ⟨q + 1, i, none⟩))).put (some 15) (.int .i64 b)).put (some 16) (.bool true)) ∧ Below wr.heap.size wr W') ⟨c0, c1⟩ (fun hS => ?_) ?_
        · skip
          have hSB : ∀ U : World, Below (wr.heap.size) wr U → U.cell? ⟨q, i, none⟩ = some (.int .i64 a) ∧ U.cell? ⟨q + 1, i, none⟩ = some (.int .i64 b) := fun U h => ⟨(h.cell (p := ⟨q, i, none⟩) (by simp only; omega)).trans (c0), (h.cell (p := ⟨q + 1, i, none⟩) (by simp only; omega)).trans (c1)⟩
          have bV : Below wr.heap.size wr wr.drew := (Below.refl _ _).drew
          generalize wr.drew = V0 at *
          change wpAnyL _ _ _ _ _ 7 #[false, false, false, false, false, false, false] _ _
          refine wpAnyL_take (i := 0) (v := .int .i64 (i : Int)) (by simp only [List.getElem?_toArray, List.getElem?_cons_succ, List.getElem?_cons_zero]; rfl) (by as_aux_lemma => kernel_rfl) (by as_aux_lemma => kernel_rfl) (by as_aux_lemma => kernel_rfl) (fun _ _ _ h => h) (Or.inl ⟨by rfl, ?_⟩) hS ?_
          · intro U hU
            obtain ⟨s0, s1⟩ := hU
            kernel_rfl
          simp only [Act.put, List.setIfInBounds_toArray, List.set_cons_zero, List.set_cons_succ]
          refine wpAnyL_take (i := 1) (v := .pointer (some ⟨q, i, none⟩)) (by simp only [List.getElem?_toArray, List.getElem?_cons_succ, List.getElem?_cons_zero]; rfl) (by as_aux_lemma => kernel_rfl) (by as_aux_lemma => kernel_rfl) (by as_aux_lemma => kernel_rfl) (fun _ _ _ h => h) (Or.inl ⟨by rfl, ?_⟩) hS ?_
          · intro U hU
            obtain ⟨s0, s1⟩ := hU
            go_simp
          simp only [Act.put, List.setIfInBounds_toArray, List.set_cons_zero, List.set_cons_succ]
          refine wpAnyL_take (i := 2) (v := .int .i64 a) (by simp only [List.getElem?_toArray, List.getElem?_cons_succ, List.getElem?_cons_zero]; rfl) (by as_aux_lemma => kernel_rfl) (by as_aux_lemma => kernel_rfl) (by as_aux_lemma => kernel_rfl) (fun _ _ _ h => h) (Or.inl ⟨by rfl, ?_⟩) hS ?_
          · intro U hU
            obtain ⟨s0, s1⟩ := hU
            exact exec_loadCell rfl rfl s0 (by kernel_rfl)
          simp only [Act.put, List.setIfInBounds_toArray, List.set_cons_zero, List.set_cons_succ]
          refine wpAnyL_take (i := 3) (v := .int .i64 (i : Int)) (by simp only [List.getElem?_toArray, List.getElem?_cons_succ, List.getElem?_cons_zero]; rfl) (by as_aux_lemma => kernel_rfl) (by as_aux_lemma => kernel_rfl) (by as_aux_lemma => kernel_rfl) (fun _ _ _ h => h) (Or.inl ⟨by rfl, ?_⟩) hS ?_
          · intro U hU
            obtain ⟨s0, s1⟩ := hU
            kernel_rfl
          simp only [Act.put, List.setIfInBounds_toArray, List.set_cons_zero, List.set_cons_succ]
          refine wpAnyL_take (i := 4) (v := .pointer (some ⟨q + 1, i, none⟩)) (by simp only [List.getElem?_toArray, List.getElem?_cons_succ, List.getElem?_cons_zero]; rfl) (by as_aux_lemma => kernel_rfl) (by as_aux_lemma => kernel_rfl) (by as_aux_lemma => kernel_rfl) (fun _ _ _ h => h) (Or.inl ⟨by rfl, ?_⟩) hS ?_
          · intro U hU
            obtain ⟨s0, s1⟩ := hU
            go_simp
          simp only [Act.put, List.setIfInBounds_toArray, List.set_cons_zero, List.set_cons_succ]
          refine wpAnyL_take (i := 5) (v := .int .i64 b) (by simp only [List.getElem?_toArray, List.getElem?_cons_succ, List.getElem?_cons_zero]; rfl) (by as_aux_lemma => kernel_rfl) (by as_aux_lemma => kernel_rfl) (by as_aux_lemma => kernel_rfl) (fun _ _ _ h => h) (Or.inl ⟨by rfl, ?_⟩) hS ?_
          · intro U hU
            obtain ⟨s0, s1⟩ := hU
            exact exec_loadCell rfl rfl s1 (by kernel_rfl)
          simp only [Act.put, List.setIfInBounds_toArray, List.set_cons_zero, List.set_cons_succ]
          refine wpAnyL_take (i := 6) (v := .bool true) (by simp only [List.getElem?_toArray, List.getElem?_cons_succ, List.getElem?_cons_zero]; rfl) (by as_aux_lemma => kernel_rfl) (by as_aux_lemma => kernel_rfl) (by as_aux_lemma => kernel_rfl) (fun _ _ _ h => h) (Or.inl ⟨by rfl, ?_⟩) hS ?_
          · intro U hU
            obtain ⟨s0, s1⟩ := hU
            go_simp
          simp only [Act.put, List.setIfInBounds_toArray, List.set_cons_zero, List.set_cons_succ]
          refine wpAnyL_done (by as_aux_lemma => kernel_rfl) ?_ _
          simp only [OnlyN]
          refine ⟨?_, bV⟩
          (try simp only [Act.put, List.setIfInBounds_toArray, List.set_cons_zero, List.set_cons_succ])
        rintro a' Wa ⟨rfl, ha⟩
        simp only [Act.put, List.setIfInBounds_toArray, List.set_cons_zero, List.set_cons_succ]
        have HBa := Lib.hid (HB.out.trans (ha.mono zw))
        replace c0 := (ha.cell (p := ⟨q, i, none⟩) (by simp only; omega)).trans c0
        replace c1 := (ha.cell (p := ⟨q + 1, i, none⟩) (by simp only; omega)).trans c1
        have zwa : q + 2 ≤ Wa.heap.size := by have := ha.size; omega
        obtain ⟨lt, hlt2⟩ : ∃ z, decide (a < b) = z := ⟨_, rfl⟩
        have HLT := Lib.hid hlt2
        have HR2 := Lib.hid (show decide (R < 0) = lt by
          rw [← HD.out, ← hlt2]
          have h7 : lexL (a :: X.drop (i + 1)) (b :: Y.drop (i + 1)) < 0 ↔ a < b := by
            rw [lexL_neg]
            constructor
            · rintro (h | ⟨h, _⟩)
              · exact h
              · exact absurd h hab
            · exact Or.inl
          exact decide_eq_decide.2 h7)
        clear ha HB HD hlt2
        go_wp2_with fail
        refine last_cut (by kernel_rfl) (fun U => U.cell? ⟨q, i, none⟩ = some (.int .i64 a) ∧ U.cell? ⟨q + 1, i, none⟩ = some (.int .i64 b)) (fun aF a' W' => a' = ((((((((aF.put (some 17) (.int .i64 (i : Int))).put (some 18) (.pointer (some ⟨q, i, none⟩))).put (some 19) (.int .i64 a)).put (some 20) (.int .i64 (i : Int))).put (some 21) (.pointer (some ⟨q + 1, i, none⟩))).put (some 22) (.int .i64 b)).put (some 23) (.bool lt)).put (some 4) (.bool lt)) ∧ Below Wa.heap.size Wa W') ⟨c0, c1⟩ (fun hS => ?_) ?_
        · skip
          have hSB : ∀ U : World, Below (Wa.heap.size) Wa U → U.cell? ⟨q, i, none⟩ = some (.int .i64 a) ∧ U.cell? ⟨q + 1, i, none⟩ = some (.int .i64 b) := fun U h => ⟨(h.cell (p := ⟨q, i, none⟩) (by simp only; omega)).trans (c0), (h.cell (p := ⟨q + 1, i, none⟩) (by simp only; omega)).trans (c1)⟩
          have bV : Below Wa.heap.size Wa Wa.drew := (Below.refl _ _).drew
          generalize Wa.drew = V0 at *
          change wpAnyL _ _ _ _ _ 8 #[false, false, false, false, false, false, false, false] _ _
          refine wpAnyL_take (i := 0) (v := .int .i64 (i : Int)) (by simp only [List.getElem?_toArray, List.getElem?_cons_succ, List.getElem?_cons_zero]; rfl) (by as_aux_lemma => kernel_rfl) (by as_aux_lemma => kernel_rfl) (by as_aux_lemma => kernel_rfl) (fun _ _ _ h => h) (Or.inl ⟨by rfl, ?_⟩) hS ?_
          · intro U hU
            obtain ⟨s0, s1⟩ := hU
            kernel_rfl
          simp only [Act.put, List.setIfInBounds_toArray, List.set_cons_zero, List.set_cons_succ]
          refine wpAnyL_take (i := 1) (v := .pointer (some ⟨q, i, none⟩)) (by simp only [List.getElem?_toArray, List.getElem?_cons_succ, List.getElem?_cons_zero]; rfl) (by as_aux_lemma => kernel_rfl) (by as_aux_lemma => kernel_rfl) (by as_aux_lemma => kernel_rfl) (fun _ _ _ h => h) (Or.inl ⟨by rfl, ?_⟩) hS ?_
          · intro U hU
            obtain ⟨s0, s1⟩ := hU
            go_simp
          simp only [Act.put, List.setIfInBounds_toArray, List.set_cons_zero, List.set_cons_succ]
          refine wpAnyL_take (i := 2) (v := .int .i64 a) (by simp only [List.getElem?_toArray, List.getElem?_cons_succ, List.getElem?_cons_zero]; rfl) (by as_aux_lemma => kernel_rfl) (by as_aux_lemma => kernel_rfl) (by as_aux_lemma => kernel_rfl) (fun _ _ _ h => h) (Or.inl ⟨by rfl, ?_⟩) hS ?_
          · intro U hU
            obtain ⟨s0, s1⟩ := hU
            exact exec_loadCell rfl rfl s0 (by kernel_rfl)
          simp only [Act.put, List.setIfInBounds_toArray, List.set_cons_zero, List.set_cons_succ]
          refine wpAnyL_take (i := 3) (v := .int .i64 (i : Int)) (by simp only [List.getElem?_toArray, List.getElem?_cons_succ, List.getElem?_cons_zero]; rfl) (by as_aux_lemma => kernel_rfl) (by as_aux_lemma => kernel_rfl) (by as_aux_lemma => kernel_rfl) (fun _ _ _ h => h) (Or.inl ⟨by rfl, ?_⟩) hS ?_
          · intro U hU
            obtain ⟨s0, s1⟩ := hU
            kernel_rfl
          simp only [Act.put, List.setIfInBounds_toArray, List.set_cons_zero, List.set_cons_succ]
          refine wpAnyL_take (i := 4) (v := .pointer (some ⟨q + 1, i, none⟩)) (by simp only [List.getElem?_toArray, List.getElem?_cons_succ, List.getElem?_cons_zero]; rfl) (by as_aux_lemma => kernel_rfl) (by as_aux_lemma => kernel_rfl) (by as_aux_lemma => kernel_rfl) (fun _ _ _ h => h) (Or.inl ⟨by rfl, ?_⟩) hS ?_
          · intro U hU
            obtain ⟨s0, s1⟩ := hU
            go_simp
          simp only [Act.put, List.setIfInBounds_toArray, List.set_cons_zero, List.set_cons_succ]
          refine wpAnyL_take (i := 5) (v := .int .i64 b) (by simp only [List.getElem?_toArray, List.getElem?_cons_succ, List.getElem?_cons_zero]; rfl) (by as_aux_lemma => kernel_rfl) (by as_aux_lemma => kernel_rfl) (by as_aux_lemma => kernel_rfl) (fun _ _ _ h => h) (Or.inl ⟨by rfl, ?_⟩) hS ?_
          · intro U hU
            obtain ⟨s0, s1⟩ := hU
            exact exec_loadCell rfl rfl s1 (by kernel_rfl)
          simp only [Act.put, List.setIfInBounds_toArray, List.set_cons_zero, List.set_cons_succ]
          refine wpAnyL_take (i := 6) (v := .bool lt) (by simp only [List.getElem?_toArray, List.getElem?_cons_succ, List.getElem?_cons_zero]; rfl) (by as_aux_lemma => kernel_rfl) (by as_aux_lemma => kernel_rfl) (by as_aux_lemma => kernel_rfl) (fun _ _ _ h => h) (Or.inl ⟨by rfl, ?_⟩) hS ?_
          · intro U hU
            obtain ⟨s0, s1⟩ := hU
            have z1 := HLT.out
            go_simp
          simp only [Act.put, List.setIfInBounds_toArray, List.set_cons_zero, List.set_cons_succ]
          refine wpAnyL_take (i := 7) (v := .bool lt) (by simp only [List.getElem?_toArray, List.getElem?_cons_succ, List.getElem?_cons_zero]; rfl) (by as_aux_lemma => kernel_rfl) (by as_aux_lemma => kernel_rfl) (by as_aux_lemma => kernel_rfl) (fun _ _ _ h => h) (Or.inl ⟨by rfl, ?_⟩) hS ?_
          · intro U hU
            obtain ⟨s0, s1⟩ := hU
            kernel_rfl
          simp only [Act.put, List.setIfInBounds_toArray, List.set_cons_zero, List.set_cons_succ]
          refine wpAnyL_done (by as_aux_lemma => kernel_rfl) ?_ _
          simp only [OnlyN]
          refine ⟨?_, bV⟩
          (try simp only [Act.put, List.setIfInBounds_toArray, List.set_cons_zero, List.set_cons_succ])
        rintro a' Wb ⟨rfl, h9⟩
        simp only [Act.put, List.setIfInBounds_toArray, List.set_cons_zero, List.set_cons_succ]
        have bz := hb.out.trans ((HBa.out.mono (show q ≤ q + 2 by omega)).trans (h9.mono (by omega)))
        go_wp2_with fail
        go_ret
        exact ⟨by rw [HR2.out]; rfl, by rw [hq]; exact bz⟩
    · have he : i = 6 := by omega
      subst he
      have h2 : R = 0 := by
        have h7 := HR.out
        rw [List.drop_eq_nil_of_le (by rw [HLN.out.1]; omega), List.drop_eq_nil_of_le (by rw [HLN.out.2]; omega)] at h7
        exact h7.symm
      subst h2
      have bz := hb.out.trans (HB.out.mono (show q ≤ q + 2 by omega))
      go_wp2_with fail
      go_ret
      exact ⟨rfl, by rw [hq]; exact bz⟩
/-- some cells, one behind the other -/
def CellsL (U : World) (b o : Nat) (l : List Value) : Prop := ∀ (j : Nat) (u : Value), l[j]? = some u → U.cell? ⟨b, o + j, none⟩ = some u
theorem CellsL.below {U V : World} {b o B : Nat} {l : List Value} (h : CellsL V b o l) (hb : Below B V U) (hlt : b < B) : CellsL U b o l := fun j u hu => (hb.cell (p := ⟨b, o + j, none⟩) hlt).trans (h j u hu)
theorem CellsL.load {P : Program} {U : World} {b o : Nat} {l : List Value} (h : CellsL U b o l) : (loadCells ⟨b, o, none⟩ l.length).run P U = .ok l.toArray U :=
  run_loadCells_list U ⟨b, o, none⟩ l (fun j v hj => by rw [add_plain]; exact h j v hj)
def rkL (s : Spot) : List Value := [.int .i64 s.r0, .int .i64 s.r1, .int .i64 s.r2, .int .i64 s.r3, .int .i64 s.r4, .int .i64 s.r5]
theorem rank_cells {U : World} {b o : Nat} {s : Spot} (h : CellsL U b o (tenL s)) : CellsL U b (o + 4) (rkL s) := fun j u hu => by
  rw [Nat.add_assoc]
  refine h (4 + j) u ?_
  rw [Nat.add_comm]
  exact hu
theorem ten_at {w : World} {B : Nat} {b off n k : Nat} {L : List Spot} (h : CellsAt w B (some ⟨b, off, none⟩) 10 n (rowT L)) (hk : k < n) : CellsL w b (off + k * 10) (tenL (L[k]?.getD default)) := fun j u hu => h.cells hk hu
theorem ten_elem : ElemC Try.prog 73 80 10 := elemC_of (.agg #[.int .i64 0, .int .i64 0, .int .i64 0, .int .i64 0, .int .i64 0, .int .i64 0, .int .i64 0, .int .i64 0, .int .i64 0, .int .i64 0]) 80 (by kernel_rfl) rfl (by omega) (by omega) Try.underlying73
theorem merge_any (A B : List Spot) (pa pb : Option Addr) (ca cb : Nat) (w : World) (ha : CellsAt w w.heap.size pa 10 A.length (rowT A)) (hb : CellsAt w w.heap.size pb 10 B.length (rowT B)) (hl : A.length + B.length ≤ 1000000) :
    Calls Try.prog 49 #[.slice pa A.length ca, .slice pb B.length cb] w fun e w' => ∃ (X : Option Addr) (c : Nat), e = .returned (.slice X (A.length + B.length) c) ∧ OwnC w' w.heap.size 80 10 (.slice X (A.length + B.length) c) (A.length + B.length) (rowT (mergeS A B)) ∧ Below w.heap.size w w' := by
  obtain ⟨q, hq⟩ : ∃ q, w.heap.size = q := ⟨_, rfl⟩
  rw [hq] at ha hb ⊢
  obtain ⟨NA, hNA⟩ : ∃ z, A.length = z := ⟨_, rfl⟩
  obtain ⟨NB, hNB⟩ : ∃ z, B.length = z := ⟨_, rfl⟩
  rw [hNA] at ha hl ⊢
  rw [hNB] at hb hl ⊢
  have HNA := Lib.hid hNA
  have HNB := Lib.hid hNB
  have HA := Lib.hid ha
  have HB := Lib.hid hb
  have HQ := Lib.hid hq
  clear ha hb hNA hNB hq
  go_enter Try.func49, Try.ntmps49
  go_wp2_with fail
  go_loopg [5, 6, 7] (NA + NB) (fun kx s5 s6 s7 wr => ∃ (i j m : Nat) (P : List Spot) (X : Option Addr) (c : Nat), s5 = .slice X m c ∧ s6 = .int .i64 (i : Int) ∧ s7 = .int .i64 (j : Int) ∧ i ≤ NA ∧ j ≤ NB ∧ Hid (m = i + j) ∧ NA + NB - m ≤ kx ∧ Hid (P.length = m) ∧ Hid (mergeS A B = P ++ mergeS (A.drop i) (B.drop j)) ∧ Hid (OwnC wr q 80 10 (.slice X m c) m (rowT P)) ∧ Hid (Below q w wr))
  case atStart => exact ⟨0, 0, 0, [], none, 0, rfl, rfl, rfl, by omega, by omega, Lib.hid rfl, by omega, Lib.hid rfl, Lib.hid rfl, Lib.hid (OwnC.nil_ _ _ _ _ _ (fun k => rfl)), Lib.hid (Below.refl _ _)⟩
  case round =>
    obtain ⟨i, j, m, P, X, c, rfl, rfl, rfl, hi, hj, HM, hkx, HPL, HMG, HO, HW⟩ := hrel
    have hmb : m ≤ NA + NB := by have := HM.out; omega
    have zw : q ≤ wr.heap.size := by have := HW.out.size; have := HQ.out; omega
    by_cases hlti : i < NA
    · have hltiz : (i : Int) < (NA : Int) := by omega
      obtain ⟨ba, oa, hpa, hba, hca⟩ := (HA.out.below HW.out) (by omega)
      have hta := ten_at (L := A) (k := i) (hpa ▸ HA.out.below HW.out) hlti
      subst hpa
      obtain ⟨x, hx⟩ : ∃ z, A[i]?.getD default = z := ⟨_, rfl⟩
      rw [hx] at hta
      have HX := Lib.hid hx
      have HTA := Lib.hid hta
      clear hx hca hta
      by_cases hltj : j < NB
      · have hltjz : (j : Int) < (NB : Int) := by omega
        have hnez : ¬ (j : Int) = (NB : Int) := by omega
        obtain ⟨bb, ob, hpb, hbb, hcb⟩ := (HB.out.below HW.out) (by omega)
        have htb := ten_at (L := B) (k := j) (hpb ▸ HB.out.below HW.out) hltj
        subst hpb
        obtain ⟨y, hy⟩ : ∃ z, B[j]?.getD default = z := ⟨_, rfl⟩
        rw [hy] at htb
        have HY := Lib.hid hy
        have HTB := Lib.hid htb
        obtain ⟨lt, hlt⟩ : ∃ z, ltS y x = z := ⟨_, rfl⟩
        have HLT := Lib.hid hlt
        have HLe := Lib.hid (fun V : World => (show Calls Try.prog 60 #[.agg #[.int .i64 y.r0, .int .i64 y.r1, .int .i64 y.r2, .int .i64 y.r3, .int .i64 y.r4, .int .i64 y.r5], .agg #[.int .i64 x.r0, .int .i64 x.r1, .int .i64 x.r2, .int .i64 x.r3, .int .i64 x.r4, .int .i64 x.r5]] V (fun e w' => e = .returned (.bool lt) ∧ Below V.heap.size V w') from hlt ▸ less_any y.r0 y.r1 y.r2 y.r3 y.r4 y.r5 x.r0 x.r1 x.r2 x.r3 x.r4 x.r5 V))
        have ra := rank_cells HTA.out
        have rb := rank_cells HTB.out
        clear hy hcb htb hlt
        go_wp2_with fail
        refine last_cut (by kernel_rfl) (fun U => CellsL U bb (ob + j * 10 + 4) (rkL y) ∧ CellsL U ba (oa + i * 10 + 4) (rkL x)) (fun aF a' W' => a' = ((((((((((((((((((((((((aF.put (some 18) (.int .i64 (j : Int))).put (some 19) (.slice (some ⟨bb, ob, none⟩) NB cb)).put (some 20) (.int .i64 (NB : Int))).put (some 21) (.bool false)).put (some 22) (.bool false)).put (some 23) (.int .i64 (i : Int))).put (some 24) (.slice (some ⟨ba, oa, none⟩) NA ca)).put (some 25) (.int .i64 (NA : Int))).put (some 26) (.bool true)).put (some 27) (.bool true)).put (some 28) (.slice (some ⟨bb, ob, none⟩) NB cb)).put (some 29) (.int .i64 (j : Int))).put (some 30) (.pointer (some ⟨bb, ob + j * 10, none⟩))).put (some 31) (.pointer (some ⟨bb, ob + j * 10 + 4, none⟩))).put (some 32) (.agg #[.int .i64 y.r0, .int .i64 y.r1, .int .i64 y.r2, .int .i64 y.r3, .int .i64 y.r4, .int .i64 y.r5])).put (some 33) (.slice (some ⟨ba, oa, none⟩) NA ca)).put (some 34) (.int .i64 (i : Int))).put (some 35) (.pointer (some ⟨ba, oa + i * 10, none⟩))).put (some 36) (.pointer (some ⟨ba, oa + i * 10 + 4, none⟩))).put (some 37) (.agg #[.int .i64 x.r0, .int .i64 x.r1, .int .i64 x.r2, .int .i64 x.r3, .int .i64 x.r4, .int .i64 x.r5])).put (some 38) (.bool lt)).put (some 39) (.bool !lt)).put (some 40) (.bool !lt)).put (some 41) (.bool !lt)) ∧ Below wr.heap.size wr W') ⟨rb, ra⟩ (fun hS => ?_) ?_
        · skip
          have hSB : ∀ U : World, Below (wr.heap.size) wr U → CellsL U bb (ob + j * 10 + 4) (rkL y) ∧ CellsL U ba (oa + i * 10 + 4) (rkL x) := fun U h => ⟨(rb).below (h) (by omega), (ra).below (h) (by omega)⟩
          have bV : Below wr.heap.size wr wr.drew := (Below.refl _ _).drew
          generalize wr.drew = V0 at *
          change wpAnyL _ _ _ _ _ 24 #[false, false, false, false, false, false, false, false, false, false, false, false, false, false, false, false, false, false, false, false, false, false, false, false] _ _
          refine wpAnyL_take (i := 0) (v := .int .i64 (j : Int)) (by simp only [List.getElem?_toArray, List.getElem?_cons_succ, List.getElem?_cons_zero]; rfl) (by as_aux_lemma => kernel_rfl) (by as_aux_lemma => kernel_rfl) (by as_aux_lemma => kernel_rfl) (fun _ _ _ h => h) (Or.inl ⟨by rfl, ?_⟩) hS ?_
          · intro U hU
            obtain ⟨s0, s1⟩ := hU
            kernel_rfl
          simp only [Act.put, List.setIfInBounds_toArray, List.set_cons_zero, List.set_cons_succ]
          refine wpAnyL_take (i := 1) (v := .slice (some ⟨bb, ob, none⟩) NB cb) (by simp only [List.getElem?_toArray, List.getElem?_cons_succ, List.getElem?_cons_zero]; rfl) (by as_aux_lemma => kernel_rfl) (by as_aux_lemma => kernel_rfl) (by as_aux_lemma => kernel_rfl) (fun _ _ _ h => h) (Or.inl ⟨by rfl, ?_⟩) hS ?_
          · intro U hU
            obtain ⟨s0, s1⟩ := hU
            kernel_rfl
          simp only [Act.put, List.setIfInBounds_toArray, List.set_cons_zero, List.set_cons_succ]
          refine wpAnyL_take (i := 2) (v := .int .i64 (NB : Int)) (by simp only [List.getElem?_toArray, List.getElem?_cons_succ, List.getElem?_cons_zero]; rfl) (by as_aux_lemma => kernel_rfl) (by as_aux_lemma => kernel_rfl) (by as_aux_lemma => kernel_rfl) (fun _ _ _ h => h) (Or.inl ⟨by rfl, ?_⟩) hS ?_
          · intro U hU
            obtain ⟨s0, s1⟩ := hU
            go_simp
          simp only [Act.put, List.setIfInBounds_toArray, List.set_cons_zero, List.set_cons_succ]
          refine wpAnyL_take (i := 3) (v := .bool false) (by simp only [List.getElem?_toArray, List.getElem?_cons_succ, List.getElem?_cons_zero]; rfl) (by as_aux_lemma => kernel_rfl) (by as_aux_lemma => kernel_rfl) (by as_aux_lemma => kernel_rfl) (fun _ _ _ h => h) (Or.inl ⟨by rfl, ?_⟩) hS ?_
          · intro U hU
            obtain ⟨s0, s1⟩ := hU
            go_simp
          simp only [Act.put, List.setIfInBounds_toArray, List.set_cons_zero, List.set_cons_succ]
          refine wpAnyL_take (i := 4) (v := .bool false) (by simp only [List.getElem?_toArray, List.getElem?_cons_succ, List.getElem?_cons_zero]; rfl) (by as_aux_lemma => kernel_rfl) (by as_aux_lemma => kernel_rfl) (by as_aux_lemma => kernel_rfl) (fun _ _ _ h => h) (Or.inl ⟨by rfl, ?_⟩) hS ?_
          · intro U hU
            obtain ⟨s0, s1⟩ := hU
            kernel_rfl
          simp only [Act.put, List.setIfInBounds_toArray, List.set_cons_zero, List.set_cons_succ]
          refine wpAnyL_take (i := 5) (v := .int .i64 (i : Int)) (by simp only [List.getElem?_toArray, List.getElem?_cons_succ, List.getElem?_cons_zero]; rfl) (by as_aux_lemma => kernel_rfl) (by as_aux_lemma => kernel_rfl) (by as_aux_lemma => kernel_rfl) (fun _ _ _ h => h) (Or.inl ⟨by rfl, ?_⟩) hS ?_
          · intro U hU
            obtain ⟨s0, s1⟩ := hU
            kernel_rfl
          simp only [Act.put, List.setIfInBounds_toArray, List.set_cons_zero, List.set_cons_succ]
          refine wpAnyL_take (i := 6) (v := .slice (some ⟨ba, oa, none⟩) NA ca) (by simp only [List.getElem?_toArray, List.getElem?_cons_succ, List.getElem?_cons_zero]; rfl) (by as_aux_lemma => kernel_rfl) (by as_aux_lemma => kernel_rfl) (by as_aux_lemma => kernel_rfl) (fun _ _ _ h => h) (Or.inl ⟨by rfl, ?_⟩) hS ?_
          · intro U hU
            obtain ⟨s0, s1⟩ := hU
            kernel_rfl
          simp only [Act.put, List.setIfInBounds_toArray, List.set_cons_zero, List.set_cons_succ]
          refine wpAnyL_take (i := 7) (v := .int .i64 (NA : Int)) (by simp only [List.getElem?_toArray, List.getElem?_cons_succ, List.getElem?_cons_zero]; rfl) (by as_aux_lemma => kernel_rfl) (by as_aux_lemma => kernel_rfl) (by as_aux_lemma => kernel_rfl) (fun _ _ _ h => h) (Or.inl ⟨by rfl, ?_⟩) hS ?_
          · intro U hU
            obtain ⟨s0, s1⟩ := hU
            go_simp
          simp only [Act.put, List.setIfInBounds_toArray, List.set_cons_zero, List.set_cons_succ]
          refine wpAnyL_take (i := 8) (v := .bool true) (by simp only [List.getElem?_toArray, List.getElem?_cons_succ, List.getElem?_cons_zero]; rfl) (by as_aux_lemma => kernel_rfl) (by as_aux_lemma => kernel_rfl) (by as_aux_lemma => kernel_rfl) (fun _ _ _ h => h) (Or.inl ⟨by rfl, ?_⟩) hS ?_
          · intro U hU
            obtain ⟨s0, s1⟩ := hU
            go_simp
          simp only [Act.put, List.setIfInBounds_toArray, List.set_cons_zero, List.set_cons_succ]
          refine wpAnyL_take (i := 9) (v := .bool true) (by simp only [List.getElem?_toArray, List.getElem?_cons_succ, List.getElem?_cons_zero]; rfl) (by as_aux_lemma => kernel_rfl) (by as_aux_lemma => kernel_rfl) (by as_aux_lemma => kernel_rfl) (fun _ _ _ h => h) (Or.inl ⟨by rfl, ?_⟩) hS ?_
          · intro U hU
            obtain ⟨s0, s1⟩ := hU
            kernel_rfl
          simp only [Act.put, List.setIfInBounds_toArray, List.set_cons_zero, List.set_cons_succ]
          refine wpAnyL_take (i := 10) (v := .slice (some ⟨bb, ob, none⟩) NB cb) (by simp only [List.getElem?_toArray, List.getElem?_cons_succ, List.getElem?_cons_zero]; rfl) (by as_aux_lemma => kernel_rfl) (by as_aux_lemma => kernel_rfl) (by as_aux_lemma => kernel_rfl) (fun _ _ _ h => h) (Or.inl ⟨by rfl, ?_⟩) hS ?_
          · intro U hU
            obtain ⟨s0, s1⟩ := hU
            kernel_rfl
          simp only [Act.put, List.setIfInBounds_toArray, List.set_cons_zero, List.set_cons_succ]
          refine wpAnyL_take (i := 11) (v := .int .i64 (j : Int)) (by simp only [List.getElem?_toArray, List.getElem?_cons_succ, List.getElem?_cons_zero]; rfl) (by as_aux_lemma => kernel_rfl) (by as_aux_lemma => kernel_rfl) (by as_aux_lemma => kernel_rfl) (fun _ _ _ h => h) (Or.inl ⟨by rfl, ?_⟩) hS ?_
          · intro U hU
            obtain ⟨s0, s1⟩ := hU
            kernel_rfl
          simp only [Act.put, List.setIfInBounds_toArray, List.set_cons_zero, List.set_cons_succ]
          refine wpAnyL_take (i := 12) (v := .pointer (some ⟨bb, ob + j * 10, none⟩)) (by simp only [List.getElem?_toArray, List.getElem?_cons_succ, List.getElem?_cons_zero]; rfl) (by as_aux_lemma => kernel_rfl) (by as_aux_lemma => kernel_rfl) (by as_aux_lemma => kernel_rfl) (fun _ _ _ h => h) (Or.inl ⟨by rfl, ?_⟩) hS ?_
          · intro U hU
            obtain ⟨s0, s1⟩ := hU
            go_simp
          simp only [Act.put, List.setIfInBounds_toArray, List.set_cons_zero, List.set_cons_succ]
          refine wpAnyL_take (i := 13) (v := .pointer (some ⟨bb, ob + j * 10 + 4, none⟩)) (by simp only [List.getElem?_toArray, List.getElem?_cons_succ, List.getElem?_cons_zero]; rfl) (by as_aux_lemma => kernel_rfl) (by as_aux_lemma => kernel_rfl) (by as_aux_lemma => kernel_rfl) (fun _ _ _ h => h) (Or.inl ⟨by rfl, ?_⟩) hS ?_
          · intro U hU
            obtain ⟨s0, s1⟩ := hU
            kernel_rfl
          simp only [Act.put, List.setIfInBounds_toArray, List.set_cons_zero, List.set_cons_succ]
          refine wpAnyL_take (i := 14) (v := .agg #[.int .i64 y.r0, .int .i64 y.r1, .int .i64 y.r2, .int .i64 y.r3, .int .i64 y.r4, .int .i64 y.r5]) (by simp only [List.getElem?_toArray, List.getElem?_cons_succ, List.getElem?_cons_zero]; rfl) (by as_aux_lemma => kernel_rfl) (by as_aux_lemma => kernel_rfl) (by as_aux_lemma => kernel_rfl) (fun _ _ _ h => h) (Or.inl ⟨by rfl, ?_⟩) hS ?_
          · intro U hU
            obtain ⟨s0, s1⟩ := hU
            exact exec_loadK rfl rfl (by kernel_rfl) (by kernel_rfl) s0.load
          simp only [Act.put, List.setIfInBounds_toArray, List.set_cons_zero, List.set_cons_succ]
          refine wpAnyL_take (i := 15) (v := .slice (some ⟨ba, oa, none⟩) NA ca) (by simp only [List.getElem?_toArray, List.getElem?_cons_succ, List.getElem?_cons_zero]; rfl) (by as_aux_lemma => kernel_rfl) (by as_aux_lemma => kernel_rfl) (by as_aux_lemma => kernel_rfl) (fun _ _ _ h => h) (Or.inl ⟨by rfl, ?_⟩) hS ?_
          · intro U hU
            obtain ⟨s0, s1⟩ := hU
            kernel_rfl
          simp only [Act.put, List.setIfInBounds_toArray, List.set_cons_zero, List.set_cons_succ]
          refine wpAnyL_take (i := 16) (v := .int .i64 (i : Int)) (by simp only [List.getElem?_toArray, List.getElem?_cons_succ, List.getElem?_cons_zero]; rfl) (by as_aux_lemma => kernel_rfl) (by as_aux_lemma => kernel_rfl) (by as_aux_lemma => kernel_rfl) (fun _ _ _ h => h) (Or.inl ⟨by rfl, ?_⟩) hS ?_
          · intro U hU
            obtain ⟨s0, s1⟩ := hU
            kernel_rfl
          simp only [Act.put, List.setIfInBounds_toArray, List.set_cons_zero, List.set_cons_succ]
          refine wpAnyL_take (i := 17) (v := .pointer (some ⟨ba, oa + i * 10, none⟩)) (by simp only [List.getElem?_toArray, List.getElem?_cons_succ, List.getElem?_cons_zero]; rfl) (by as_aux_lemma => kernel_rfl) (by as_aux_lemma => kernel_rfl) (by as_aux_lemma => kernel_rfl) (fun _ _ _ h => h) (Or.inl ⟨by rfl, ?_⟩) hS ?_
          · intro U hU
            obtain ⟨s0, s1⟩ := hU
            go_simp
          simp only [Act.put, List.setIfInBounds_toArray, List.set_cons_zero, List.set_cons_succ]
          refine wpAnyL_take (i := 18) (v := .pointer (some ⟨ba, oa + i * 10 + 4, none⟩)) (by simp only [List.getElem?_toArray, List.getElem?_cons_succ, List.getElem?_cons_zero]; rfl) (by as_aux_lemma => kernel_rfl) (by as_aux_lemma => kernel_rfl) (by as_aux_lemma => kernel_rfl) (fun _ _ _ h => h) (Or.inl ⟨by rfl, ?_⟩) hS ?_
          · intro U hU
            obtain ⟨s0, s1⟩ := hU
            kernel_rfl
          simp only [Act.put, List.setIfInBounds_toArray, List.set_cons_zero, List.set_cons_succ]
          refine wpAnyL_take (i := 19) (v := .agg #[.int .i64 x.r0, .int .i64 x.r1, .int .i64 x.r2, .int .i64 x.r3, .int .i64 x.r4, .int .i64 x.r5]) (by simp only [List.getElem?_toArray, List.getElem?_cons_succ, List.getElem?_cons_zero]; rfl) (by as_aux_lemma => kernel_rfl) (by as_aux_lemma => kernel_rfl) (by as_aux_lemma => kernel_rfl) (fun _ _ _ h => h) (Or.inl ⟨by rfl, ?_⟩) hS ?_
          · intro U hU
            obtain ⟨s0, s1⟩ := hU
            exact exec_loadK rfl rfl (by kernel_rfl) (by kernel_rfl) s1.load
          simp only [Act.put, List.setIfInBounds_toArray, List.set_cons_zero, List.set_cons_succ]
          refine wpAnyL_ready (rs := [20]) (by as_aux_lemma => kernel_rfl) (by simp) ?_
          refine AllReadyL.cons (by simp only [List.getElem?_toArray, List.getElem?_cons_succ, List.getElem?_cons_zero]; rfl) (fun K' hK' => ?_) AllReadyL.nil
          go_simp
          go_at_call 60
          refine (HLe.out _).mono ?_
          rintro e' U3 ⟨rfl, hb3⟩
          have b3 := below_trans bV hb3
          have hS := hSB _ b3
          dsimp only
          refine hK'.out _ _ hS (fun _ => ?_)
          clear hb3 bV
          clear hK' K'
          try simp only [Act.put, List.setIfInBounds_toArray, List.set_cons_zero, List.set_cons_succ]
          refine wpAnyL_take (i := 21) (v := .bool !lt) (by simp only [List.getElem?_toArray, List.getElem?_cons_succ, List.getElem?_cons_zero]; rfl) (by as_aux_lemma => kernel_rfl) (by as_aux_lemma => kernel_rfl) (by as_aux_lemma => kernel_rfl) (fun _ _ _ h => h) (Or.inl ⟨by rfl, ?_⟩) hS ?_
          · intro U hU
            obtain ⟨s0, s1⟩ := hU
            go_simp
          simp only [Act.put, List.setIfInBounds_toArray, List.set_cons_zero, List.set_cons_succ]
          refine wpAnyL_take (i := 22) (v := .bool !lt) (by simp only [List.getElem?_toArray, List.getElem?_cons_succ, List.getElem?_cons_zero]; rfl) (by as_aux_lemma => kernel_rfl) (by as_aux_lemma => kernel_rfl) (by as_aux_lemma => kernel_rfl) (fun _ _ _ h => h) (Or.inl ⟨by rfl, ?_⟩) hS ?_
          · intro U hU
            obtain ⟨s0, s1⟩ := hU
            kernel_rfl
          simp only [Act.put, List.setIfInBounds_toArray, List.set_cons_zero, List.set_cons_succ]
          refine wpAnyL_take (i := 23) (v := .bool !lt) (by simp only [List.getElem?_toArray, List.getElem?_cons_succ, List.getElem?_cons_zero]; rfl) (by as_aux_lemma => kernel_rfl) (by as_aux_lemma => kernel_rfl) (by as_aux_lemma => kernel_rfl) (fun _ _ _ h => h) (Or.inl ⟨by rfl, ?_⟩) hS ?_
          · intro U hU
            obtain ⟨s0, s1⟩ := hU
            kernel_rfl
          simp only [Act.put, List.setIfInBounds_toArray, List.set_cons_zero, List.set_cons_succ]
          refine wpAnyL_done (by as_aux_lemma => kernel_rfl) ?_ _
          simp only [OnlyN]
          refine ⟨?_, b3⟩
          (try simp only [Act.put, List.setIfInBounds_toArray, List.set_cons_zero, List.set_cons_succ])
        rintro a' Wa ⟨rfl, hz⟩
        simp only [Act.put, List.setIfInBounds_toArray, List.set_cons_zero, List.set_cons_succ]
        clear ra rb HLe
        cases lt with
        | false =>
          have HTe := Lib.hid (HTA.out.below hz (by omega))
          have ec0 : Wa.cell? ⟨ba, oa + i * 10, none⟩ = some (.int .i64 x.ly) := HTe.out 0 _ rfl
          have ec1 : Wa.cell? ⟨ba, oa + i * 10 + 1, none⟩ = some (.int .i64 x.rs) := HTe.out 1 _ rfl
          have ec2 : Wa.cell? ⟨ba, oa + i * 10 + 2, none⟩ = some (.int .i64 x.cm) := HTe.out 2 _ rfl
          have ec3 : Wa.cell? ⟨ba, oa + i * 10 + 3, none⟩ = some (.int .i64 x.pc) := HTe.out 3 _ rfl
          have ec4 : Wa.cell? ⟨ba, oa + i * 10 + 4, none⟩ = some (.int .i64 x.r0) := HTe.out 4 _ rfl
          have ec5 : Wa.cell? ⟨ba, oa + i * 10 + 5, none⟩ = some (.int .i64 x.r1) := HTe.out 5 _ rfl
          have ec6 : Wa.cell? ⟨ba, oa + i * 10 + 6, none⟩ = some (.int .i64 x.r2) := HTe.out 6 _ rfl
          have ec7 : Wa.cell? ⟨ba, oa + i * 10 + 7, none⟩ = some (.int .i64 x.r3) := HTe.out 7 _ rfl
          have ec8 : Wa.cell? ⟨ba, oa + i * 10 + 8, none⟩ = some (.int .i64 x.r4) := HTe.out 8 _ rfl
          have ec9 : Wa.cell? ⟨ba, oa + i * 10 + 9, none⟩ = some (.int .i64 x.r5) := HTe.out 9 _ rfl
          have HOf := Lib.hid ((HO.out.below hz).congr (g := rowT (P ++ [x])) (fun _ => rfl) (fun z hz2 => by rw [rowT_lt P [x] (by rw [HPL.out]; exact hz2)]))
          have HWf := Lib.hid (HW.out.trans (hz.mono zw))
          have zf : q ≤ Wa.heap.size := by have := hz.size; omega
          have HCE := Lib.hid (show (∀ (T : TypeId) (z : Nat) (u : Value), (rowT (P ++ [x]) m)[z]? = some u → (Wa.alloc (.cells #[.int .i64 x.ly, .int .i64 x.rs, .int .i64 x.cm, .int .i64 x.pc, .int .i64 x.r0, .int .i64 x.r1, .int .i64 x.r2, .int .i64 x.r3, .int .i64 x.r4, .int .i64 x.r5] T)).cell? ⟨Wa.heap.size, z, none⟩ = some u) ∧ ∀ u ∈ rowT (P ++ [x]) m, u.oneCell' = true by
            rw [← HPL.out, rowT_new]
            refine ⟨fun T z u hu => ?_, one_ten x⟩
            rw [cell_of_row _ _ _ _ _ (0, 0) (heap_alloc_new Wa _), ← hu]
            rw [List.getElem?_toArray]
            rfl)
          have WI := wrap_add1 (a := i) (c := i + 1) rfl (by omega)
          have HMG2 := Lib.hid (show mergeS A B = (P ++ [x]) ++ mergeS (A.drop (i + 1)) (B.drop j) by
            rw [HMG.out, List.append_assoc, mergeS_a (by rw [HNA.out]; exact hlti) (Or.inr ⟨by rw [HNB.out]; exact hltj, by rw [HX.out, HY.out]; exact HLT.out⟩), HX.out]
            rfl)
          clear hz HO HW HTe
          go_wp2_with (at_builtin; refine wpList_appC Wa ((Below.refl _ _).alloc (Nat.le_refl _) _) (KeepsOthers.alloc _ _) rfl _ _ 73 rfl 80 10 ten_elem q X m c (rowT (P ++ [x])) rfl HOf.out Wa.heap.size rfl (HCE.out.1 _) HCE.out.2 (by omega) zf ?_; intro g1 cap Wg og sg hg)
          have HOg := Lib.hid og
          have HBg := Lib.hid (HWf.out.trans sg.below)
          clear og sg HOf HWf HCE
          go_roundg (NA + NB - (m + 1))
          case measure => have := HM.out; omega
          case rel => exact ⟨i + 1, j, m + 1, P ++ [x], some ⟨g1, 0, none⟩, cap, rfl, by go_num, by go_num, by omega, by omega, Lib.hid (by have := HM.out; omega), Nat.le_refl _, Lib.hid (by rw [List.length_append, HPL.out]; rfl), HMG2, HOg, HBg⟩
        | true =>
          have HTe := Lib.hid (HTB.out.below hz (by omega))
          have ec0 : Wa.cell? ⟨bb, ob + j * 10, none⟩ = some (.int .i64 y.ly) := HTe.out 0 _ rfl
          have ec1 : Wa.cell? ⟨bb, ob + j * 10 + 1, none⟩ = some (.int .i64 y.rs) := HTe.out 1 _ rfl
          have ec2 : Wa.cell? ⟨bb, ob + j * 10 + 2, none⟩ = some (.int .i64 y.cm) := HTe.out 2 _ rfl
          have ec3 : Wa.cell? ⟨bb, ob + j * 10 + 3, none⟩ = some (.int .i64 y.pc) := HTe.out 3 _ rfl
          have ec4 : Wa.cell? ⟨bb, ob + j * 10 + 4, none⟩ = some (.int .i64 y.r0) := HTe.out 4 _ rfl
          have ec5 : Wa.cell? ⟨bb, ob + j * 10 + 5, none⟩ = some (.int .i64 y.r1) := HTe.out 5 _ rfl
          have ec6 : Wa.cell? ⟨bb, ob + j * 10 + 6, none⟩ = some (.int .i64 y.r2) := HTe.out 6 _ rfl
          have ec7 : Wa.cell? ⟨bb, ob + j * 10 + 7, none⟩ = some (.int .i64 y.r3) := HTe.out 7 _ rfl
          have ec8 : Wa.cell? ⟨bb, ob + j * 10 + 8, none⟩ = some (.int .i64 y.r4) := HTe.out 8 _ rfl
          have ec9 : Wa.cell? ⟨bb, ob + j * 10 + 9, none⟩ = some (.int .i64 y.r5) := HTe.out 9 _ rfl
          have HOf := Lib.hid ((HO.out.below hz).congr (g := rowT (P ++ [y])) (fun _ => rfl) (fun z hz2 => by rw [rowT_lt P [y] (by rw [HPL.out]; exact hz2)]))
          have HWf := Lib.hid (HW.out.trans (hz.mono zw))
          have zf : q ≤ Wa.heap.size := by have := hz.size; omega
          have HCE := Lib.hid (show (∀ (T : TypeId) (z : Nat) (u : Value), (rowT (P ++ [y]) m)[z]? = some u → (Wa.alloc (.cells #[.int .i64 y.ly, .int .i64 y.rs, .int .i64 y.cm, .int .i64 y.pc, .int .i64 y.r0, .int .i64 y.r1, .int .i64 y.r2, .int .i64 y.r3, .int .i64 y.r4, .int .i64 y.r5] T)).cell? ⟨Wa.heap.size, z, none⟩ = some u) ∧ ∀ u ∈ rowT (P ++ [y]) m, u.oneCell' = true by
            rw [← HPL.out, rowT_new]
            refine ⟨fun T z u hu => ?_, one_ten y⟩
            rw [cell_of_row _ _ _ _ _ (0, 0) (heap_alloc_new Wa _), ← hu]
            rw [List.getElem?_toArray]
            rfl)
          have WI := wrap_add1 (a := j) (c := j + 1) rfl (by omega)
          have HMG2 := Lib.hid (show mergeS A B = (P ++ [y]) ++ mergeS (A.drop i) (B.drop (j + 1)) by
            rw [HMG.out, List.append_assoc, mergeS_b (by rw [HNB.out]; exact hltj) (Or.inr ⟨by rw [HNA.out]; exact hlti, by rw [HX.out, HY.out]; exact HLT.out⟩), HY.out]
            rfl)
          clear hz HO HW HTe
          go_wp2_with (at_builtin; refine wpList_appC Wa ((Below.refl _ _).alloc (Nat.le_refl _) _) (KeepsOthers.alloc _ _) rfl _ _ 73 rfl 80 10 ten_elem q X m c (rowT (P ++ [y])) rfl HOf.out Wa.heap.size rfl (HCE.out.1 _) HCE.out.2 (by omega) zf ?_; intro g1 cap Wg og sg hg)
          have HOg := Lib.hid og
          have HBg := Lib.hid (HWf.out.trans sg.below)
          clear og sg HOf HWf HCE
          go_roundg (NA + NB - (m + 1))
          case measure => have := HM.out; omega
          case rel => exact ⟨i, j + 1, m + 1, P ++ [y], some ⟨g1, 0, none⟩, cap, rfl, by go_num, by go_num, by omega, by omega, Lib.hid (by have := HM.out; omega), Nat.le_refl _, Lib.hid (by rw [List.length_append, HPL.out]; rfl), HMG2, HOg, HBg⟩
      · have hje : j = NB := by omega
        have hltjz : ¬ (j : Int) < (NB : Int) := by omega
        have HJE := Lib.hid hje
        subst hje
        go_wp2_with fail
        refine last_cut (by kernel_rfl) (fun U => True) (fun aF a' W' => a' = ((((((((((((((((((((((((aF.put (some 18) (.int .i64 (j : Int))).put (some 19) (.slice pb j cb)).put (some 20) (.int .i64 (j : Int))).put (some 21) (.bool true)).put (some 22) (.bool true)).put (some 23) (undef)).put (some 24) (undef)).put (some 25) (undef)).put (some 26) (undef)).put (some 27) (undef)).put (some 28) (undef)).put (some 29) (undef)).put (some 30) (undef)).put (some 31) (undef)).put (some 32) (undef)).put (some 33) (undef)).put (some 34) (undef)).put (some 35) (undef)).put (some 36) (undef)).put (some 37) (undef)).put (some 38) (undef)).put (some 39) (undef)).put (some 40) (undef)).put (some 41) (.bool true)) ∧ Below wr.heap.size wr W') trivial (fun hS => ?_) ?_
        · skip
          have hSB : ∀ U : World, Below (wr.heap.size) wr U → True := fun _ _ => trivial
          have bV : Below wr.heap.size wr wr.drew := (Below.refl _ _).drew
          generalize wr.drew = V0 at *
          change wpAnyL _ _ _ _ _ 24 #[false, false, false, false, false, false, false, false, false, false, false, false, false, false, false, false, false, false, false, false, false, false, false, false] _ _
          refine wpAnyL_take (i := 0) (v := .int .i64 (j : Int)) (by simp only [List.getElem?_toArray, List.getElem?_cons_succ, List.getElem?_cons_zero]; rfl) (by as_aux_lemma => kernel_rfl) (by as_aux_lemma => kernel_rfl) (by as_aux_lemma => kernel_rfl) (fun _ _ _ h => h) (Or.inl ⟨by rfl, ?_⟩) hS ?_
          · intro U hU
            show _ = _
            kernel_rfl
          simp only [Act.put, List.setIfInBounds_toArray, List.set_cons_zero, List.set_cons_succ]
          refine wpAnyL_take (i := 1) (v := .slice pb j cb) (by simp only [List.getElem?_toArray, List.getElem?_cons_succ, List.getElem?_cons_zero]; rfl) (by as_aux_lemma => kernel_rfl) (by as_aux_lemma => kernel_rfl) (by as_aux_lemma => kernel_rfl) (fun _ _ _ h => h) (Or.inl ⟨by rfl, ?_⟩) hS ?_
          · intro U hU
            show _ = _
            kernel_rfl
          simp only [Act.put, List.setIfInBounds_toArray, List.set_cons_zero, List.set_cons_succ]
          refine wpAnyL_take (i := 2) (v := .int .i64 (j : Int)) (by simp only [List.getElem?_toArray, List.getElem?_cons_succ, List.getElem?_cons_zero]; rfl) (by as_aux_lemma => kernel_rfl) (by as_aux_lemma => kernel_rfl) (by as_aux_lemma => kernel_rfl) (fun _ _ _ h => h) (Or.inl ⟨by rfl, ?_⟩) hS ?_
          · intro U hU
            show _ = _
            go_simp
          simp only [Act.put, List.setIfInBounds_toArray, List.set_cons_zero, List.set_cons_succ]
          refine wpAnyL_take (i := 3) (v := .bool true) (by simp only [List.getElem?_toArray, List.getElem?_cons_succ, List.getElem?_cons_zero]; rfl) (by as_aux_lemma => kernel_rfl) (by as_aux_lemma => kernel_rfl) (by as_aux_lemma => kernel_rfl) (fun _ _ _ h => h) (Or.inl ⟨by rfl, ?_⟩) hS ?_
          · intro U hU
            show _ = _
            go_simp
          simp only [Act.put, List.setIfInBounds_toArray, List.set_cons_zero, List.set_cons_succ]
          refine wpAnyL_take (i := 4) (v := .bool true) (by simp only [List.getElem?_toArray, List.getElem?_cons_succ, List.getElem?_cons_zero]; rfl) (by as_aux_lemma => kernel_rfl) (by as_aux_lemma => kernel_rfl) (by as_aux_lemma => kernel_rfl) (fun _ _ _ h => h) (Or.inl ⟨by rfl, ?_⟩) hS ?_
          · intro U hU
            show _ = _
            kernel_rfl
          simp only [Act.put, List.setIfInBounds_toArray, List.set_cons_zero, List.set_cons_succ]
          refine wpAnyL_take (i := 5) (v := undef) (by simp only [List.getElem?_toArray, List.getElem?_cons_succ, List.getElem?_cons_zero]; rfl) (by as_aux_lemma => kernel_rfl) (by as_aux_lemma => kernel_rfl) (by as_aux_lemma => kernel_rfl) (fun _ _ _ h => h) (Or.inr ⟨by rfl, rfl⟩) hS ?_
          simp only [Act.put, List.setIfInBounds_toArray, List.set_cons_zero, List.set_cons_succ]
          refine wpAnyL_take (i := 6) (v := undef) (by simp only [List.getElem?_toArray, List.getElem?_cons_succ, List.getElem?_cons_zero]; rfl) (by as_aux_lemma => kernel_rfl) (by as_aux_lemma => kernel_rfl) (by as_aux_lemma => kernel_rfl) (fun _ _ _ h => h) (Or.inr ⟨by rfl, rfl⟩) hS ?_
          simp only [Act.put, List.setIfInBounds_toArray, List.set_cons_zero, List.set_cons_succ]
          refine wpAnyL_take (i := 7) (v := undef) (by simp only [List.getElem?_toArray, List.getElem?_cons_succ, List.getElem?_cons_zero]; rfl) (by as_aux_lemma => kernel_rfl) (by as_aux_lemma => kernel_rfl) (by as_aux_lemma => kernel_rfl) (fun _ _ _ h => h) (Or.inr ⟨by rfl, rfl⟩) hS ?_
          simp only [Act.put, List.setIfInBounds_toArray, List.set_cons_zero, List.set_cons_succ]
          refine wpAnyL_take (i := 8) (v := undef) (by simp only [List.getElem?_toArray, List.getElem?_cons_succ, List.getElem?_cons_zero]; rfl) (by as_aux_lemma => kernel_rfl) (by as_aux_lemma => kernel_rfl) (by as_aux_lemma => kernel_rfl) (fun _ _ _ h => h) (Or.inr ⟨by rfl, rfl⟩) hS ?_
          simp only [Act.put, List.setIfInBounds_toArray, List.set_cons_zero, List.set_cons_succ]
          refine wpAnyL_take (i := 9) (v := undef) (by simp only [List.getElem?_toArray, List.getElem?_cons_succ, List.getElem?_cons_zero]; rfl) (by as_aux_lemma => kernel_rfl) (by as_aux_lemma => kernel_rfl) (by as_aux_lemma => kernel_rfl) (fun _ _ _ h => h) (Or.inr ⟨by rfl, rfl⟩) hS ?_
          simp only [Act.put, List.setIfInBounds_toArray, List.set_cons_zero, List.set_cons_succ]
          refine wpAnyL_take (i := 10) (v := undef) (by simp only [List.getElem?_toArray, List.getElem?_cons_succ, List.getElem?_cons_zero]; rfl) (by as_aux_lemma => kernel_rfl) (by as_aux_lemma => kernel_rfl) (by as_aux_lemma => kernel_rfl) (fun _ _ _ h => h) (Or.inr ⟨by rfl, rfl⟩) hS ?_
          simp only [Act.put, List.setIfInBounds_toArray, List.set_cons_zero, List.set_cons_succ]
          refine wpAnyL_take (i := 11) (v := undef) (by simp only [List.getElem?_toArray, List.getElem?_cons_succ, List.getElem?_cons_zero]; rfl) (by as_aux_lemma => kernel_rfl) (by as_aux_lemma => kernel_rfl) (by as_aux_lemma => kernel_rfl) (fun _ _ _ h => h) (Or.inr ⟨by rfl, rfl⟩) hS ?_
          simp only [Act.put, List.setIfInBounds_toArray, List.set_cons_zero, List.set_cons_succ]
          refine wpAnyL_take (i := 12) (v := undef) (by simp only [List.getElem?_toArray, List.getElem?_cons_succ, List.getElem?_cons_zero]; rfl) (by as_aux_lemma => kernel_rfl) (by as_aux_lemma => kernel_rfl) (by as_aux_lemma => kernel_rfl) (fun _ _ _ h => h) (Or.inr ⟨by rfl, rfl⟩) hS ?_
          simp only [Act.put, List.setIfInBounds_toArray, List.set_cons_zero, List.set_cons_succ]
          refine wpAnyL_take (i := 13) (v := undef) (by simp only [List.getElem?_toArray, List.getElem?_cons_succ, List.getElem?_cons_zero]; rfl) (by as_aux_lemma => kernel_rfl) (by as_aux_lemma => kernel_rfl) (by as_aux_lemma => kernel_rfl) (fun _ _ _ h => h) (Or.inr ⟨by rfl, rfl⟩) hS ?_
          simp only [Act.put, List.setIfInBounds_toArray, List.set_cons_zero, List.set_cons_succ]
          refine wpAnyL_take (i := 14) (v := undef) (by simp only [List.getElem?_toArray, List.getElem?_cons_succ, List.getElem?_cons_zero]; rfl) (by as_aux_lemma => kernel_rfl) (by as_aux_lemma => kernel_rfl) (by as_aux_lemma => kernel_rfl) (fun _ _ _ h => h) (Or.inr ⟨by rfl, rfl⟩) hS ?_
          simp only [Act.put, List.setIfInBounds_toArray, List.set_cons_zero, List.set_cons_succ]
          refine wpAnyL_take (i := 15) (v := undef) (by simp only [List.getElem?_toArray, List.getElem?_cons_succ, List.getElem?_cons_zero]; rfl) (by as_aux_lemma => kernel_rfl) (by as_aux_lemma => kernel_rfl) (by as_aux_lemma => kernel_rfl) (fun _ _ _ h => h) (Or.inr ⟨by rfl, rfl⟩) hS ?_
          simp only [Act.put, List.setIfInBounds_toArray, List.set_cons_zero, List.set_cons_succ]
          refine wpAnyL_take (i := 16) (v := undef) (by simp only [List.getElem?_toArray, List.getElem?_cons_succ, List.getElem?_cons_zero]; rfl) (by as_aux_lemma => kernel_rfl) (by as_aux_lemma => kernel_rfl) (by as_aux_lemma => kernel_rfl) (fun _ _ _ h => h) (Or.inr ⟨by rfl, rfl⟩) hS ?_
          simp only [Act.put, List.setIfInBounds_toArray, List.set_cons_zero, List.set_cons_succ]
          refine wpAnyL_take (i := 17) (v := undef) (by simp only [List.getElem?_toArray, List.getElem?_cons_succ, List.getElem?_cons_zero]; rfl) (by as_aux_lemma => kernel_rfl) (by as_aux_lemma => kernel_rfl) (by as_aux_lemma => kernel_rfl) (fun _ _ _ h => h) (Or.inr ⟨by rfl, rfl⟩) hS ?_
          simp only [Act.put, List.setIfInBounds_toArray, List.set_cons_zero, List.set_cons_succ]
          refine wpAnyL_take (i := 18) (v := undef) (by simp only [List.getElem?_toArray, List.getElem?_cons_succ, List.getElem?_cons_zero]; rfl) (by as_aux_lemma => kernel_rfl) (by as_aux_lemma => kernel_rfl) (by as_aux_lemma => kernel_rfl) (fun _ _ _ h => h) (Or.inr ⟨by rfl, rfl⟩) hS ?_
          simp only [Act.put, List.setIfInBounds_toArray, List.set_cons_zero, List.set_cons_succ]
          refine wpAnyL_take (i := 19) (v := undef) (by simp only [List.getElem?_toArray, List.getElem?_cons_succ, List.getElem?_cons_zero]; rfl) (by as_aux_lemma => kernel_rfl) (by as_aux_lemma => kernel_rfl) (by as_aux_lemma => kernel_rfl) (fun _ _ _ h => h) (Or.inr ⟨by rfl, rfl⟩) hS ?_
          simp only [Act.put, List.setIfInBounds_toArray, List.set_cons_zero, List.set_cons_succ]
          refine wpAnyL_take (i := 20) (v := undef) (by simp only [List.getElem?_toArray, List.getElem?_cons_succ, List.getElem?_cons_zero]; rfl) (by as_aux_lemma => kernel_rfl) (by as_aux_lemma => kernel_rfl) (by as_aux_lemma => kernel_rfl) (fun _ _ _ h => h) (Or.inr ⟨by rfl, rfl⟩) hS ?_
          simp only [Act.put, List.setIfInBounds_toArray, List.set_cons_zero, List.set_cons_succ]
          refine wpAnyL_take (i := 21) (v := undef) (by simp only [List.getElem?_toArray, List.getElem?_cons_succ, List.getElem?_cons_zero]; rfl) (by as_aux_lemma => kernel_rfl) (by as_aux_lemma => kernel_rfl) (by as_aux_lemma => kernel_rfl) (fun _ _ _ h => h) (Or.inr ⟨by rfl, rfl⟩) hS ?_
          simp only [Act.put, List.setIfInBounds_toArray, List.set_cons_zero, List.set_cons_succ]
          refine wpAnyL_take (i := 22) (v := undef) (by simp only [List.getElem?_toArray, List.getElem?_cons_succ, List.getElem?_cons_zero]; rfl) (by as_aux_lemma => kernel_rfl) (by as_aux_lemma => kernel_rfl) (by as_aux_lemma => kernel_rfl) (fun _ _ _ h => h) (Or.inr ⟨by rfl, rfl⟩) hS ?_
          simp only [Act.put, List.setIfInBounds_toArray, List.set_cons_zero, List.set_cons_succ]
          refine wpAnyL_take (i := 23) (v := .bool true) (by simp only [List.getElem?_toArray, List.getElem?_cons_succ, List.getElem?_cons_zero]; rfl) (by as_aux_lemma => kernel_rfl) (by as_aux_lemma => kernel_rfl) (by as_aux_lemma => kernel_rfl) (fun _ _ _ h => h) (Or.inl ⟨by rfl, ?_⟩) hS ?_
          · intro U hU
            show _ = _
            kernel_rfl
          simp only [Act.put, List.setIfInBounds_toArray, List.set_cons_zero, List.set_cons_succ]
          refine wpAnyL_done (by as_aux_lemma => kernel_rfl) ?_ _
          simp only [OnlyN]
          refine ⟨?_, bV⟩
          (try simp only [Act.put, List.setIfInBounds_toArray, List.set_cons_zero, List.set_cons_succ])
        rintro a' Wa ⟨rfl, hz⟩
        simp only [Act.put, List.setIfInBounds_toArray, List.set_cons_zero, List.set_cons_succ]
        have HTe := Lib.hid (HTA.out.below hz (by omega))
        have ec0 : Wa.cell? ⟨ba, oa + i * 10, none⟩ = some (.int .i64 x.ly) := HTe.out 0 _ rfl
        have ec1 : Wa.cell? ⟨ba, oa + i * 10 + 1, none⟩ = some (.int .i64 x.rs) := HTe.out 1 _ rfl
        have ec2 : Wa.cell? ⟨ba, oa + i * 10 + 2, none⟩ = some (.int .i64 x.cm) := HTe.out 2 _ rfl
        have ec3 : Wa.cell? ⟨ba, oa + i * 10 + 3, none⟩ = some (.int .i64 x.pc) := HTe.out 3 _ rfl
        have ec4 : Wa.cell? ⟨ba, oa + i * 10 + 4, none⟩ = some (.int .i64 x.r0) := HTe.out 4 _ rfl
        have ec5 : Wa.cell? ⟨ba, oa + i * 10 + 5, none⟩ = some (.int .i64 x.r1) := HTe.out 5 _ rfl
        have ec6 : Wa.cell? ⟨ba, oa + i * 10 + 6, none⟩ = some (.int .i64 x.r2) := HTe.out 6 _ rfl
        have ec7 : Wa.cell? ⟨ba, oa + i * 10 + 7, none⟩ = some (.int .i64 x.r3) := HTe.out 7 _ rfl
        have ec8 : Wa.cell? ⟨ba, oa + i * 10 + 8, none⟩ = some (.int .i64 x.r4) := HTe.out 8 _ rfl
        have ec9 : Wa.cell? ⟨ba, oa + i * 10 + 9, none⟩ = some (.int .i64 x.r5) := HTe.out 9 _ rfl
        have HOf := Lib.hid ((HO.out.below hz).congr (g := rowT (P ++ [x])) (fun _ => rfl) (fun z hz2 => by rw [rowT_lt P [x] (by rw [HPL.out]; exact hz2)]))
        have HWf := Lib.hid (HW.out.trans (hz.mono zw))
        have zf : q ≤ Wa.heap.size := by have := hz.size; omega
        have HCE := Lib.hid (show (∀ (T : TypeId) (z : Nat) (u : Value), (rowT (P ++ [x]) m)[z]? = some u → (Wa.alloc (.cells #[.int .i64 x.ly, .int .i64 x.rs, .int .i64 x.cm, .int .i64 x.pc, .int .i64 x.r0, .int .i64 x.r1, .int .i64 x.r2, .int .i64 x.r3, .int .i64 x.r4, .int .i64 x.r5] T)).cell? ⟨Wa.heap.size, z, none⟩ = some u) ∧ ∀ u ∈ rowT (P ++ [x]) m, u.oneCell' = true by
          rw [← HPL.out, rowT_new]
          refine ⟨fun T z u hu => ?_, one_ten x⟩
          rw [cell_of_row _ _ _ _ _ (0, 0) (heap_alloc_new Wa _), ← hu]
          rw [List.getElem?_toArray]
          rfl)
        have WI := wrap_add1 (a := i) (c := i + 1) rfl (by omega)
        have HMG2 := Lib.hid (show mergeS A B = (P ++ [x]) ++ mergeS (A.drop (i + 1)) (B.drop j) by
          rw [HMG.out, List.append_assoc, mergeS_a (by rw [HNA.out]; exact hlti) (Or.inl HNB.out.symm), HX.out]
          rfl)
        clear hz HO HW HTe
        go_wp2_with (at_builtin; refine wpList_appC Wa ((Below.refl _ _).alloc (Nat.le_refl _) _) (KeepsOthers.alloc _ _) rfl _ _ 73 rfl 80 10 ten_elem q X m c (rowT (P ++ [x])) rfl HOf.out Wa.heap.size rfl (HCE.out.1 _) HCE.out.2 (by omega) zf ?_; intro g1 cap Wg og sg hg)
        have HOg := Lib.hid og
        have HBg := Lib.hid (HWf.out.trans sg.below)
        clear og sg HOf HWf HCE
        go_roundg (NA + j - (m + 1))
        case measure => have := HM.out; omega
        case rel => exact ⟨i + 1, j, m + 1, P ++ [x], some ⟨g1, 0, none⟩, cap, rfl, by go_num, by go_num, by omega, by omega, Lib.hid (by have := HM.out; omega), Nat.le_refl _, Lib.hid (by rw [List.length_append, HPL.out]; rfl), HMG2, HOg, HBg⟩
    · have hie : i = NA := by omega
      have hltiz : ¬ (i : Int) < (NA : Int) := by omega
      by_cases hltj : j < NB
      · have hltjz : (j : Int) < (NB : Int) := by omega
        have hnez : ¬ (j : Int) = (NB : Int) := by omega
        obtain ⟨bb, ob, hpb, hbb, hcb⟩ := (HB.out.below HW.out) (by omega)
        have htb := ten_at (L := B) (k := j) (hpb ▸ HB.out.below HW.out) hltj
        subst hpb
        obtain ⟨y, hy⟩ : ∃ z, B[j]?.getD default = z := ⟨_, rfl⟩
        rw [hy] at htb
        have HY := Lib.hid hy
        have HTB := Lib.hid htb
        have HIE := Lib.hid hie
        clear hy hcb htb hie
        go_wp2_with fail
        refine last_cut (by kernel_rfl) (fun U => True) (fun aF a' W' => a' = ((((((((((((((((((((((((aF.put (some 18) (.int .i64 (j : Int))).put (some 19) (.slice (some ⟨bb, ob, none⟩) NB cb)).put (some 20) (.int .i64 (NB : Int))).put (some 21) (.bool false)).put (some 22) (.bool false)).put (some 23) (.int .i64 (i : Int))).put (some 24) (.slice pa NA ca)).put (some 25) (.int .i64 (NA : Int))).put (some 26) (.bool false)).put (some 27) (.bool false)).put (some 28) (undef)).put (some 29) (undef)).put (some 30) (undef)).put (some 31) (undef)).put (some 32) (undef)).put (some 33) (undef)).put (some 34) (undef)).put (some 35) (undef)).put (some 36) (undef)).put (some 37) (undef)).put (some 38) (undef)).put (some 39) (undef)).put (some 40) (.bool false)).put (some 41) (.bool false)) ∧ Below wr.heap.size wr W') trivial (fun hS => ?_) ?_
        · skip
          have hSB : ∀ U : World, Below (wr.heap.size) wr U → True := fun _ _ => trivial
          have bV : Below wr.heap.size wr wr.drew := (Below.refl _ _).drew
          generalize wr.drew = V0 at *
          change wpAnyL _ _ _ _ _ 24 #[false, false, false, false, false, false, false, false, false, false, false, false, false, false, false, false, false, false, false, false, false, false, false, false] _ _
          refine wpAnyL_take (i := 0) (v := .int .i64 (j : Int)) (by simp only [List.getElem?_toArray, List.getElem?_cons_succ, List.getElem?_cons_zero]; rfl) (by as_aux_lemma => kernel_rfl) (by as_aux_lemma => kernel_rfl) (by as_aux_lemma => kernel_rfl) (fun _ _ _ h => h) (Or.inl ⟨by rfl, ?_⟩) hS ?_
          · intro U hU
            show _ = _
            kernel_rfl
          simp only [Act.put, List.setIfInBounds_toArray, List.set_cons_zero, List.set_cons_succ]
          refine wpAnyL_take (i := 1) (v := .slice (some ⟨bb, ob, none⟩) NB cb) (by simp only [List.getElem?_toArray, List.getElem?_cons_succ, List.getElem?_cons_zero]; rfl) (by as_aux_lemma => kernel_rfl) (by as_aux_lemma => kernel_rfl) (by as_aux_lemma => kernel_rfl) (fun _ _ _ h => h) (Or.inl ⟨by rfl, ?_⟩) hS ?_
          · intro U hU
            show _ = _
            kernel_rfl
          simp only [Act.put, List.setIfInBounds_toArray, List.set_cons_zero, List.set_cons_succ]
          refine wpAnyL_take (i := 2) (v := .int .i64 (NB : Int)) (by simp only [List.getElem?_toArray, List.getElem?_cons_succ, List.getElem?_cons_zero]; rfl) (by as_aux_lemma => kernel_rfl) (by as_aux_lemma => kernel_rfl) (by as_aux_lemma => kernel_rfl) (fun _ _ _ h => h) (Or.inl ⟨by rfl, ?_⟩) hS ?_
          · intro U hU
            show _ = _
            go_simp
          simp only [Act.put, List.setIfInBounds_toArray, List.set_cons_zero, List.set_cons_succ]
          refine wpAnyL_take (i := 3) (v := .bool false) (by simp only [List.getElem?_toArray, List.getElem?_cons_succ, List.getElem?_cons_zero]; rfl) (by as_aux_lemma => kernel_rfl) (by as_aux_lemma => kernel_rfl) (by as_aux_lemma => kernel_rfl) (fun _ _ _ h => h) (Or.inl ⟨by rfl, ?_⟩) hS ?_
          · intro U hU
            show _ = _
            go_simp
          simp only [Act.put, List.setIfInBounds_toArray, List.set_cons_zero, List.set_cons_succ]
          refine wpAnyL_take (i := 4) (v := .bool false) (by simp only [List.getElem?_toArray, List.getElem?_cons_succ, List.getElem?_cons_zero]; rfl) (by as_aux_lemma => kernel_rfl) (by as_aux_lemma => kernel_rfl) (by as_aux_lemma => kernel_rfl) (fun _ _ _ h => h) (Or.inl ⟨by rfl, ?_⟩) hS ?_
          · intro U hU
            show _ = _
            kernel_rfl
          simp only [Act.put, List.setIfInBounds_toArray, List.set_cons_zero, List.set_cons_succ]
          refine wpAnyL_take (i := 5) (v := .int .i64 (i : Int)) (by simp only [List.getElem?_toArray, List.getElem?_cons_succ, List.getElem?_cons_zero]; rfl) (by as_aux_lemma => kernel_rfl) (by as_aux_lemma => kernel_rfl) (by as_aux_lemma => kernel_rfl) (fun _ _ _ h => h) (Or.inl ⟨by rfl, ?_⟩) hS ?_
          · intro U hU
            show _ = _
            kernel_rfl
          simp only [Act.put, List.setIfInBounds_toArray, List.set_cons_zero, List.set_cons_succ]
          refine wpAnyL_take (i := 6) (v := .slice pa NA ca) (by simp only [List.getElem?_toArray, List.getElem?_cons_succ, List.getElem?_cons_zero]; rfl) (by as_aux_lemma => kernel_rfl) (by as_aux_lemma => kernel_rfl) (by as_aux_lemma => kernel_rfl) (fun _ _ _ h => h) (Or.inl ⟨by rfl, ?_⟩) hS ?_
          · intro U hU
            show _ = _
            kernel_rfl
          simp only [Act.put, List.setIfInBounds_toArray, List.set_cons_zero, List.set_cons_succ]
          refine wpAnyL_take (i := 7) (v := .int .i64 (NA : Int)) (by simp only [List.getElem?_toArray, List.getElem?_cons_succ, List.getElem?_cons_zero]; rfl) (by as_aux_lemma => kernel_rfl) (by as_aux_lemma => kernel_rfl) (by as_aux_lemma => kernel_rfl) (fun _ _ _ h => h) (Or.inl ⟨by rfl, ?_⟩) hS ?_
          · intro U hU
            show _ = _
            go_simp
          simp only [Act.put, List.setIfInBounds_toArray, List.set_cons_zero, List.set_cons_succ]
          refine wpAnyL_take (i := 8) (v := .bool false) (by simp only [List.getElem?_toArray, List.getElem?_cons_succ, List.getElem?_cons_zero]; rfl) (by as_aux_lemma => kernel_rfl) (by as_aux_lemma => kernel_rfl) (by as_aux_lemma => kernel_rfl) (fun _ _ _ h => h) (Or.inl ⟨by rfl, ?_⟩) hS ?_
          · intro U hU
            show _ = _
            go_simp
          simp only [Act.put, List.setIfInBounds_toArray, List.set_cons_zero, List.set_cons_succ]
          refine wpAnyL_take (i := 9) (v := .bool false) (by simp only [List.getElem?_toArray, List.getElem?_cons_succ, List.getElem?_cons_zero]; rfl) (by as_aux_lemma => kernel_rfl) (by as_aux_lemma => kernel_rfl) (by as_aux_lemma => kernel_rfl) (fun _ _ _ h => h) (Or.inl ⟨by rfl, ?_⟩) hS ?_
          · intro U hU
            show _ = _
            kernel_rfl
          simp only [Act.put, List.setIfInBounds_toArray, List.set_cons_zero, List.set_cons_succ]
          refine wpAnyL_take (i := 10) (v := undef) (by simp only [List.getElem?_toArray, List.getElem?_cons_succ, List.getElem?_cons_zero]; rfl) (by as_aux_lemma => kernel_rfl) (by as_aux_lemma => kernel_rfl) (by as_aux_lemma => kernel_rfl) (fun _ _ _ h => h) (Or.inr ⟨by rfl, rfl⟩) hS ?_
          simp only [Act.put, List.setIfInBounds_toArray, List.set_cons_zero, List.set_cons_succ]
          refine wpAnyL_take (i := 11) (v := undef) (by simp only [List.getElem?_toArray, List.getElem?_cons_succ, List.getElem?_cons_zero]; rfl) (by as_aux_lemma => kernel_rfl) (by as_aux_lemma => kernel_rfl) (by as_aux_lemma => kernel_rfl) (fun _ _ _ h => h) (Or.inr ⟨by rfl, rfl⟩) hS ?_
          simp only [Act.put, List.setIfInBounds_toArray, List.set_cons_zero, List.set_cons_succ]
          refine wpAnyL_take (i := 12) (v := undef) (by simp only [List.getElem?_toArray, List.getElem?_cons_succ, List.getElem?_cons_zero]; rfl) (by as_aux_lemma => kernel_rfl) (by as_aux_lemma => kernel_rfl) (by as_aux_lemma => kernel_rfl) (fun _ _ _ h => h) (Or.inr ⟨by rfl, rfl⟩) hS ?_
          simp only [Act.put, List.setIfInBounds_toArray, List.set_cons_zero, List.set_cons_succ]
          refine wpAnyL_take (i := 13) (v := undef) (by simp only [List.getElem?_toArray, List.getElem?_cons_succ, List.getElem?_cons_zero]; rfl) (by as_aux_lemma => kernel_rfl) (by as_aux_lemma => kernel_rfl) (by as_aux_lemma => kernel_rfl) (fun _ _ _ h => h) (Or.inr ⟨by rfl, rfl⟩) hS ?_
          simp only [Act.put, List.setIfInBounds_toArray, List.set_cons_zero, List.set_cons_succ]
          refine wpAnyL_take (i := 14) (v := undef) (by simp only [List.getElem?_toArray, List.getElem?_cons_succ, List.getElem?_cons_zero]; rfl) (by as_aux_lemma => kernel_rfl) (by as_aux_lemma => kernel_rfl) (by as_aux_lemma => kernel_rfl) (fun _ _ _ h => h) (Or.inr ⟨by rfl, rfl⟩) hS ?_
          simp only [Act.put, List.setIfInBounds_toArray, List.set_cons_zero, List.set_cons_succ]
          refine wpAnyL_take (i := 15) (v := undef) (by simp only [List.getElem?_toArray, List.getElem?_cons_succ, List.getElem?_cons_zero]; rfl) (by as_aux_lemma => kernel_rfl) (by as_aux_lemma => kernel_rfl) (by as_aux_lemma => kernel_rfl) (fun _ _ _ h => h) (Or.inr ⟨by rfl, rfl⟩) hS ?_
          simp only [Act.put, List.setIfInBounds_toArray, List.set_cons_zero, List.set_cons_succ]
          refine wpAnyL_take (i := 16) (v := undef) (by simp only [List.getElem?_toArray, List.getElem?_cons_succ, List.getElem?_cons_zero]; rfl) (by as_aux_lemma => kernel_rfl) (by as_aux_lemma => kernel_rfl) (by as_aux_lemma => kernel_rfl) (fun _ _ _ h => h) (Or.inr ⟨by rfl, rfl⟩) hS ?_
          simp only [Act.put, List.setIfInBounds_toArray, List.set_cons_zero, List.set_cons_succ]
          refine wpAnyL_take (i := 17) (v := undef) (by simp only [List.getElem?_toArray, List.getElem?_cons_succ, List.getElem?_cons_zero]; rfl) (by as_aux_lemma => kernel_rfl) (by as_aux_lemma => kernel_rfl) (by as_aux_lemma => kernel_rfl) (fun _ _ _ h => h) (Or.inr ⟨by rfl, rfl⟩) hS ?_
          simp only [Act.put, List.setIfInBounds_toArray, List.set_cons_zero, List.set_cons_succ]
          refine wpAnyL_take (i := 18) (v := undef) (by simp only [List.getElem?_toArray, List.getElem?_cons_succ, List.getElem?_cons_zero]; rfl) (by as_aux_lemma => kernel_rfl) (by as_aux_lemma => kernel_rfl) (by as_aux_lemma => kernel_rfl) (fun _ _ _ h => h) (Or.inr ⟨by rfl, rfl⟩) hS ?_
          simp only [Act.put, List.setIfInBounds_toArray, List.set_cons_zero, List.set_cons_succ]
          refine wpAnyL_take (i := 19) (v := undef) (by simp only [List.getElem?_toArray, List.getElem?_cons_succ, List.getElem?_cons_zero]; rfl) (by as_aux_lemma => kernel_rfl) (by as_aux_lemma => kernel_rfl) (by as_aux_lemma => kernel_rfl) (fun _ _ _ h => h) (Or.inr ⟨by rfl, rfl⟩) hS ?_
          simp only [Act.put, List.setIfInBounds_toArray, List.set_cons_zero, List.set_cons_succ]
          refine wpAnyL_take (i := 20) (v := undef) (by simp only [List.getElem?_toArray, List.getElem?_cons_succ, List.getElem?_cons_zero]; rfl) (by as_aux_lemma => kernel_rfl) (by as_aux_lemma => kernel_rfl) (by as_aux_lemma => kernel_rfl) (fun _ _ _ h => h) (Or.inr ⟨by rfl, rfl⟩) hS ?_
          simp only [Act.put, List.setIfInBounds_toArray, List.set_cons_zero, List.set_cons_succ]
          refine wpAnyL_take (i := 21) (v := undef) (by simp only [List.getElem?_toArray, List.getElem?_cons_succ, List.getElem?_cons_zero]; rfl) (by as_aux_lemma => kernel_rfl) (by as_aux_lemma => kernel_rfl) (by as_aux_lemma => kernel_rfl) (fun _ _ _ h => h) (Or.inr ⟨by rfl, rfl⟩) hS ?_
          simp only [Act.put, List.setIfInBounds_toArray, List.set_cons_zero, List.set_cons_succ]
          refine wpAnyL_take (i := 22) (v := .bool false) (by simp only [List.getElem?_toArray, List.getElem?_cons_succ, List.getElem?_cons_zero]; rfl) (by as_aux_lemma => kernel_rfl) (by as_aux_lemma => kernel_rfl) (by as_aux_lemma => kernel_rfl) (fun _ _ _ h => h) (Or.inl ⟨by rfl, ?_⟩) hS ?_
          · intro U hU
            show _ = _
            kernel_rfl
          simp only [Act.put, List.setIfInBounds_toArray, List.set_cons_zero, List.set_cons_succ]
          refine wpAnyL_take (i := 23) (v := .bool false) (by simp only [List.getElem?_toArray, List.getElem?_cons_succ, List.getElem?_cons_zero]; rfl) (by as_aux_lemma => kernel_rfl) (by as_aux_lemma => kernel_rfl) (by as_aux_lemma => kernel_rfl) (fun _ _ _ h => h) (Or.inl ⟨by rfl, ?_⟩) hS ?_
          · intro U hU
            show _ = _
            kernel_rfl
          simp only [Act.put, List.setIfInBounds_toArray, List.set_cons_zero, List.set_cons_succ]
          refine wpAnyL_done (by as_aux_lemma => kernel_rfl) ?_ _
          simp only [OnlyN]
          refine ⟨?_, bV⟩
          (try simp only [Act.put, List.setIfInBounds_toArray, List.set_cons_zero, List.set_cons_succ])
        rintro a' Wa ⟨rfl, hz⟩
        simp only [Act.put, List.setIfInBounds_toArray, List.set_cons_zero, List.set_cons_succ]
        have HTe := Lib.hid (HTB.out.below hz (by omega))
        have ec0 : Wa.cell? ⟨bb, ob + j * 10, none⟩ = some (.int .i64 y.ly) := HTe.out 0 _ rfl
        have ec1 : Wa.cell? ⟨bb, ob + j * 10 + 1, none⟩ = some (.int .i64 y.rs) := HTe.out 1 _ rfl
        have ec2 : Wa.cell? ⟨bb, ob + j * 10 + 2, none⟩ = some (.int .i64 y.cm) := HTe.out 2 _ rfl
        have ec3 : Wa.cell? ⟨bb, ob + j * 10 + 3, none⟩ = some (.int .i64 y.pc) := HTe.out 3 _ rfl
        have ec4 : Wa.cell? ⟨bb, ob + j * 10 + 4, none⟩ = some (.int .i64 y.r0) := HTe.out 4 _ rfl
        have ec5 : Wa.cell? ⟨bb, ob + j * 10 + 5, none⟩ = some (.int .i64 y.r1) := HTe.out 5 _ rfl
        have ec6 : Wa.cell? ⟨bb, ob + j * 10 + 6, none⟩ = some (.int .i64 y.r2) := HTe.out 6 _ rfl
        have ec7 : Wa.cell? ⟨bb, ob + j * 10 + 7, none⟩ = some (.int .i64 y.r3) := HTe.out 7 _ rfl
        have ec8 : Wa.cell? ⟨bb, ob + j * 10 + 8, none⟩ = some (.int .i64 y.r4) := HTe.out 8 _ rfl
        have ec9 : Wa.cell? ⟨bb, ob + j * 10 + 9, none⟩ = some (.int .i64 y.r5) := HTe.out 9 _ rfl
        have HOf := Lib.hid ((HO.out.below hz).congr (g := rowT (P ++ [y])) (fun _ => rfl) (fun z hz2 => by rw [rowT_lt P [y] (by rw [HPL.out]; exact hz2)]))
        have HWf := Lib.hid (HW.out.trans (hz.mono zw))
        have zf : q ≤ Wa.heap.size := by have := hz.size; omega
        have HCE := Lib.hid (show (∀ (T : TypeId) (z : Nat) (u : Value), (rowT (P ++ [y]) m)[z]? = some u → (Wa.alloc (.cells #[.int .i64 y.ly, .int .i64 y.rs, .int .i64 y.cm, .int .i64 y.pc, .int .i64 y.r0, .int .i64 y.r1, .int .i64 y.r2, .int .i64 y.r3, .int .i64 y.r4, .int .i64 y.r5] T)).cell? ⟨Wa.heap.size, z, none⟩ = some u) ∧ ∀ u ∈ rowT (P ++ [y]) m, u.oneCell' = true by
          rw [← HPL.out, rowT_new]
          refine ⟨fun T z u hu => ?_, one_ten y⟩
          rw [cell_of_row _ _ _ _ _ (0, 0) (heap_alloc_new Wa _), ← hu]
          rw [List.getElem?_toArray]
          rfl)
        have WI := wrap_add1 (a := j) (c := j + 1) rfl (by omega)
        have HMG2 := Lib.hid (show mergeS A B = (P ++ [y]) ++ mergeS (A.drop i) (B.drop (j + 1)) by
          rw [HMG.out, List.append_assoc, mergeS_b (by rw [HNB.out]; exact hltj) (Or.inl (by rw [HNA.out]; exact HIE.out)), HY.out]
          rfl)
        clear hz HO HW HTe
        go_wp2_with (at_builtin; refine wpList_appC Wa ((Below.refl _ _).alloc (Nat.le_refl _) _) (KeepsOthers.alloc _ _) rfl _ _ 73 rfl 80 10 ten_elem q X m c (rowT (P ++ [y])) rfl HOf.out Wa.heap.size rfl (HCE.out.1 _) HCE.out.2 (by omega) zf ?_; intro g1 cap Wg og sg hg)
        have HOg := Lib.hid og
        have HBg := Lib.hid (HWf.out.trans sg.below)
        clear og sg HOf HWf HCE
        go_roundg (NA + NB - (m + 1))
        case measure => have := HM.out; omega
        case rel => exact ⟨i, j + 1, m + 1, P ++ [y], some ⟨g1, 0, none⟩, cap, rfl, by go_num, by go_num, by omega, by omega, Lib.hid (by have := HM.out; omega), Nat.le_refl _, Lib.hid (by rw [List.length_append, HPL.out]; rfl), HMG2, HOg, HBg⟩
      · have hltjz : ¬ (j : Int) < (NB : Int) := by omega
        have hje : j = NB := by omega
        have HME := Lib.hid (show m = NA + NB ∧ mergeS A B = P by
          refine ⟨by have := HM.out; omega, ?_⟩
          rw [HMG.out, List.drop_eq_nil_of_le (by rw [HNA.out]; omega), List.drop_eq_nil_of_le (by rw [HNB.out]; omega), mergeS_nil, List.append_nil])
        clear hje hie
        go_wp2_with fail
        go_ret
        refine ⟨X, c, ?_, ?_, HW.out⟩
        · rw [← HME.out.1]; rfl
        · rw [← HME.out.1, HME.out.2]; exact HO.out
theorem exec_sliceHL {P : Program} {o : Oper} {a : Act} {U : World} {t : TypeId} {x y : Operand} {v u r : Value} (ho : o.op = .slice t x none (some y) none) (hx : a.eval x = v) (hy : a.eval y = r)
    (hr : (Instr.sliceAt t v none (some r) none).run P U = .ok u U) : (execOp a.eval o).run P U = .ok (.value u) U := by
  unfold execOp
  simp [ho, hx, hy, hr]
theorem exec_sliceLH {P : Program} {o : Oper} {a : Act} {U : World} {t : TypeId} {x y : Operand} {v u r : Value} (ho : o.op = .slice t x (some y) none none) (hx : a.eval x = v) (hy : a.eval y = r)
    (hr : (Instr.sliceAt t v (some r) none none).run P U = .ok u U) : (execOp a.eval o).run P U = .ok (.value u) U := by
  unfold execOp
  simp [ho, hx, hy, hr]
theorem slice_ten {w : World} {B : Nat} {A : Option Addr} {N c hi : Nat} {f : Nat → List Value} (h : CellsAt w B A 10 N f) (hc : N ≤ c) (h0 : 0 < hi) (hh : hi < N) :
    ∃ A2, (∀ u, (Instr.sliceAt 73 (.slice A N c) none (some (.int .i64 (hi : Int))) none).run Try.prog u = .ok (.slice A hi c) u) ∧ CellsAt w B A 10 hi f ∧
      (∀ u, (Instr.sliceAt 73 (.slice A N c) (some (.int .i64 (hi : Int))) none none).run Try.prog u = .ok (.slice A2 (N - hi) (c - hi)) u) ∧ CellsAt w B A2 10 (N - hi) (fun k => f (hi + k)) := by
  have hinfo : (Try.prog.info? 80).map (fun i => i.size) = some 10 := by kernel_rfl
  obtain ⟨i, hi', hz1⟩ : ∃ i, Try.prog.info? 80 = some i ∧ i.size = 10 := by
    rcases hp : Try.prog.info? 80 with _ | i
    · rw [hp] at hinfo; cases hinfo
    · rw [hp] at hinfo
      simp only [Option.map_some, Option.some.injEq] at hinfo
      exact ⟨i, rfl, hinfo⟩
  have he : Try.prog.elem 73 = 80 := by kernel_rfl
  have ht' : Try.prog.underlying 73 = some (.slice (Try.prog.elem 73)) := by rw [he]; exact Try.underlying73
  obtain ⟨b, off, rfl, hlt, hk⟩ := h (by omega)
  refine ⟨some ⟨b, off + hi * 10, none⟩, fun u => ?_, fun _ => ⟨b, off, rfl, hlt, fun k hk1 => hk k (by omega)⟩, fun u => ?_, fun _ => ⟨b, off + hi * 10, rfl, hlt, fun k hk1 j v hv => ?_⟩⟩
  · rw [run_sliceAt_slice _ _ _ _ _ _ ht', run_slice_h _ _ _ _ _ ht' _ _ (by omega) (by omega)]
    rw [he]
    have e1 : ((hi : Nat) : Int).toNat = hi := by omega
    rw [e1]
    simp [sizeOf, typeInfo, hi', hz1, sliced, Addr.add]
  · rw [run_sliceAt_slice _ _ _ _ _ _ ht', run_slice_l _ _ _ _ _ ht' _ _ (by omega) (by omega)]
    rw [he]
    have e1 : ((hi : Nat) : Int).toNat = hi := by omega
    rw [e1]
    have e2 : ¬ c = hi := by omega
    simp [sizeOf, typeInfo, hi', hz1, sliced, Addr.add, e2]
    omega
  · have := hk (hi + k) (by omega) j v hv
    rw [Nat.add_mul, ← Nat.add_assoc] at this
    exact this
theorem pair_one {L : List Spot} (h : L.length < 2) : L.Pairwise (fun a b => ltS b a = false) := by
  match L, h with
  | [], _ => exact List.Pairwise.nil
  | [a], _ => simp
theorem sorted_any : ∀ (N : Nat) (L : List Spot), L.length ≤ N → L.length ≤ 1000000 → ∀ (A : Option Addr) (c : Nat), L.length ≤ c → ∀ w : World, CellsAt w w.heap.size A 10 L.length (rowT L) →
    Calls Try.prog 35 #[.slice A L.length c] w fun e w' => ∃ (K : List Spot) (X : Option Addr) (c' : Nat), e = .returned (.slice X L.length c') ∧ K.Perm L ∧ K.Pairwise (fun a b => ltS b a = false) ∧ L.length ≤ c' ∧ CellsAt w' w'.heap.size X 10 L.length (rowT K) ∧ Below w.heap.size w w' := by
  intro N
  induction N with
  | zero =>
    intro L hN hM A c hc w ha
    have h0 : L.length = 0 := by omega
    have hP := Lib.hid (pair_one (L := L) (by omega))
    have HA := Lib.hid ha
    have HL := Lib.hid h0
    rw [h0]
    go_enter Try.func35, Try.ntmps35
    clear h0 ha
    go_wp2_with fail
    go_ret
    exact ⟨L, A, c, rfl, List.Perm.refl _, hP.out, by omega, by have := HA.out; rw [HL.out] at this; exact this, Below.refl _ _⟩
  | succ N ih =>
    intro L hN hM A c hc w ha
    by_cases h2 : L.length < 2
    · have hP := Lib.hid (pair_one h2)
      obtain ⟨n, hn⟩ : ∃ n, L.length = n := ⟨_, rfl⟩
      have HA := Lib.hid ha
      rw [hn] at h2 HA hc ⊢
      have h2z : (n : Int) < 2 := by omega
      clear ha hn ih
      go_enter Try.func35, Try.ntmps35
      go_wp2_with fail
      go_ret
      exact ⟨L, A, c, rfl, List.Perm.refl _, hP.out, hc, HA.out, Below.refl _ _⟩
    · obtain ⟨n, hn⟩ : ∃ n, L.length = n := ⟨_, rfl⟩
      obtain ⟨h, hh⟩ : ∃ h, n / 2 = h := ⟨_, rfl⟩
      have hh1 : 1 ≤ h ∧ h < n := by omega
      obtain ⟨m, hm⟩ : ∃ m, n - h = m := ⟨_, rfl⟩
      obtain ⟨A2, r1, c1, r2, c2⟩ := slice_ten ha (by omega) (hi := h) (by omega) (by omega)
      rw [hn] at r1 r2 c2
      rw [hm] at r2 c2
      obtain ⟨L1, hL1⟩ : ∃ l, L.take h = l := ⟨_, rfl⟩
      obtain ⟨L2, hL2⟩ : ∃ l, L.drop h = l := ⟨_, rfl⟩
      have hl1 : L1.length = h := by rw [← hL1, List.length_take]; omega
      have hl2 : L2.length = m := by rw [← hL2, List.length_drop]; omega
      have HLL := Lib.hid (show L1 ++ L2 = L by rw [← hL1, ← hL2, List.take_append_drop])
      have HC1 := Lib.hid (show CellsAt w w.heap.size A 10 h (rowT L1) from c1.congr (fun k hk => by rw [← hL1, rowT_take L h k (by rw [hL1, hl1]; exact hk)]))
      have HC2 := Lib.hid (show CellsAt w w.heap.size A2 10 m (rowT L2) from c2.congr (fun k hk => by rw [← hL2, rowT_drop]))
      have H1 := Lib.hid (fun (V : World) (hV : CellsAt V V.heap.size A 10 h (rowT L1)) => by
        have := ih L1 (by omega) (by omega) A c (by omega) V (by rw [hl1]; exact hV)
        rw [hl1] at this
        exact this)
      have H2 := Lib.hid (fun (V : World) (hV : CellsAt V V.heap.size A2 10 m (rowT L2)) => by
        have := ih L2 (by omega) (by omega) A2 (c - h) (by omega) V (by rw [hl2]; exact hV)
        rw [hl2] at this
        exact this)
      have HM := Lib.hid (fun (K1 K2 : List Spot) (e1 : K1.length = h) (e2 : K2.length = m) (X1 X2 : Option Addr) (d1 d2 : Nat) (V : World) (g1 : CellsAt V V.heap.size X1 10 h (rowT K1)) (g2 : CellsAt V V.heap.size X2 10 m (rowT K2)) => by
        have := merge_any K1 K2 X1 X2 d1 d2 V (by rw [e1]; exact g1) (by rw [e2]; exact g2) (by omega)
        rw [e1, e2, show h + m = n by omega] at this
        exact this)
      have HR1 := Lib.hid r1
      have HR2 := Lib.hid r2
      have HQ := Lib.hid (show IntKind.i64.wrap ((n : Int) / 2) = (h : Int) by rw [IntKind.wrap_i64]; omega)
      have HP1 := Lib.hid (show ∀ K : List Spot, K.Perm L1 → K.length = h from fun K hK => hK.length_eq.trans hl1)
      have HP2 := Lib.hid (show ∀ K : List Spot, K.Perm L2 → K.length = m from fun K hK => hK.length_eq.trans hl2)
      rw [hn] at h2 ⊢
      have h2z : ¬ (n : Int) < 2 := by omega
      clear r1 r2 c1 c2 ha ih hL1 hL2 hl1 hl2 hh hm hn
      go_enter Try.func35, Try.ntmps35
      go_wp2_with fail
      refine last_cut (by kernel_rfl) (fun U => True) (fun aF a' W' => ∃ (K1 K2 : List Spot) (X1 X2 X3 : Option Addr) (d1 d2 d3 : Nat), a' = ((((((((((((((aF.put (some 7) (.slice A n c)).put (some 8) (.slice A n c)).put (some 9) (.int .i64 (n : Int))).put (some 10) (.int .i64 (h : Int))).put (some 11) (.slice A h c)).put (some 12) (.slice X1 h d1)).put (some 13) (.slice A n c)).put (some 14) (.slice A n c)).put (some 15) (.int .i64 (n : Int))).put (some 16) (.int .i64 (h : Int))).put (some 17) (.slice A2 m (c - h))).put (some 18) (.slice X2 m d2)).put (some 19) (.slice X3 n d3)).put (some 2) (.slice X3 n d3)) ∧ K1.Perm L1 ∧ K2.Perm L2 ∧ K1.Pairwise (fun a b => ltS b a = false) ∧ K2.Pairwise (fun a b => ltS b a = false) ∧ n ≤ d3 ∧ CellsAt W' W'.heap.size X3 10 n (rowT (mergeS K1 K2)) ∧ Below w.heap.size w W') trivial (fun hS => ?_) ?_
      · skip
        have hSB : ∀ U : World, Below (w.heap.size) w U → True := fun _ _ => trivial
        have bV : Below w.heap.size w w.drew := (Below.refl _ _).drew
        generalize w.drew = V0 at *
        change wpAnyL _ _ _ _ _ 14 #[false, false, false, false, false, false, false, false, false, false, false, false, false, false] _ _
        refine wpAnyL_take (i := 0) (v := .slice A n c) (by simp only [List.getElem?_toArray, List.getElem?_cons_succ, List.getElem?_cons_zero]; rfl) (by as_aux_lemma => kernel_rfl) (by as_aux_lemma => kernel_rfl) (by as_aux_lemma => kernel_rfl) (fun _ _ _ h => h) (Or.inl ⟨by rfl, ?_⟩) hS ?_
        · intro U hU
          show _ = _
          kernel_rfl
        simp only [Act.put, List.setIfInBounds_toArray, List.set_cons_zero, List.set_cons_succ]
        refine wpAnyL_take (i := 1) (v := .slice A n c) (by simp only [List.getElem?_toArray, List.getElem?_cons_succ, List.getElem?_cons_zero]; rfl) (by as_aux_lemma => kernel_rfl) (by as_aux_lemma => kernel_rfl) (by as_aux_lemma => kernel_rfl) (fun _ _ _ h => h) (Or.inl ⟨by rfl, ?_⟩) hS ?_
        · intro U hU
          show _ = _
          kernel_rfl
        simp only [Act.put, List.setIfInBounds_toArray, List.set_cons_zero, List.set_cons_succ]
        refine wpAnyL_take (i := 2) (v := .int .i64 (n : Int)) (by simp only [List.getElem?_toArray, List.getElem?_cons_succ, List.getElem?_cons_zero]; rfl) (by as_aux_lemma => kernel_rfl) (by as_aux_lemma => kernel_rfl) (by as_aux_lemma => kernel_rfl) (fun _ _ _ h => h) (Or.inl ⟨by rfl, ?_⟩) hS ?_
        · intro U hU
          show _ = _
          go_simp
        simp only [Act.put, List.setIfInBounds_toArray, List.set_cons_zero, List.set_cons_succ]
        refine wpAnyL_take (i := 3) (v := .int .i64 (h : Int)) (by simp only [List.getElem?_toArray, List.getElem?_cons_succ, List.getElem?_cons_zero]; rfl) (by as_aux_lemma => kernel_rfl) (by as_aux_lemma => kernel_rfl) (by as_aux_lemma => kernel_rfl) (fun _ _ _ h => h) (Or.inl ⟨by rfl, ?_⟩) hS ?_
        · intro U hU
          show _ = _
          have z1 := HQ.out
          go_simp
        simp only [Act.put, List.setIfInBounds_toArray, List.set_cons_zero, List.set_cons_succ]
        refine wpAnyL_take (i := 4) (v := .slice A h c) (by simp only [List.getElem?_toArray, List.getElem?_cons_succ, List.getElem?_cons_zero]; rfl) (by as_aux_lemma => kernel_rfl) (by as_aux_lemma => kernel_rfl) (by as_aux_lemma => kernel_rfl) (fun _ _ _ h => h) (Or.inl ⟨by rfl, ?_⟩) hS ?_
        · intro U hU
          show _ = _
          exact exec_sliceHL rfl rfl rfl (HR1.out _)
        simp only [Act.put, List.setIfInBounds_toArray, List.set_cons_zero, List.set_cons_succ]
        refine wpAnyL_take (i := 6) (v := .slice A n c) (by simp only [List.getElem?_toArray, List.getElem?_cons_succ, List.getElem?_cons_zero]; rfl) (by as_aux_lemma => kernel_rfl) (by as_aux_lemma => kernel_rfl) (by as_aux_lemma => kernel_rfl) (fun _ _ _ h => h) (Or.inl ⟨by rfl, ?_⟩) hS ?_
        · intro U hU
          show _ = _
          kernel_rfl
        simp only [Act.put, List.setIfInBounds_toArray, List.set_cons_zero, List.set_cons_succ]
        refine wpAnyL_take (i := 7) (v := .slice A n c) (by simp only [List.getElem?_toArray, List.getElem?_cons_succ, List.getElem?_cons_zero]; rfl) (by as_aux_lemma => kernel_rfl) (by as_aux_lemma => kernel_rfl) (by as_aux_lemma => kernel_rfl) (fun _ _ _ h => h) (Or.inl ⟨by rfl, ?_⟩) hS ?_
        · intro U hU
          show _ = _
          kernel_rfl
        simp only [Act.put, List.setIfInBounds_toArray, List.set_cons_zero, List.set_cons_succ]
        refine wpAnyL_take (i := 8) (v := .int .i64 (n : Int)) (by simp only [List.getElem?_toArray, List.getElem?_cons_succ, List.getElem?_cons_zero]; rfl) (by as_aux_lemma => kernel_rfl) (by as_aux_lemma => kernel_rfl) (by as_aux_lemma => kernel_rfl) (fun _ _ _ h => h) (Or.inl ⟨by rfl, ?_⟩) hS ?_
        · intro U hU
          show _ = _
          go_simp
        simp only [Act.put, List.setIfInBounds_toArray, List.set_cons_zero, List.set_cons_succ]
        refine wpAnyL_take (i := 9) (v := .int .i64 (h : Int)) (by simp only [List.getElem?_toArray, List.getElem?_cons_succ, List.getElem?_cons_zero]; rfl) (by as_aux_lemma => kernel_rfl) (by as_aux_lemma => kernel_rfl) (by as_aux_lemma => kernel_rfl) (fun _ _ _ h => h) (Or.inl ⟨by rfl, ?_⟩) hS ?_
        · intro U hU
          show _ = _
          have z1 := HQ.out
          go_simp
        simp only [Act.put, List.setIfInBounds_toArray, List.set_cons_zero, List.set_cons_succ]
        refine wpAnyL_take (i := 10) (v := .slice A2 m (c - h)) (by simp only [List.getElem?_toArray, List.getElem?_cons_succ, List.getElem?_cons_zero]; rfl) (by as_aux_lemma => kernel_rfl) (by as_aux_lemma => kernel_rfl) (by as_aux_lemma => kernel_rfl) (fun _ _ _ h => h) (Or.inl ⟨by rfl, ?_⟩) hS ?_
        · intro U hU
          show _ = _
          exact exec_sliceLH rfl rfl rfl (HR2.out _)
        simp only [Act.put, List.setIfInBounds_toArray, List.set_cons_zero, List.set_cons_succ]
        refine wpAnyL_ready (rs := [5]) (by as_aux_lemma => kernel_rfl) (by simp) ?_
        refine AllReadyL.cons (by simp only [List.getElem?_toArray, List.getElem?_cons_succ, List.getElem?_cons_zero]; rfl) (fun K' hK' => ?_) AllReadyL.nil
        go_simp
        go_at_call 35
        refine (H1.out _ ((HC1.out.below (bV)).more (bV).size)).mono ?_
        rintro e' U5 ⟨K1, X1, d1, rfl, p1, s1, l1, g1, hb5⟩
        have b5 := below_trans bV hb5
        have hS := hSB _ b5
        dsimp only
        refine hK'.out _ _ hS (fun _ => ?_)
        clear hb5 bV
        clear hK' K'
        try simp only [Act.put, List.setIfInBounds_toArray, List.set_cons_zero, List.set_cons_succ]
        refine wpAnyL_ready (rs := [11]) (by as_aux_lemma => kernel_rfl) (by simp) ?_
        refine AllReadyL.cons (by simp only [List.getElem?_toArray, List.getElem?_cons_succ, List.getElem?_cons_zero]; rfl) (fun K' hK' => ?_) AllReadyL.nil
        go_simp
        go_at_call 35
        refine (H2.out _ ((HC2.out.below (b5)).more (b5).size)).mono ?_
        rintro e' U11 ⟨K2, X2, d2, rfl, p2, s2, l2, g2, hb11⟩
        replace g1 := (g1.below hb11).more hb11.size
        have b11 := below_trans b5 hb11
        have hS := hSB _ b11
        dsimp only
        refine hK'.out _ _ hS (fun _ => ?_)
        clear hb11 b5
        clear hK' K'
        try simp only [Act.put, List.setIfInBounds_toArray, List.set_cons_zero, List.set_cons_succ]
        refine wpAnyL_ready (rs := [12]) (by as_aux_lemma => kernel_rfl) (by simp) ?_
        refine AllReadyL.cons (by simp only [List.getElem?_toArray, List.getElem?_cons_succ, List.getElem?_cons_zero]; rfl) (fun K' hK' => ?_) AllReadyL.nil
        go_simp
        go_at_call 49
        refine (HM.out K1 K2 (HP1.out K1 p1) (HP2.out K2 p2) X1 X2 d1 d2 _ g1 g2).mono ?_
        rintro e' U12 ⟨X3, d3, rfl, o3, hb12⟩
        have b12 := below_trans b11 hb12
        have hS := hSB _ b12
        dsimp only
        refine hK'.out _ _ hS (fun _ => ?_)
        clear hb12 b11
        clear hK' K'
        try simp only [Act.put, List.setIfInBounds_toArray, List.set_cons_zero, List.set_cons_succ]
        refine wpAnyL_take (i := 13) (v := .slice X3 n d3) (by simp only [List.getElem?_toArray, List.getElem?_cons_succ, List.getElem?_cons_zero]; rfl) (by as_aux_lemma => kernel_rfl) (by as_aux_lemma => kernel_rfl) (by as_aux_lemma => kernel_rfl) (fun _ _ _ h => h) (Or.inl ⟨by rfl, ?_⟩) hS ?_
        · intro U hU
          show _ = _
          kernel_rfl
        simp only [Act.put, List.setIfInBounds_toArray, List.set_cons_zero, List.set_cons_succ]
        refine wpAnyL_done (by as_aux_lemma => kernel_rfl) ?_ _
        simp only [OnlyN]
        refine ⟨K1, K2, X1, X2, X3, d1, d2, d3, ?_, p1, p2, s1, s2, o3.cap.1, o3.at_, b12⟩
        (try simp only [Act.put, List.setIfInBounds_toArray, List.set_cons_zero, List.set_cons_succ])
      rintro a' Wa ⟨K1, K2, X1, X2, X3, d1, d2, d3, rfl, p1, p2, s1, s2, hd, g3, hb3⟩
      simp only [Act.put, List.setIfInBounds_toArray, List.set_cons_zero, List.set_cons_succ]
      have HK := Lib.hid (And.intro (show (mergeS K1 K2).Perm L by rw [← HLL.out]; exact (mergeS_perm K1 K2).trans (p1.append p2)) (mergeS_sorted s1 s2))
      have HG := Lib.hid (And.intro g3 (And.intro hd hb3))
      clear p1 p2 s1 s2 g3 hd hb3
      go_wp2_with fail
      go_ret
      exact ⟨mergeS K1 K2, X3, d3, rfl, HK.out.1, HK.out.2, HG.out.2.1, HG.out.1, HG.out.2.2⟩
end Go.Proofs.Ytpgkdpoehkdhcaa
