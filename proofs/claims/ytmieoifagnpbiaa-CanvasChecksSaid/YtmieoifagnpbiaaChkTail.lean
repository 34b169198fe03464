/- THE LAST REGION of waveletlaw12.CanvasChecks: whatever lies in the boxes, the program and the document answer the same. -/
import Derived.Test.YtmieoifagnpbiaaRefC
import Derived.Deep.CutBlock
namespace Go.Proofs.Ytmieoifagnpbiaa
open Go.RowKit
attribute [local go_sem] opv opnd
set_option maxHeartbeats 40000000
set_option linter.unusedVariables false
set_option linter.unusedSimpArgs false
set_option maxRecDepth 1000000

def regionOf (i : Nat) : Code → Option Code
  | .region id ops d => if id = i then some (.region id ops d) else none
  | .seq a b => match regionOf i a with
    | some c => some c
    | none => regionOf i b
  | .block _ c => regionOf i c
  | .scope c => regionOf i c
  | .cond _ a b => match regionOf i a with
    | some c => some c
    | none => regionOf i b
  | .loop c => regionOf i c
  | _ => none
noncomputable def chkR22 : Code := (Try.f5.body.bind (regionOf 22)).getD .skip

theorem chk_tail {c0 c1 c2 c3 c4 c5 c6 c7 c8 c9 c10 c13 c14 c15 c16 c17 c18 c19 c20 c21 c22 c23 c24 c25 c26 c27 c28 c29 c30 c31 c32 c33 c34 c35 c36 c37 c38 c39 c40 c41 c42 c43 c44 c45 c46 c47 c48 c49 c50 c51 c52 c53 c54 c55 c56 c57 c58 c59 c60 c61 c62 c63 c64 c65 c66 c67 c68 c69 c70 c71 c72 c73 c74 c75 c76 c77 c78 c79 c80 c81 c82 c83 c84 c85 c86 c87 c88 c89 c90 c91 c92 c93 c94 c95 c96 c97 c98 c99 c100 c101 c102 c103 c104 c105 c106 c107 c108 c109 c110 c111 c112 c113 c114 c115 c116 c117 c118 c119 c120 c121 c122 c123 c124 c125 c126 c127 c128 c129 c130 c131 c132 c133 c134 c135 c136 c137 c138 c139 c140 c141 c142 c143 c144 c145 c146 c147 c148 c149 c150 c151 c152 c153 c154 c155 c156 c157 c158 c159 c160 c161 : Value} (gm gp : Nat) (X Y Ox Oy : Int) (A : Option Addr) (n c : Nat) (tx ty lv cw ch pr st od ly : Int) (rct sop eph : Bool) (F : Nat → CompD) (G : Nat → Nat → Int) (V : World)
    (hm : V.heap[gm]? = some (.cells #[.int .i64 X, .int .i64 Y, .int .i64 Ox, .int .i64 Oy, .slice A n c] 25 (0, 0))) (hp : V.heap[gp]? = some (.cells #[.int .i64 tx, .int .i64 ty, .int .i64 lv, .int .i64 cw, .int .i64 ch, .int .i64 pr, .int .i64 st, .int .i64 od, .int .i64 ly, .bool rct, .bool sop, .bool eph] 27 (0, 0))) (ha : CompsAt V V.heap.size A n F) (hc : n ≤ c)
    (hG : ∀ k, k < n → IntsAt V V.heap.size (F k).A (F k).n (G k)) (hN : ∀ k, k < n → (F k).n ≤ 1099511627776)
    (QQ : Exit → Act → World → Prop) (hexit : ∀ (u146 u147 u148 u149 u150 u151 u152 u153 u154 u155 u156 u157 u158 u159 u160 u161 : Value) (w' : World), Below V.heap.size V w' → QQ .normal ⟨List.toArray (c0 :: c1 :: c2 :: c3 :: c4 :: c5 :: c6 :: c7 :: c8 :: c9 :: Value.bool true :: Value.pointer (some ⟨gm, 0, none⟩) :: Value.pointer (some ⟨gp, 0, none⟩) :: c13 :: c14 :: c15 :: c16 :: c17 :: c18 :: c19 :: c20 :: c21 :: c22 :: c23 :: c24 :: c25 :: c26 :: c27 :: c28 :: c29 :: c30 :: c31 :: c32 :: c33 :: c34 :: c35 :: c36 :: c37 :: c38 :: c39 :: c40 :: c41 :: c42 :: c43 :: c44 :: c45 :: c46 :: c47 :: c48 :: c49 :: c50 :: c51 :: c52 :: c53 :: c54 :: c55 :: c56 :: c57 :: c58 :: c59 :: c60 :: c61 :: c62 :: c63 :: c64 :: c65 :: c66 :: c67 :: c68 :: c69 :: c70 :: c71 :: c72 :: c73 :: c74 :: c75 :: c76 :: c77 :: c78 :: c79 :: c80 :: c81 :: c82 :: c83 :: c84 :: c85 :: c86 :: c87 :: c88 :: c89 :: c90 :: c91 :: c92 :: c93 :: c94 :: c95 :: c96 :: c97 :: c98 :: c99 :: c100 :: c101 :: c102 :: c103 :: c104 :: c105 :: c106 :: c107 :: c108 :: c109 :: c110 :: c111 :: c112 :: c113 :: c114 :: c115 :: c116 :: c117 :: c118 :: c119 :: c120 :: c121 :: c122 :: c123 :: c124 :: c125 :: c126 :: c127 :: c128 :: c129 :: c130 :: c131 :: c132 :: c133 :: c134 :: c135 :: c136 :: c137 :: c138 :: c139 :: c140 :: c141 :: c142 :: c143 :: c144 :: c145 :: u146 :: u147 :: u148 :: u149 :: u150 :: u151 :: u152 :: u153 :: u154 :: u155 :: u156 :: u157 :: u158 :: u159 :: u160 :: u161 :: []), []⟩ w') :
    Code.wp Try.prog chkR22 QQ ⟨List.toArray (c0 :: c1 :: c2 :: c3 :: c4 :: c5 :: c6 :: c7 :: c8 :: c9 :: c10 :: Value.pointer (some ⟨gm, 0, none⟩) :: Value.pointer (some ⟨gp, 0, none⟩) :: c13 :: c14 :: c15 :: c16 :: c17 :: c18 :: c19 :: c20 :: c21 :: c22 :: c23 :: c24 :: c25 :: c26 :: c27 :: c28 :: c29 :: c30 :: c31 :: c32 :: c33 :: c34 :: c35 :: c36 :: c37 :: c38 :: c39 :: c40 :: c41 :: c42 :: c43 :: c44 :: c45 :: c46 :: c47 :: c48 :: c49 :: c50 :: c51 :: c52 :: c53 :: c54 :: c55 :: c56 :: c57 :: c58 :: c59 :: c60 :: c61 :: c62 :: c63 :: c64 :: c65 :: c66 :: c67 :: c68 :: c69 :: c70 :: c71 :: c72 :: c73 :: c74 :: c75 :: c76 :: c77 :: c78 :: c79 :: c80 :: c81 :: c82 :: c83 :: c84 :: c85 :: c86 :: c87 :: c88 :: c89 :: c90 :: c91 :: c92 :: c93 :: c94 :: c95 :: c96 :: c97 :: c98 :: c99 :: c100 :: c101 :: c102 :: c103 :: c104 :: c105 :: c106 :: c107 :: c108 :: c109 :: c110 :: c111 :: c112 :: c113 :: c114 :: c115 :: c116 :: c117 :: c118 :: c119 :: c120 :: c121 :: c122 :: c123 :: c124 :: c125 :: c126 :: c127 :: c128 :: c129 :: c130 :: c131 :: c132 :: c133 :: c134 :: c135 :: c136 :: c137 :: c138 :: c139 :: c140 :: c141 :: c142 :: c143 :: c144 :: c145 :: c146 :: c147 :: c148 :: c149 :: c150 :: c151 :: c152 :: c153 :: c154 :: c155 :: c156 :: c157 :: c158 :: c159 :: c160 :: c161 :: []), []⟩ V := by
  have lm : gm < V.heap.size := (Array.getElem?_eq_some_iff.1 hm).1
  have lp : gp < V.heap.size := (Array.getElem?_eq_some_iff.1 hp).1
  have h1 := fun (U : World) (b : Below V.heap.size V U) => check_any X Y Ox Oy A n c F G tx ty lv cw ch pr st od ly rct sop eph U ((ha.below b).more b.size) hc (fun k hk => ((hG k hk).below b).more b.size) hN
  have h2 := fun (U : World) (b : Below V.heap.size V U) => checkR_any X Y Ox Oy A n c tx ty lv cw ch pr st od ly rct sop eph U F G ((ha.below b).more b.size) (fun k hk => ((hG k hk).below b).more b.size) hN
  have h3 := fun (U : World) (b : Below V.heap.size V U) => frame_any X Y Ox Oy A n c F tx ty lv cw ch pr st od ly rct sop eph U ((ha.below b).more b.size) hc
  have h4 := fun (U : World) (b : Below V.heap.size V U) => frameR_any X Y Ox Oy A n c tx ty lv cw ch pr st od ly rct sop eph U F ((ha.below b).more b.size)
  obtain ⟨CE, hCE⟩ : ∃ z, checkE X Y Ox Oy n F G tx ty lv cw ch pr st od ly rct = z := ⟨_, rfl⟩
  obtain ⟨FE, hFE⟩ : ∃ z, frameE X Y Ox Oy n F tx ty lv cw ch pr st od ly rct = z := ⟨_, rfl⟩
  rw [hCE] at h1 h2
  rw [hFE] at h3 h4
  unfold imgV parV at h1 h2 h3 h4
  have H1 := Lib.hid h1
  have H2 := Lib.hid h2
  have H3 := Lib.hid h3
  have H4 := Lib.hid h4
  clear h1 h2 h3 h4 hCE hFE ha hG hN
  conv => arg 2; whnf
  refine last_cut (by kernel_rfl) (fun U => U.heap[gm]? = some (.cells #[.int .i64 X, .int .i64 Y, .int .i64 Ox, .int .i64 Oy, .slice A n c] 25 (0, 0)) ∧ U.heap[gp]? = some (.cells #[.int .i64 tx, .int .i64 ty, .int .i64 lv, .int .i64 cw, .int .i64 ch, .int .i64 pr, .int .i64 st, .int .i64 od, .int .i64 ly, .bool rct, .bool sop, .bool eph] 27 (0, 0))) (fun aF a' W' => a' = (((((((((((((((((aF.put (some 146) (.agg #[.int .i64 X, .int .i64 Y, .int .i64 Ox, .int .i64 Oy, .slice A n c])).put (some 147) (.agg #[.int .i64 tx, .int .i64 ty, .int .i64 lv, .int .i64 cw, .int .i64 ch, .int .i64 pr, .int .i64 st, .int .i64 od, .int .i64 ly, .bool rct, .bool sop, .bool eph])).put (some 148) (.int .i64 CE)).put (some 149) (.agg #[.int .i64 X, .int .i64 Y, .int .i64 Ox, .int .i64 Oy, .slice A n c])).put (some 150) (.agg #[.int .i64 tx, .int .i64 ty, .int .i64 lv, .int .i64 cw, .int .i64 ch, .int .i64 pr, .int .i64 st, .int .i64 od, .int .i64 ly, .bool rct, .bool sop, .bool eph])).put (some 151) (.int .i64 CE)).put (some 152) (.bool true)).put (some 153) (.bool true)).put (some 154) (.agg #[.int .i64 X, .int .i64 Y, .int .i64 Ox, .int .i64 Oy, .slice A n c])).put (some 155) (.agg #[.int .i64 tx, .int .i64 ty, .int .i64 lv, .int .i64 cw, .int .i64 ch, .int .i64 pr, .int .i64 st, .int .i64 od, .int .i64 ly, .bool rct, .bool sop, .bool eph])).put (some 156) (.int .i64 FE)).put (some 157) (.agg #[.int .i64 X, .int .i64 Y, .int .i64 Ox, .int .i64 Oy, .slice A n c])).put (some 158) (.agg #[.int .i64 tx, .int .i64 ty, .int .i64 lv, .int .i64 cw, .int .i64 ch, .int .i64 pr, .int .i64 st, .int .i64 od, .int .i64 ly, .bool rct, .bool sop, .bool eph])).put (some 159) (.int .i64 FE)).put (some 160) (.bool true)).put (some 161) (.bool true)).put (some 10) (.bool true)) ∧ Below V.heap.size V W') ⟨hm, hp⟩ (fun hS => ?_) ?_
  · skip
    have hSB : ∀ U : World, Below (V.heap.size) V U → U.heap[gm]? = some (.cells #[.int .i64 X, .int .i64 Y, .int .i64 Ox, .int .i64 Oy, .slice A n c] 25 (0, 0)) ∧ U.heap[gp]? = some (.cells #[.int .i64 tx, .int .i64 ty, .int .i64 lv, .int .i64 cw, .int .i64 ch, .int .i64 pr, .int .i64 st, .int .i64 od, .int .i64 ly, .bool rct, .bool sop, .bool eph] 27 (0, 0)) := fun U h => ⟨(h.block (gm) (by omega)).trans (hm), (h.block (gp) (by omega)).trans (hp)⟩
    have bV : Below V.heap.size V V.drew := (Below.refl _ _).drew
    generalize V.drew = V0 at *
    change wpAnyL _ _ _ _ _ 17 #[false, false, false, false, false, false, false, false, false, false, false, false, false, false, false, false, false] _ _
    refine wpAnyL_take (i := 0) (v := .agg #[.int .i64 X, .int .i64 Y, .int .i64 Ox, .int .i64 Oy, .slice A n c]) (by simp only [List.getElem?_toArray, List.getElem?_cons_succ, List.getElem?_cons_zero]; rfl) (by as_aux_lemma => kernel_rfl) (by as_aux_lemma => kernel_rfl) (by as_aux_lemma => kernel_rfl) (fun _ _ _ h => h) (Or.inl ⟨by rfl, ?_⟩) hS ?_
    · intro U hU
      obtain ⟨s0, s1⟩ := hU
      exact exec_loadRow (cs := [.int .i64 X, .int .i64 Y, .int .i64 Ox, .int .i64 Oy, .slice A n c]) rfl rfl s0 (by kernel_rfl) (by kernel_rfl)
    simp only [Act.put, List.setIfInBounds_toArray, List.set_cons_zero, List.set_cons_succ]
    refine wpAnyL_take (i := 1) (v := .agg #[.int .i64 tx, .int .i64 ty, .int .i64 lv, .int .i64 cw, .int .i64 ch, .int .i64 pr, .int .i64 st, .int .i64 od, .int .i64 ly, .bool rct, .bool sop, .bool eph]) (by simp only [List.getElem?_toArray, List.getElem?_cons_succ, List.getElem?_cons_zero]; rfl) (by as_aux_lemma => kernel_rfl) (by as_aux_lemma => kernel_rfl) (by as_aux_lemma => kernel_rfl) (fun _ _ _ h => h) (Or.inl ⟨by rfl, ?_⟩) hS ?_
    · intro U hU
      obtain ⟨s0, s1⟩ := hU
      exact exec_loadRow (cs := [.int .i64 tx, .int .i64 ty, .int .i64 lv, .int .i64 cw, .int .i64 ch, .int .i64 pr, .int .i64 st, .int .i64 od, .int .i64 ly, .bool rct, .bool sop, .bool eph]) rfl rfl s1 (by kernel_rfl) (by kernel_rfl)
    simp only [Act.put, List.setIfInBounds_toArray, List.set_cons_zero, List.set_cons_succ]
    refine wpAnyL_take (i := 3) (v := .agg #[.int .i64 X, .int .i64 Y, .int .i64 Ox, .int .i64 Oy, .slice A n c]) (by simp only [List.getElem?_toArray, List.getElem?_cons_succ, List.getElem?_cons_zero]; rfl) (by as_aux_lemma => kernel_rfl) (by as_aux_lemma => kernel_rfl) (by as_aux_lemma => kernel_rfl) (fun _ _ _ h => h) (Or.inl ⟨by rfl, ?_⟩) hS ?_
    · intro U hU
      obtain ⟨s0, s1⟩ := hU
      exact exec_loadRow (cs := [.int .i64 X, .int .i64 Y, .int .i64 Ox, .int .i64 Oy, .slice A n c]) rfl rfl s0 (by kernel_rfl) (by kernel_rfl)
    simp only [Act.put, List.setIfInBounds_toArray, List.set_cons_zero, List.set_cons_succ]
    refine wpAnyL_take (i := 4) (v := .agg #[.int .i64 tx, .int .i64 ty, .int .i64 lv, .int .i64 cw, .int .i64 ch, .int .i64 pr, .int .i64 st, .int .i64 od, .int .i64 ly, .bool rct, .bool sop, .bool eph]) (by simp only [List.getElem?_toArray, List.getElem?_cons_succ, List.getElem?_cons_zero]; rfl) (by as_aux_lemma => kernel_rfl) (by as_aux_lemma => kernel_rfl) (by as_aux_lemma => kernel_rfl) (fun _ _ _ h => h) (Or.inl ⟨by rfl, ?_⟩) hS ?_
    · intro U hU
      obtain ⟨s0, s1⟩ := hU
      exact exec_loadRow (cs := [.int .i64 tx, .int .i64 ty, .int .i64 lv, .int .i64 cw, .int .i64 ch, .int .i64 pr, .int .i64 st, .int .i64 od, .int .i64 ly, .bool rct, .bool sop, .bool eph]) rfl rfl s1 (by kernel_rfl) (by kernel_rfl)
    simp only [Act.put, List.setIfInBounds_toArray, List.set_cons_zero, List.set_cons_succ]
    refine wpAnyL_ready (rs := [2]) (by as_aux_lemma => kernel_rfl) (by simp) ?_
    refine AllReadyL.cons (by simp only [List.getElem?_toArray, List.getElem?_cons_succ, List.getElem?_cons_zero]; rfl) (fun K' hK' => ?_) AllReadyL.nil
    go_simp
    go_at_call 15
    refine (H1.out _ bV).mono ?_
    rintro e' U2 ⟨rfl, hb2⟩
    have b2 := below_trans bV hb2
    have hS := hSB _ b2
    dsimp only
    refine hK'.out _ _ hS (fun _ => ?_)
    clear hb2
    clear hK' K'
    try simp only [Act.put, List.setIfInBounds_toArray, List.set_cons_zero, List.set_cons_succ]
    refine wpAnyL_ready (rs := [5]) (by as_aux_lemma => kernel_rfl) (by simp) ?_
    refine AllReadyL.cons (by simp only [List.getElem?_toArray, List.getElem?_cons_succ, List.getElem?_cons_zero]; rfl) (fun K' hK' => ?_) AllReadyL.nil
    go_simp
    go_at_call 16
    refine (H2.out _ b2).mono ?_
    rintro e' U5 ⟨rfl, hb5⟩
    have b5 := below_trans b2 hb5
    have hS := hSB _ b5
    dsimp only
    refine hK'.out _ _ hS (fun _ => ?_)
    clear hb5
    clear hK' K'
    try simp only [Act.put, List.setIfInBounds_toArray, List.set_cons_zero, List.set_cons_succ]
    refine wpAnyL_take (i := 6) (v := .bool true) (by simp only [List.getElem?_toArray, List.getElem?_cons_succ, List.getElem?_cons_zero]; rfl) (by as_aux_lemma => kernel_rfl) (by as_aux_lemma => kernel_rfl) (by as_aux_lemma => kernel_rfl) (fun _ _ _ h => h) (Or.inl ⟨by rfl, ?_⟩) hS ?_
    · intro U hU
      obtain ⟨s0, s1⟩ := hU
      go_simp
    simp only [Act.put, List.setIfInBounds_toArray, List.set_cons_zero, List.set_cons_succ]
    refine wpAnyL_take (i := 7) (v := .bool true) (by simp only [List.getElem?_toArray, List.getElem?_cons_succ, List.getElem?_cons_zero]; rfl) (by as_aux_lemma => kernel_rfl) (by as_aux_lemma => kernel_rfl) (by as_aux_lemma => kernel_rfl) (fun _ _ _ h => h) (Or.inl ⟨by rfl, ?_⟩) hS ?_
    · intro U hU
      obtain ⟨s0, s1⟩ := hU
      kernel_rfl
    simp only [Act.put, List.setIfInBounds_toArray, List.set_cons_zero, List.set_cons_succ]
    refine wpAnyL_take (i := 8) (v := .agg #[.int .i64 X, .int .i64 Y, .int .i64 Ox, .int .i64 Oy, .slice A n c]) (by simp only [List.getElem?_toArray, List.getElem?_cons_succ, List.getElem?_cons_zero]; rfl) (by as_aux_lemma => kernel_rfl) (by as_aux_lemma => kernel_rfl) (by as_aux_lemma => kernel_rfl) (fun _ _ _ h => h) (Or.inl ⟨by rfl, ?_⟩) hS ?_
    · intro U hU
      obtain ⟨s0, s1⟩ := hU
      exact exec_loadRow (cs := [.int .i64 X, .int .i64 Y, .int .i64 Ox, .int .i64 Oy, .slice A n c]) rfl rfl s0 (by kernel_rfl) (by kernel_rfl)
    simp only [Act.put, List.setIfInBounds_toArray, List.set_cons_zero, List.set_cons_succ]
    refine wpAnyL_take (i := 9) (v := .agg #[.int .i64 tx, .int .i64 ty, .int .i64 lv, .int .i64 cw, .int .i64 ch, .int .i64 pr, .int .i64 st, .int .i64 od, .int .i64 ly, .bool rct, .bool sop, .bool eph]) (by simp only [List.getElem?_toArray, List.getElem?_cons_succ, List.getElem?_cons_zero]; rfl) (by as_aux_lemma => kernel_rfl) (by as_aux_lemma => kernel_rfl) (by as_aux_lemma => kernel_rfl) (fun _ _ _ h => h) (Or.inl ⟨by rfl, ?_⟩) hS ?_
    · intro U hU
      obtain ⟨s0, s1⟩ := hU
      exact exec_loadRow (cs := [.int .i64 tx, .int .i64 ty, .int .i64 lv, .int .i64 cw, .int .i64 ch, .int .i64 pr, .int .i64 st, .int .i64 od, .int .i64 ly, .bool rct, .bool sop, .bool eph]) rfl rfl s1 (by kernel_rfl) (by kernel_rfl)
    simp only [Act.put, List.setIfInBounds_toArray, List.set_cons_zero, List.set_cons_succ]
    refine wpAnyL_take (i := 11) (v := .agg #[.int .i64 X, .int .i64 Y, .int .i64 Ox, .int .i64 Oy, .slice A n c]) (by simp only [List.getElem?_toArray, List.getElem?_cons_succ, List.getElem?_cons_zero]; rfl) (by as_aux_lemma => kernel_rfl) (by as_aux_lemma => kernel_rfl) (by as_aux_lemma => kernel_rfl) (fun _ _ _ h => h) (Or.inl ⟨by rfl, ?_⟩) hS ?_
    · intro U hU
      obtain ⟨s0, s1⟩ := hU
      exact exec_loadRow (cs := [.int .i64 X, .int .i64 Y, .int .i64 Ox, .int .i64 Oy, .slice A n c]) rfl rfl s0 (by kernel_rfl) (by kernel_rfl)
    simp only [Act.put, List.setIfInBounds_toArray, List.set_cons_zero, List.set_cons_succ]
    refine wpAnyL_take (i := 12) (v := .agg #[.int .i64 tx, .int .i64 ty, .int .i64 lv, .int .i64 cw, .int .i64 ch, .int .i64 pr, .int .i64 st, .int .i64 od, .int .i64 ly, .bool rct, .bool sop, .bool eph]) (by simp only [List.getElem?_toArray, List.getElem?_cons_succ, List.getElem?_cons_zero]; rfl) (by as_aux_lemma => kernel_rfl) (by as_aux_lemma => kernel_rfl) (by as_aux_lemma => kernel_rfl) (fun _ _ _ h => h) (Or.inl ⟨by rfl, ?_⟩) hS ?_
    · intro U hU
      obtain ⟨s0, s1⟩ := hU
      exact exec_loadRow (cs := [.int .i64 tx, .int .i64 ty, .int .i64 lv, .int .i64 cw, .int .i64 ch, .int .i64 pr, .int .i64 st, .int .i64 od, .int .i64 ly, .bool rct, .bool sop, .bool eph]) rfl rfl s1 (by kernel_rfl) (by kernel_rfl)
    simp only [Act.put, List.setIfInBounds_toArray, List.set_cons_zero, List.set_cons_succ]
    refine wpAnyL_ready (rs := [10]) (by as_aux_lemma => kernel_rfl) (by simp) ?_
    refine AllReadyL.cons (by simp only [List.getElem?_toArray, List.getElem?_cons_succ, List.getElem?_cons_zero]; rfl) (fun K' hK' => ?_) AllReadyL.nil
    go_simp
    go_at_call 13
    refine (H3.out _ b5).mono ?_
    rintro e' U10 ⟨rfl, hb10⟩
    have b10 := below_trans b5 hb10
    have hS := hSB _ b10
    dsimp only
    refine hK'.out _ _ hS (fun _ => ?_)
    clear hb10
    clear hK' K'
    try simp only [Act.put, List.setIfInBounds_toArray, List.set_cons_zero, List.set_cons_succ]
    refine wpAnyL_ready (rs := [13]) (by as_aux_lemma => kernel_rfl) (by simp) ?_
    refine AllReadyL.cons (by simp only [List.getElem?_toArray, List.getElem?_cons_succ, List.getElem?_cons_zero]; rfl) (fun K' hK' => ?_) AllReadyL.nil
    go_simp
    go_at_call 17
    refine (H4.out _ b10).mono ?_
    rintro e' U13 ⟨rfl, hb13⟩
    have b13 := below_trans b10 hb13
    have hS := hSB _ b13
    dsimp only
    refine hK'.out _ _ hS (fun _ => ?_)
    clear hb13
    clear hK' K'
    try simp only [Act.put, List.setIfInBounds_toArray, List.set_cons_zero, List.set_cons_succ]
    refine wpAnyL_take (i := 14) (v := .bool true) (by simp only [List.getElem?_toArray, List.getElem?_cons_succ, List.getElem?_cons_zero]; rfl) (by as_aux_lemma => kernel_rfl) (by as_aux_lemma => kernel_rfl) (by as_aux_lemma => kernel_rfl) (fun _ _ _ h => h) (Or.inl ⟨by rfl, ?_⟩) hS ?_
    · intro U hU
      obtain ⟨s0, s1⟩ := hU
      go_simp
    simp only [Act.put, List.setIfInBounds_toArray, List.set_cons_zero, List.set_cons_succ]
    refine wpAnyL_take (i := 15) (v := .bool true) (by simp only [List.getElem?_toArray, List.getElem?_cons_succ, List.getElem?_cons_zero]; rfl) (by as_aux_lemma => kernel_rfl) (by as_aux_lemma => kernel_rfl) (by as_aux_lemma => kernel_rfl) (fun _ _ _ h => h) (Or.inl ⟨by rfl, ?_⟩) hS ?_
    · intro U hU
      obtain ⟨s0, s1⟩ := hU
      kernel_rfl
    simp only [Act.put, List.setIfInBounds_toArray, List.set_cons_zero, List.set_cons_succ]
    refine wpAnyL_take (i := 16) (v := .bool true) (by simp only [List.getElem?_toArray, List.getElem?_cons_succ, List.getElem?_cons_zero]; rfl) (by as_aux_lemma => kernel_rfl) (by as_aux_lemma => kernel_rfl) (by as_aux_lemma => kernel_rfl) (fun _ _ _ h => h) (Or.inl ⟨by rfl, ?_⟩) hS ?_
    · intro U hU
      obtain ⟨s0, s1⟩ := hU
      kernel_rfl
    simp only [Act.put, List.setIfInBounds_toArray, List.set_cons_zero, List.set_cons_succ]
    refine wpAnyL_done (by as_aux_lemma => kernel_rfl) ?_ _
    simp only [OnlyN]
    refine ⟨?_, b13⟩
    (try simp only [Act.put, List.setIfInBounds_toArray, List.set_cons_zero, List.set_cons_succ])
  rintro a' V2 ⟨rfl, h5⟩
  simp only [Act.put, List.setIfInBounds_toArray, List.set_cons_zero, List.set_cons_succ]
  apply hexit
  exact h5
end Go.Proofs.Ytmieoifagnpbiaa
