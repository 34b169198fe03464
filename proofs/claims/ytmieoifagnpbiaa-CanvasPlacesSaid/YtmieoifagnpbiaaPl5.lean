/- LOOP 5 of waveletlaw12.CanvasPlaces: over the bands of a resolution. -/
import Derived.Test.YtmieoifagnpbiaaPlDefs
import Derived.Deep.CutBlock
import Derived.Deep.LoopGhost
namespace Go.Proofs.Ytmieoifagnpbiaa
open Go.RowKit
attribute [local go_sem] opv opnd
set_option maxHeartbeats 40000000
set_option linter.unusedVariables false
set_option linter.unusedSimpArgs false
set_option maxRecDepth 1000000

theorem pl5 {c0 c1 c2 c3 c5 c6 c7 c8 c11 c13 c14 c15 c16 c17 c18 c21 c22 c23 c24 c25 c26 c27 c28 c29 c30 c31 c32 c33 c34 c35 c36 c37 c38 c39 c40 c41 c42 c43 c44 c45 c46 c47 c48 c49 c50 c51 c52 c53 c54 c55 c56 c57 c58 c59 c60 c61 c62 c63 c64 c65 c66 c67 c68 c69 c70 c71 c72 c73 c74 c75 c76 c77 c78 c79 c80 c81 c82 c83 c84 c85 c86 c87 c88 c89 c90 c91 c92 c93 c94 c95 c96 c97 c98 c99 c100 c101 c102 c103 c104 c105 c106 c107 c108 c109 c110 c111 c112 c113 c114 c115 c116 c117 c118 c119 c120 c121 c122 c123 c124 c125 c126 c127 c128 c129 c130 c131 c132 c133 c134 c135 c136 c137 c138 c139 c140 c141 c142 c143 c144 c145 c146 c147 c148 c149 c150 c151 c152 c153 c154 c155 c156 c157 c158 c159 c160 c161 c162 c163 c164 c165 c166 c167 c168 c169 c170 c171 c172 c173 c174 c175 c176 c177 c178 c179 c180 c181 c182 c183 c184 c185 c186 c187 c188 c189 c190 c191 c192 c193 c194 c195 c196 c197 c198 c199 c200 c201 c202 c203 c204 c205 c206 c207 c208 c209 : Value} (gp gz bx ox BN cX rn kn : Nat) (Z0 Z1 Z2 Z3 : Int) (tx ty lv cw ch pr st od ly : Nat) (rct sop eph : Bool) (fb : Nat → Rc) (NBf WBf : Nat → Nat) (ff : Nat → Nat → Rc) (w : World) (hBN : 1 ≤ BN) (hBN3 : BN ≤ 3) (hNB : ∀ e, e < BN → NBf e ≤ 1152921504606846976) (par : w.heap[gp]? = some (.cells #[.int .i64 (tx : Int), .int .i64 (ty : Int), .int .i64 (lv : Int), .int .i64 (cw : Int), .int .i64 (ch : Int), .int .i64 (pr : Int), .int .i64 (st : Int), .int .i64 (od : Int), .int .i64 (ly : Int), .bool rct, .bool sop, .bool eph] 27 (0, 0))) (rz : w.heap[gz]? = some (.cells #[.int .i64 Z0, .int .i64 Z1, .int .i64 Z2, .int .i64 Z3] 53 (0, 0))) (hX : CellsAt w w.heap.size (some ⟨bx, ox, none⟩) 4 BN (fun k => rcL (fb k))) (H1 : ∀ (en : Nat) (v : World), en < BN → Calls Try.prog 31 #[.agg #[.int .i64 (fb en).x0, .int .i64 (fb en).y0, .int .i64 (fb en).x1, .int .i64 (fb en).y1], .agg #[.int .i64 Z0, .int .i64 Z1, .int .i64 Z2, .int .i64 Z3], .agg #[.int .i64 (tx : Int), .int .i64 (ty : Int), .int .i64 (lv : Int), .int .i64 (cw : Int), .int .i64 (ch : Int), .int .i64 (pr : Int), .int .i64 (st : Int), .int .i64 (od : Int), .int .i64 (ly : Int), .bool rct, .bool sop, .bool eph], .int .i64 (rn : Int), .int .i64 (kn : Int)] v fun e' w' => ∃ A c, e' = .returned (.tuple #[.slice A (NBf en) c, .int .i64 ((WBf en : Nat) : Int)]) ∧ OwnC w' v.heap.size 53 4 (.slice A (NBf en) c) (NBf en) (fun i => rcL (ff en i)) ∧ Below v.heap.size v w') (H2 : ∀ (en : Nat) (v : World), en < BN → Calls Try.prog 32 #[.agg #[.int .i64 (fb en).x0, .int .i64 (fb en).y0, .int .i64 (fb en).x1, .int .i64 (fb en).y1], .agg #[.int .i64 Z0, .int .i64 Z1, .int .i64 Z2, .int .i64 Z3], .agg #[.int .i64 (tx : Int), .int .i64 (ty : Int), .int .i64 (lv : Int), .int .i64 (cw : Int), .int .i64 (ch : Int), .int .i64 (pr : Int), .int .i64 (st : Int), .int .i64 (od : Int), .int .i64 (ly : Int), .bool rct, .bool sop, .bool eph], .int .i64 (rn : Int), .int .i64 (kn : Int)] v fun e' w' => ∃ A c, e' = .returned (.tuple #[.slice A (NBf en) c, .int .i64 ((WBf en : Nat) : Int)]) ∧ OwnC w' v.heap.size 53 4 (.slice A (NBf en) c) (NBf en) (fun i => rcL (ff en i)) ∧ Below v.heap.size v w') (QQ : Exit → Act → World → Prop) (hexit : ∀ (u2 u20 u21 u22 u23 u24 u171 u172 u173 u174 u175 u176 u177 u178 u179 u180 u181 u182 u183 u184 u185 u186 u187 u188 u189 u190 u191 u192 u193 u194 u195 u196 u197 u198 u199 u200 u201 u202 u203 u204 u205 u206 u207 u208 u209 : Value) (w' : World), Below w.heap.size w w' → QQ (.exit 8) ⟨List.toArray (c0 :: c1 :: u2 :: c3 :: Value.pointer (some ⟨gp, 0, none⟩) :: c5 :: c6 :: c7 :: c8 :: Value.int .i64 (rn : Int) :: Value.pointer (some ⟨gz, 0, none⟩) :: c11 :: Value.slice (some ⟨bx, ox, none⟩) BN cX :: c13 :: c14 :: c15 :: c16 :: c17 :: c18 :: Value.int .i64 (kn : Int) :: u20 :: u21 :: u22 :: u23 :: u24 :: c25 :: c26 :: c27 :: c28 :: c29 :: c30 :: c31 :: c32 :: c33 :: c34 :: c35 :: c36 :: c37 :: c38 :: c39 :: c40 :: c41 :: c42 :: c43 :: c44 :: c45 :: c46 :: c47 :: c48 :: c49 :: c50 :: c51 :: c52 :: c53 :: c54 :: c55 :: c56 :: c57 :: c58 :: c59 :: c60 :: c61 :: c62 :: c63 :: c64 :: c65 :: c66 :: c67 :: c68 :: c69 :: c70 :: c71 :: c72 :: c73 :: c74 :: c75 :: c76 :: c77 :: c78 :: c79 :: c80 :: c81 :: c82 :: c83 :: c84 :: c85 :: c86 :: c87 :: c88 :: c89 :: c90 :: c91 :: c92 :: c93 :: c94 :: c95 :: c96 :: c97 :: c98 :: c99 :: c100 :: c101 :: c102 :: c103 :: c104 :: c105 :: c106 :: c107 :: c108 :: c109 :: c110 :: c111 :: c112 :: c113 :: c114 :: c115 :: c116 :: c117 :: c118 :: c119 :: c120 :: c121 :: c122 :: c123 :: c124 :: c125 :: c126 :: c127 :: c128 :: c129 :: c130 :: c131 :: c132 :: c133 :: c134 :: c135 :: c136 :: c137 :: c138 :: c139 :: c140 :: c141 :: c142 :: c143 :: c144 :: c145 :: c146 :: c147 :: c148 :: c149 :: c150 :: c151 :: c152 :: c153 :: c154 :: c155 :: c156 :: c157 :: c158 :: c159 :: c160 :: c161 :: c162 :: c163 :: c164 :: c165 :: c166 :: c167 :: c168 :: c169 :: c170 :: u171 :: u172 :: u173 :: u174 :: u175 :: u176 :: u177 :: u178 :: u179 :: u180 :: u181 :: u182 :: u183 :: u184 :: u185 :: u186 :: u187 :: u188 :: u189 :: u190 :: u191 :: u192 :: u193 :: u194 :: u195 :: u196 :: u197 :: u198 :: u199 :: u200 :: u201 :: u202 :: u203 :: u204 :: u205 :: u206 :: u207 :: u208 :: u209 :: []), []⟩ w') :
    Code.wp Try.prog (Code.loop plC5) QQ ⟨List.toArray (c0 :: c1 :: c2 :: c3 :: Value.pointer (some ⟨gp, 0, none⟩) :: c5 :: c6 :: c7 :: c8 :: Value.int .i64 (rn : Int) :: Value.pointer (some ⟨gz, 0, none⟩) :: c11 :: Value.slice (some ⟨bx, ox, none⟩) BN cX :: c13 :: c14 :: c15 :: c16 :: c17 :: c18 :: Value.int .i64 (kn : Int) :: Value.int .i64 0 :: c21 :: c22 :: c23 :: c24 :: c25 :: c26 :: c27 :: c28 :: c29 :: c30 :: c31 :: c32 :: c33 :: c34 :: c35 :: c36 :: c37 :: c38 :: c39 :: c40 :: c41 :: c42 :: c43 :: c44 :: c45 :: c46 :: c47 :: c48 :: c49 :: c50 :: c51 :: c52 :: c53 :: c54 :: c55 :: c56 :: c57 :: c58 :: c59 :: c60 :: c61 :: c62 :: c63 :: c64 :: c65 :: c66 :: c67 :: c68 :: c69 :: c70 :: c71 :: c72 :: c73 :: c74 :: c75 :: c76 :: c77 :: c78 :: c79 :: c80 :: c81 :: c82 :: c83 :: c84 :: c85 :: c86 :: c87 :: c88 :: c89 :: c90 :: c91 :: c92 :: c93 :: c94 :: c95 :: c96 :: c97 :: c98 :: c99 :: c100 :: c101 :: c102 :: c103 :: c104 :: c105 :: c106 :: c107 :: c108 :: c109 :: c110 :: c111 :: c112 :: c113 :: c114 :: c115 :: c116 :: c117 :: c118 :: c119 :: c120 :: c121 :: c122 :: c123 :: c124 :: c125 :: c126 :: c127 :: c128 :: c129 :: c130 :: c131 :: c132 :: c133 :: c134 :: c135 :: c136 :: c137 :: c138 :: c139 :: c140 :: c141 :: c142 :: c143 :: c144 :: c145 :: c146 :: c147 :: c148 :: c149 :: c150 :: c151 :: c152 :: c153 :: c154 :: c155 :: c156 :: c157 :: c158 :: c159 :: c160 :: c161 :: c162 :: c163 :: c164 :: c165 :: c166 :: c167 :: c168 :: c169 :: c170 :: c171 :: c172 :: c173 :: c174 :: c175 :: c176 :: c177 :: c178 :: c179 :: c180 :: c181 :: c182 :: c183 :: c184 :: c185 :: c186 :: c187 :: c188 :: c189 :: c190 :: c191 :: c192 :: c193 :: c194 :: c195 :: c196 :: c197 :: c198 :: c199 :: c200 :: c201 :: c202 :: c203 :: c204 :: c205 :: c206 :: c207 :: c208 :: c209 :: []), []⟩ w := by
  have G1 := Lib.hid H1
  have G2 := Lib.hid H2
  have HX := Lib.hid hX
  have lp : gp < w.heap.size := (Array.getElem?_eq_some_iff.1 par).1
  have lz : gz < w.heap.size := (Array.getElem?_eq_some_iff.1 rz).1
  clear H1 H2 hX
  conv => arg 2; arg 1; whnf
  go_loopw [20] (fun v wr => ∃ en : Nat, en ≤ BN ∧ v = .int .i64 (en : Int) ∧ Below w.heap.size w wr) (fun v _ => BN - (intOf v).toNat)
  case atStart => exact ⟨0, Nat.zero_le _, rfl, Below.refl _ _⟩
  case round =>
    obtain ⟨en, hen, rfl, hbe⟩ := hrel
    obtain ⟨wa, hwa⟩ : ∃ wa, wa = wr := ⟨_, rfl⟩
    subst hwa
    have hle := hbe.size
    by_cases hlt : en < BN
    · have par1 := (hbe.block gp lp).trans par
      have rz1 := (hbe.block gz lz).trans rz
      obtain ⟨b', o', eA, hbx, hcx⟩ := (HX.out.below hbe).at_ (k := en) hlt
      cases eA
      have y0 : wa.cell? ⟨bx, ox + en * 4, none⟩ = some (.int .i64 (fb en).x0) := by have := hcx 0 _ rfl; simpa using this
      have y1 : wa.cell? ⟨bx, ox + en * 4 + 1, none⟩ = some (.int .i64 (fb en).y0) := hcx 1 _ rfl
      have y2 : wa.cell? ⟨bx, ox + en * 4 + 2, none⟩ = some (.int .i64 (fb en).x1) := hcx 2 _ rfl
      have y3 : wa.cell? ⟨bx, ox + en * 4 + 3, none⟩ = some (.int .i64 (fb en).y1) := hcx 3 _ rfl
      clear hcx
      have hen3 : en ≤ 3 := by omega
      have hsz : w.heap.size ≤ wa.heap.size := hle
      go_upto_region 32 with fail
      refine last_cut (by kernel_rfl) (fun U => U.heap[gp]? = some (.cells #[.int .i64 (tx : Int), .int .i64 (ty : Int), .int .i64 (lv : Int), .int .i64 (cw : Int), .int .i64 (ch : Int), .int .i64 (pr : Int), .int .i64 (st : Int), .int .i64 (od : Int), .int .i64 (ly : Int), .bool rct, .bool sop, .bool eph] 27 (0, 0)) ∧ U.heap[gz]? = some (.cells #[.int .i64 Z0, .int .i64 Z1, .int .i64 Z2, .int .i64 Z3] 53 (0, 0)) ∧ U.cell? ⟨bx, ox + en * 4, none⟩ = some (.int .i64 (fb en).x0) ∧ U.cell? ⟨bx, ox + en * 4 + 1, none⟩ = some (.int .i64 (fb en).y0) ∧ U.cell? ⟨bx, ox + en * 4 + 2, none⟩ = some (.int .i64 (fb en).x1) ∧ U.cell? ⟨bx, ox + en * 4 + 3, none⟩ = some (.int .i64 (fb en).y1)) (fun aF a' W' => ∃ Ab cb, a' = ((((((((((((((aF.put (some 178) (.slice (some ⟨bx, ox, none⟩) BN cX)).put (some 179) (.int .i64 (en : Int))).put (some 180) (.pointer (some ⟨bx, ox + en * 4, none⟩))).put (some 181) (.agg #[.int .i64 (fb en).x0, .int .i64 (fb en).y0, .int .i64 (fb en).x1, .int .i64 (fb en).y1])).put (some 182) (.agg #[.int .i64 Z0, .int .i64 Z1, .int .i64 Z2, .int .i64 Z3])).put (some 183) (.agg #[.int .i64 (tx : Int), .int .i64 (ty : Int), .int .i64 (lv : Int), .int .i64 (cw : Int), .int .i64 (ch : Int), .int .i64 (pr : Int), .int .i64 (st : Int), .int .i64 (od : Int), .int .i64 (ly : Int), .bool rct, .bool sop, .bool eph])).put (some 184) (.int .i64 (rn : Int))).put (some 185) (.int .i64 (kn : Int))).put (some 186) (.tuple #[.slice Ab (NBf en) cb, .int .i64 ((WBf en : Nat) : Int)])).put (some 177) (.tuple #[.slice Ab (NBf en) cb, .int .i64 ((WBf en : Nat) : Int)])).put (some 187) (.slice Ab (NBf en) cb)).put (some 188) (.int .i64 ((WBf en : Nat) : Int))).put (some 21) (.slice Ab (NBf en) cb)).put (some 22) (.int .i64 ((WBf en : Nat) : Int))) ∧ OwnC W' wa.heap.size 53 4 (.slice Ab (NBf en) cb) (NBf en) (fun i => rcL (ff en i)) ∧ Below wa.heap.size wa W') ⟨par1, rz1, y0, y1, y2, y3⟩ (fun hS => ?_) ?_
      · skip
        have hSB : ∀ U : World, Below (w.heap.size) wa U → U.heap[gp]? = some (.cells #[.int .i64 (tx : Int), .int .i64 (ty : Int), .int .i64 (lv : Int), .int .i64 (cw : Int), .int .i64 (ch : Int), .int .i64 (pr : Int), .int .i64 (st : Int), .int .i64 (od : Int), .int .i64 (ly : Int), .bool rct, .bool sop, .bool eph] 27 (0, 0)) ∧ U.heap[gz]? = some (.cells #[.int .i64 Z0, .int .i64 Z1, .int .i64 Z2, .int .i64 Z3] 53 (0, 0)) ∧ U.cell? ⟨bx, ox + en * 4, none⟩ = some (.int .i64 (fb en).x0) ∧ U.cell? ⟨bx, ox + en * 4 + 1, none⟩ = some (.int .i64 (fb en).y0) ∧ U.cell? ⟨bx, ox + en * 4 + 2, none⟩ = some (.int .i64 (fb en).x1) ∧ U.cell? ⟨bx, ox + en * 4 + 3, none⟩ = some (.int .i64 (fb en).y1) := fun U h => ⟨(h.block (gp) (by omega)).trans (par1), (h.block (gz) (by omega)).trans (rz1), (h.cell (p := ⟨bx, ox + en * 4, none⟩) (by simp only; omega)).trans (y0), (h.cell (p := ⟨bx, ox + en * 4 + 1, none⟩) (by simp only; omega)).trans (y1), (h.cell (p := ⟨bx, ox + en * 4 + 2, none⟩) (by simp only; omega)).trans (y2), (h.cell (p := ⟨bx, ox + en * 4 + 3, none⟩) (by simp only; omega)).trans (y3)⟩
        have bV : Below wa.heap.size wa wa.drew := (Below.refl _ _).drew
        generalize wa.drew = V0 at *
        change wpAnyL _ _ _ _ _ 14 #[false, false, false, false, false, false, false, false, false, false, false, false, false, false] _ _
        refine wpAnyL_take (i := 0) (v := .slice (some ⟨bx, ox, none⟩) BN cX) (by simp only [List.getElem?_toArray, List.getElem?_cons_succ, List.getElem?_cons_zero]; rfl) (by as_aux_lemma => kernel_rfl) (by as_aux_lemma => kernel_rfl) (by as_aux_lemma => kernel_rfl) (fun _ _ _ h => h) (Or.inl ⟨by rfl, ?_⟩) hS ?_
        · intro U hU
          obtain ⟨s0, s1, s2, s3, s4, s5⟩ := hU
          kernel_rfl
        simp only [Act.put, List.setIfInBounds_toArray, List.set_cons_zero, List.set_cons_succ]
        refine wpAnyL_take (i := 1) (v := .int .i64 (en : Int)) (by simp only [List.getElem?_toArray, List.getElem?_cons_succ, List.getElem?_cons_zero]; rfl) (by as_aux_lemma => kernel_rfl) (by as_aux_lemma => kernel_rfl) (by as_aux_lemma => kernel_rfl) (fun _ _ _ h => h) (Or.inl ⟨by rfl, ?_⟩) hS ?_
        · intro U hU
          obtain ⟨s0, s1, s2, s3, s4, s5⟩ := hU
          kernel_rfl
        simp only [Act.put, List.setIfInBounds_toArray, List.set_cons_zero, List.set_cons_succ]
        refine wpAnyL_take (i := 2) (v := .pointer (some ⟨bx, ox + en * 4, none⟩)) (by simp only [List.getElem?_toArray, List.getElem?_cons_succ, List.getElem?_cons_zero]; rfl) (by as_aux_lemma => kernel_rfl) (by as_aux_lemma => kernel_rfl) (by as_aux_lemma => kernel_rfl) (fun _ _ _ h => h) (Or.inl ⟨by rfl, ?_⟩) hS ?_
        · intro U hU
          obtain ⟨s0, s1, s2, s3, s4, s5⟩ := hU
          go_simp
        simp only [Act.put, List.setIfInBounds_toArray, List.set_cons_zero, List.set_cons_succ]
        refine wpAnyL_take (i := 3) (v := .agg #[.int .i64 (fb en).x0, .int .i64 (fb en).y0, .int .i64 (fb en).x1, .int .i64 (fb en).y1]) (by simp only [List.getElem?_toArray, List.getElem?_cons_succ, List.getElem?_cons_zero]; rfl) (by as_aux_lemma => kernel_rfl) (by as_aux_lemma => kernel_rfl) (by as_aux_lemma => kernel_rfl) (fun _ _ _ h => h) (Or.inl ⟨by rfl, ?_⟩) hS ?_
        · intro U hU
          obtain ⟨s0, s1, s2, s3, s4, s5⟩ := hU
          go_simp
        simp only [Act.put, List.setIfInBounds_toArray, List.set_cons_zero, List.set_cons_succ]
        refine wpAnyL_take (i := 4) (v := .agg #[.int .i64 Z0, .int .i64 Z1, .int .i64 Z2, .int .i64 Z3]) (by simp only [List.getElem?_toArray, List.getElem?_cons_succ, List.getElem?_cons_zero]; rfl) (by as_aux_lemma => kernel_rfl) (by as_aux_lemma => kernel_rfl) (by as_aux_lemma => kernel_rfl) (fun _ _ _ h => h) (Or.inl ⟨by rfl, ?_⟩) hS ?_
        · intro U hU
          obtain ⟨s0, s1, s2, s3, s4, s5⟩ := hU
          exact exec_loadRow (cs := [.int .i64 Z0, .int .i64 Z1, .int .i64 Z2, .int .i64 Z3]) rfl rfl s1 (by kernel_rfl) (by kernel_rfl)
        simp only [Act.put, List.setIfInBounds_toArray, List.set_cons_zero, List.set_cons_succ]
        refine wpAnyL_take (i := 5) (v := .agg #[.int .i64 (tx : Int), .int .i64 (ty : Int), .int .i64 (lv : Int), .int .i64 (cw : Int), .int .i64 (ch : Int), .int .i64 (pr : Int), .int .i64 (st : Int), .int .i64 (od : Int), .int .i64 (ly : Int), .bool rct, .bool sop, .bool eph]) (by simp only [List.getElem?_toArray, List.getElem?_cons_succ, List.getElem?_cons_zero]; rfl) (by as_aux_lemma => kernel_rfl) (by as_aux_lemma => kernel_rfl) (by as_aux_lemma => kernel_rfl) (fun _ _ _ h => h) (Or.inl ⟨by rfl, ?_⟩) hS ?_
        · intro U hU
          obtain ⟨s0, s1, s2, s3, s4, s5⟩ := hU
          exact exec_loadRow (cs := [.int .i64 (tx : Int), .int .i64 (ty : Int), .int .i64 (lv : Int), .int .i64 (cw : Int), .int .i64 (ch : Int), .int .i64 (pr : Int), .int .i64 (st : Int), .int .i64 (od : Int), .int .i64 (ly : Int), .bool rct, .bool sop, .bool eph]) rfl rfl s0 (by kernel_rfl) (by kernel_rfl)
        simp only [Act.put, List.setIfInBounds_toArray, List.set_cons_zero, List.set_cons_succ]
        refine wpAnyL_take (i := 6) (v := .int .i64 (rn : Int)) (by simp only [List.getElem?_toArray, List.getElem?_cons_succ, List.getElem?_cons_zero]; rfl) (by as_aux_lemma => kernel_rfl) (by as_aux_lemma => kernel_rfl) (by as_aux_lemma => kernel_rfl) (fun _ _ _ h => h) (Or.inl ⟨by rfl, ?_⟩) hS ?_
        · intro U hU
          obtain ⟨s0, s1, s2, s3, s4, s5⟩ := hU
          kernel_rfl
        simp only [Act.put, List.setIfInBounds_toArray, List.set_cons_zero, List.set_cons_succ]
        refine wpAnyL_take (i := 7) (v := .int .i64 (kn : Int)) (by simp only [List.getElem?_toArray, List.getElem?_cons_succ, List.getElem?_cons_zero]; rfl) (by as_aux_lemma => kernel_rfl) (by as_aux_lemma => kernel_rfl) (by as_aux_lemma => kernel_rfl) (fun _ _ _ h => h) (Or.inl ⟨by rfl, ?_⟩) hS ?_
        · intro U hU
          obtain ⟨s0, s1, s2, s3, s4, s5⟩ := hU
          kernel_rfl
        simp only [Act.put, List.setIfInBounds_toArray, List.set_cons_zero, List.set_cons_succ]
        refine wpAnyL_ready (rs := [8]) (by as_aux_lemma => kernel_rfl) (by simp) ?_
        refine AllReadyL.cons (by simp only [List.getElem?_toArray, List.getElem?_cons_succ, List.getElem?_cons_zero]; rfl) (fun K' hK' => ?_) AllReadyL.nil
        go_simp
        go_at_call 31
        refine (G1.out en _ hlt).mono ?_
        rintro e' U8 ⟨Ab, cb, rfl, oB, hb8⟩
        have b8 := below_trans bV hb8
        have hS := hSB _ (b8.mono hsz)
        have oB := oB.mono (bV.size)
        dsimp only
        refine hK'.out _ _ hS (fun _ => ?_)
        clear hb8
        clear hK' K'
        try simp only [Act.put, List.setIfInBounds_toArray, List.set_cons_zero, List.set_cons_succ]
        refine wpAnyL_take (i := 9) (v := .tuple #[.slice Ab (NBf en) cb, .int .i64 ((WBf en : Nat) : Int)]) (by simp only [List.getElem?_toArray, List.getElem?_cons_succ, List.getElem?_cons_zero]; rfl) (by as_aux_lemma => kernel_rfl) (by as_aux_lemma => kernel_rfl) (by as_aux_lemma => kernel_rfl) (fun _ _ _ h => h) (Or.inl ⟨by rfl, ?_⟩) hS ?_
        · intro U hU
          obtain ⟨s0, s1, s2, s3, s4, s5⟩ := hU
          kernel_rfl
        simp only [Act.put, List.setIfInBounds_toArray, List.set_cons_zero, List.set_cons_succ]
        refine wpAnyL_take (i := 10) (v := .slice Ab (NBf en) cb) (by simp only [List.getElem?_toArray, List.getElem?_cons_succ, List.getElem?_cons_zero]; rfl) (by as_aux_lemma => kernel_rfl) (by as_aux_lemma => kernel_rfl) (by as_aux_lemma => kernel_rfl) (fun _ _ _ h => h) (Or.inl ⟨by rfl, ?_⟩) hS ?_
        · intro U hU
          obtain ⟨s0, s1, s2, s3, s4, s5⟩ := hU
          kernel_rfl
        simp only [Act.put, List.setIfInBounds_toArray, List.set_cons_zero, List.set_cons_succ]
        refine wpAnyL_take (i := 11) (v := .int .i64 ((WBf en : Nat) : Int)) (by simp only [List.getElem?_toArray, List.getElem?_cons_succ, List.getElem?_cons_zero]; rfl) (by as_aux_lemma => kernel_rfl) (by as_aux_lemma => kernel_rfl) (by as_aux_lemma => kernel_rfl) (fun _ _ _ h => h) (Or.inl ⟨by rfl, ?_⟩) hS ?_
        · intro U hU
          obtain ⟨s0, s1, s2, s3, s4, s5⟩ := hU
          kernel_rfl
        simp only [Act.put, List.setIfInBounds_toArray, List.set_cons_zero, List.set_cons_succ]
        refine wpAnyL_take (i := 12) (v := .slice Ab (NBf en) cb) (by simp only [List.getElem?_toArray, List.getElem?_cons_succ, List.getElem?_cons_zero]; rfl) (by as_aux_lemma => kernel_rfl) (by as_aux_lemma => kernel_rfl) (by as_aux_lemma => kernel_rfl) (fun _ _ _ h => h) (Or.inl ⟨by rfl, ?_⟩) hS ?_
        · intro U hU
          obtain ⟨s0, s1, s2, s3, s4, s5⟩ := hU
          kernel_rfl
        simp only [Act.put, List.setIfInBounds_toArray, List.set_cons_zero, List.set_cons_succ]
        refine wpAnyL_take (i := 13) (v := .int .i64 ((WBf en : Nat) : Int)) (by simp only [List.getElem?_toArray, List.getElem?_cons_succ, List.getElem?_cons_zero]; rfl) (by as_aux_lemma => kernel_rfl) (by as_aux_lemma => kernel_rfl) (by as_aux_lemma => kernel_rfl) (fun _ _ _ h => h) (Or.inl ⟨by rfl, ?_⟩) hS ?_
        · intro U hU
          obtain ⟨s0, s1, s2, s3, s4, s5⟩ := hU
          kernel_rfl
        simp only [Act.put, List.setIfInBounds_toArray, List.set_cons_zero, List.set_cons_succ]
        refine wpAnyL_done (by as_aux_lemma => kernel_rfl) ?_ _
        simp only [OnlyN]
        refine ⟨Ab, cb, ?_, oB, b8⟩
        (try simp only [Act.put, List.setIfInBounds_toArray, List.set_cons_zero, List.set_cons_succ])
      rintro a' Vb ⟨Ab, cb, rfl, oB, hbb⟩
      simp only [Act.put, List.setIfInBounds_toArray, List.set_cons_zero, List.set_cons_succ]
      have par2 := (hbb.block gp (by omega)).trans par1
      have rz2 := (hbb.block gz (by omega)).trans rz1
      have y0' := (hbb.cell (p := ⟨bx, ox + en * 4, none⟩) (by simp only; omega)).trans y0
      have y1' := (hbb.cell (p := ⟨bx, ox + en * 4 + 1, none⟩) (by simp only; omega)).trans y1
      have y2' := (hbb.cell (p := ⟨bx, ox + en * 4 + 2, none⟩) (by simp only; omega)).trans y2
      have y3' := (hbb.cell (p := ⟨bx, ox + en * 4 + 3, none⟩) (by simp only; omega)).trans y3
      have oB := oB.at_
      have HOB := Lib.hid oB
      have hsb : w.heap.size ≤ Vb.heap.size := Nat.le_trans hle hbb.size
      clear oB y0 y1 y2 y3 hsz
      have hsz : w.heap.size ≤ Vb.heap.size := hsb
      go_upto_region 33 with fail
      refine last_cut (by kernel_rfl) (fun U => U.heap[gp]? = some (.cells #[.int .i64 (tx : Int), .int .i64 (ty : Int), .int .i64 (lv : Int), .int .i64 (cw : Int), .int .i64 (ch : Int), .int .i64 (pr : Int), .int .i64 (st : Int), .int .i64 (od : Int), .int .i64 (ly : Int), .bool rct, .bool sop, .bool eph] 27 (0, 0)) ∧ U.heap[gz]? = some (.cells #[.int .i64 Z0, .int .i64 Z1, .int .i64 Z2, .int .i64 Z3] 53 (0, 0)) ∧ U.cell? ⟨bx, ox + en * 4, none⟩ = some (.int .i64 (fb en).x0) ∧ U.cell? ⟨bx, ox + en * 4 + 1, none⟩ = some (.int .i64 (fb en).y0) ∧ U.cell? ⟨bx, ox + en * 4 + 2, none⟩ = some (.int .i64 (fb en).x1) ∧ U.cell? ⟨bx, ox + en * 4 + 3, none⟩ = some (.int .i64 (fb en).y1)) (fun aF a' W' => ∃ Ad cd, a' = ((((((((((((((aF.put (some 190) (.slice (some ⟨bx, ox, none⟩) BN cX)).put (some 191) (.int .i64 (en : Int))).put (some 192) (.pointer (some ⟨bx, ox + en * 4, none⟩))).put (some 193) (.agg #[.int .i64 (fb en).x0, .int .i64 (fb en).y0, .int .i64 (fb en).x1, .int .i64 (fb en).y1])).put (some 194) (.agg #[.int .i64 Z0, .int .i64 Z1, .int .i64 Z2, .int .i64 Z3])).put (some 195) (.agg #[.int .i64 (tx : Int), .int .i64 (ty : Int), .int .i64 (lv : Int), .int .i64 (cw : Int), .int .i64 (ch : Int), .int .i64 (pr : Int), .int .i64 (st : Int), .int .i64 (od : Int), .int .i64 (ly : Int), .bool rct, .bool sop, .bool eph])).put (some 196) (.int .i64 (rn : Int))).put (some 197) (.int .i64 (kn : Int))).put (some 198) (.tuple #[.slice Ad (NBf en) cd, .int .i64 ((WBf en : Nat) : Int)])).put (some 189) (.tuple #[.slice Ad (NBf en) cd, .int .i64 ((WBf en : Nat) : Int)])).put (some 199) (.slice Ad (NBf en) cd)).put (some 200) (.int .i64 ((WBf en : Nat) : Int))).put (some 23) (.slice Ad (NBf en) cd)).put (some 24) (.int .i64 ((WBf en : Nat) : Int))) ∧ OwnC W' Vb.heap.size 53 4 (.slice Ad (NBf en) cd) (NBf en) (fun i => rcL (ff en i)) ∧ Below Vb.heap.size Vb W') ⟨par2, rz2, y0', y1', y2', y3'⟩ (fun hS => ?_) ?_
      · skip
        have hSB : ∀ U : World, Below (w.heap.size) Vb U → U.heap[gp]? = some (.cells #[.int .i64 (tx : Int), .int .i64 (ty : Int), .int .i64 (lv : Int), .int .i64 (cw : Int), .int .i64 (ch : Int), .int .i64 (pr : Int), .int .i64 (st : Int), .int .i64 (od : Int), .int .i64 (ly : Int), .bool rct, .bool sop, .bool eph] 27 (0, 0)) ∧ U.heap[gz]? = some (.cells #[.int .i64 Z0, .int .i64 Z1, .int .i64 Z2, .int .i64 Z3] 53 (0, 0)) ∧ U.cell? ⟨bx, ox + en * 4, none⟩ = some (.int .i64 (fb en).x0) ∧ U.cell? ⟨bx, ox + en * 4 + 1, none⟩ = some (.int .i64 (fb en).y0) ∧ U.cell? ⟨bx, ox + en * 4 + 2, none⟩ = some (.int .i64 (fb en).x1) ∧ U.cell? ⟨bx, ox + en * 4 + 3, none⟩ = some (.int .i64 (fb en).y1) := fun U h => ⟨(h.block (gp) (by omega)).trans (par2), (h.block (gz) (by omega)).trans (rz2), (h.cell (p := ⟨bx, ox + en * 4, none⟩) (by simp only; omega)).trans (y0'), (h.cell (p := ⟨bx, ox + en * 4 + 1, none⟩) (by simp only; omega)).trans (y1'), (h.cell (p := ⟨bx, ox + en * 4 + 2, none⟩) (by simp only; omega)).trans (y2'), (h.cell (p := ⟨bx, ox + en * 4 + 3, none⟩) (by simp only; omega)).trans (y3')⟩
        have bV : Below Vb.heap.size Vb Vb.drew := (Below.refl _ _).drew
        generalize Vb.drew = V0 at *
        change wpAnyL _ _ _ _ _ 14 #[false, false, false, false, false, false, false, false, false, false, false, false, false, false] _ _
        refine wpAnyL_take (i := 0) (v := .slice (some ⟨bx, ox, none⟩) BN cX) (by simp only [List.getElem?_toArray, List.getElem?_cons_succ, List.getElem?_cons_zero]; rfl) (by as_aux_lemma => kernel_rfl) (by as_aux_lemma => kernel_rfl) (by as_aux_lemma => kernel_rfl) (fun _ _ _ h => h) (Or.inl ⟨by rfl, ?_⟩) hS ?_
        · intro U hU
          obtain ⟨s0, s1, s2, s3, s4, s5⟩ := hU
          kernel_rfl
        simp only [Act.put, List.setIfInBounds_toArray, List.set_cons_zero, List.set_cons_succ]
        refine wpAnyL_take (i := 1) (v := .int .i64 (en : Int)) (by simp only [List.getElem?_toArray, List.getElem?_cons_succ, List.getElem?_cons_zero]; rfl) (by as_aux_lemma => kernel_rfl) (by as_aux_lemma => kernel_rfl) (by as_aux_lemma => kernel_rfl) (fun _ _ _ h => h) (Or.inl ⟨by rfl, ?_⟩) hS ?_
        · intro U hU
          obtain ⟨s0, s1, s2, s3, s4, s5⟩ := hU
          kernel_rfl
        simp only [Act.put, List.setIfInBounds_toArray, List.set_cons_zero, List.set_cons_succ]
        refine wpAnyL_take (i := 2) (v := .pointer (some ⟨bx, ox + en * 4, none⟩)) (by simp only [List.getElem?_toArray, List.getElem?_cons_succ, List.getElem?_cons_zero]; rfl) (by as_aux_lemma => kernel_rfl) (by as_aux_lemma => kernel_rfl) (by as_aux_lemma => kernel_rfl) (fun _ _ _ h => h) (Or.inl ⟨by rfl, ?_⟩) hS ?_
        · intro U hU
          obtain ⟨s0, s1, s2, s3, s4, s5⟩ := hU
          go_simp
        simp only [Act.put, List.setIfInBounds_toArray, List.set_cons_zero, List.set_cons_succ]
        refine wpAnyL_take (i := 3) (v := .agg #[.int .i64 (fb en).x0, .int .i64 (fb en).y0, .int .i64 (fb en).x1, .int .i64 (fb en).y1]) (by simp only [List.getElem?_toArray, List.getElem?_cons_succ, List.getElem?_cons_zero]; rfl) (by as_aux_lemma => kernel_rfl) (by as_aux_lemma => kernel_rfl) (by as_aux_lemma => kernel_rfl) (fun _ _ _ h => h) (Or.inl ⟨by rfl, ?_⟩) hS ?_
        · intro U hU
          obtain ⟨s0, s1, s2, s3, s4, s5⟩ := hU
          go_simp
        simp only [Act.put, List.setIfInBounds_toArray, List.set_cons_zero, List.set_cons_succ]
        refine wpAnyL_take (i := 4) (v := .agg #[.int .i64 Z0, .int .i64 Z1, .int .i64 Z2, .int .i64 Z3]) (by simp only [List.getElem?_toArray, List.getElem?_cons_succ, List.getElem?_cons_zero]; rfl) (by as_aux_lemma => kernel_rfl) (by as_aux_lemma => kernel_rfl) (by as_aux_lemma => kernel_rfl) (fun _ _ _ h => h) (Or.inl ⟨by rfl, ?_⟩) hS ?_
        · intro U hU
          obtain ⟨s0, s1, s2, s3, s4, s5⟩ := hU
          exact exec_loadRow (cs := [.int .i64 Z0, .int .i64 Z1, .int .i64 Z2, .int .i64 Z3]) rfl rfl s1 (by kernel_rfl) (by kernel_rfl)
        simp only [Act.put, List.setIfInBounds_toArray, List.set_cons_zero, List.set_cons_succ]
        refine wpAnyL_take (i := 5) (v := .agg #[.int .i64 (tx : Int), .int .i64 (ty : Int), .int .i64 (lv : Int), .int .i64 (cw : Int), .int .i64 (ch : Int), .int .i64 (pr : Int), .int .i64 (st : Int), .int .i64 (od : Int), .int .i64 (ly : Int), .bool rct, .bool sop, .bool eph]) (by simp only [List.getElem?_toArray, List.getElem?_cons_succ, List.getElem?_cons_zero]; rfl) (by as_aux_lemma => kernel_rfl) (by as_aux_lemma => kernel_rfl) (by as_aux_lemma => kernel_rfl) (fun _ _ _ h => h) (Or.inl ⟨by rfl, ?_⟩) hS ?_
        · intro U hU
          obtain ⟨s0, s1, s2, s3, s4, s5⟩ := hU
          exact exec_loadRow (cs := [.int .i64 (tx : Int), .int .i64 (ty : Int), .int .i64 (lv : Int), .int .i64 (cw : Int), .int .i64 (ch : Int), .int .i64 (pr : Int), .int .i64 (st : Int), .int .i64 (od : Int), .int .i64 (ly : Int), .bool rct, .bool sop, .bool eph]) rfl rfl s0 (by kernel_rfl) (by kernel_rfl)
        simp only [Act.put, List.setIfInBounds_toArray, List.set_cons_zero, List.set_cons_succ]
        refine wpAnyL_take (i := 6) (v := .int .i64 (rn : Int)) (by simp only [List.getElem?_toArray, List.getElem?_cons_succ, List.getElem?_cons_zero]; rfl) (by as_aux_lemma => kernel_rfl) (by as_aux_lemma => kernel_rfl) (by as_aux_lemma => kernel_rfl) (fun _ _ _ h => h) (Or.inl ⟨by rfl, ?_⟩) hS ?_
        · intro U hU
          obtain ⟨s0, s1, s2, s3, s4, s5⟩ := hU
          kernel_rfl
        simp only [Act.put, List.setIfInBounds_toArray, List.set_cons_zero, List.set_cons_succ]
        refine wpAnyL_take (i := 7) (v := .int .i64 (kn : Int)) (by simp only [List.getElem?_toArray, List.getElem?_cons_succ, List.getElem?_cons_zero]; rfl) (by as_aux_lemma => kernel_rfl) (by as_aux_lemma => kernel_rfl) (by as_aux_lemma => kernel_rfl) (fun _ _ _ h => h) (Or.inl ⟨by rfl, ?_⟩) hS ?_
        · intro U hU
          obtain ⟨s0, s1, s2, s3, s4, s5⟩ := hU
          kernel_rfl
        simp only [Act.put, List.setIfInBounds_toArray, List.set_cons_zero, List.set_cons_succ]
        refine wpAnyL_ready (rs := [8]) (by as_aux_lemma => kernel_rfl) (by simp) ?_
        refine AllReadyL.cons (by simp only [List.getElem?_toArray, List.getElem?_cons_succ, List.getElem?_cons_zero]; rfl) (fun K' hK' => ?_) AllReadyL.nil
        go_simp
        go_at_call 32
        refine (G2.out en _ hlt).mono ?_
        rintro e' U8 ⟨Ad, cd, rfl, oB, hb8⟩
        have b8 := below_trans bV hb8
        have hS := hSB _ (b8.mono hsz)
        have oB := oB.mono (bV.size)
        dsimp only
        refine hK'.out _ _ hS (fun _ => ?_)
        clear hb8
        clear hK' K'
        try simp only [Act.put, List.setIfInBounds_toArray, List.set_cons_zero, List.set_cons_succ]
        refine wpAnyL_take (i := 9) (v := .tuple #[.slice Ad (NBf en) cd, .int .i64 ((WBf en : Nat) : Int)]) (by simp only [List.getElem?_toArray, List.getElem?_cons_succ, List.getElem?_cons_zero]; rfl) (by as_aux_lemma => kernel_rfl) (by as_aux_lemma => kernel_rfl) (by as_aux_lemma => kernel_rfl) (fun _ _ _ h => h) (Or.inl ⟨by rfl, ?_⟩) hS ?_
        · intro U hU
          obtain ⟨s0, s1, s2, s3, s4, s5⟩ := hU
          kernel_rfl
        simp only [Act.put, List.setIfInBounds_toArray, List.set_cons_zero, List.set_cons_succ]
        refine wpAnyL_take (i := 10) (v := .slice Ad (NBf en) cd) (by simp only [List.getElem?_toArray, List.getElem?_cons_succ, List.getElem?_cons_zero]; rfl) (by as_aux_lemma => kernel_rfl) (by as_aux_lemma => kernel_rfl) (by as_aux_lemma => kernel_rfl) (fun _ _ _ h => h) (Or.inl ⟨by rfl, ?_⟩) hS ?_
        · intro U hU
          obtain ⟨s0, s1, s2, s3, s4, s5⟩ := hU
          kernel_rfl
        simp only [Act.put, List.setIfInBounds_toArray, List.set_cons_zero, List.set_cons_succ]
        refine wpAnyL_take (i := 11) (v := .int .i64 ((WBf en : Nat) : Int)) (by simp only [List.getElem?_toArray, List.getElem?_cons_succ, List.getElem?_cons_zero]; rfl) (by as_aux_lemma => kernel_rfl) (by as_aux_lemma => kernel_rfl) (by as_aux_lemma => kernel_rfl) (fun _ _ _ h => h) (Or.inl ⟨by rfl, ?_⟩) hS ?_
        · intro U hU
          obtain ⟨s0, s1, s2, s3, s4, s5⟩ := hU
          kernel_rfl
        simp only [Act.put, List.setIfInBounds_toArray, List.set_cons_zero, List.set_cons_succ]
        refine wpAnyL_take (i := 12) (v := .slice Ad (NBf en) cd) (by simp only [List.getElem?_toArray, List.getElem?_cons_succ, List.getElem?_cons_zero]; rfl) (by as_aux_lemma => kernel_rfl) (by as_aux_lemma => kernel_rfl) (by as_aux_lemma => kernel_rfl) (fun _ _ _ h => h) (Or.inl ⟨by rfl, ?_⟩) hS ?_
        · intro U hU
          obtain ⟨s0, s1, s2, s3, s4, s5⟩ := hU
          kernel_rfl
        simp only [Act.put, List.setIfInBounds_toArray, List.set_cons_zero, List.set_cons_succ]
        refine wpAnyL_take (i := 13) (v := .int .i64 ((WBf en : Nat) : Int)) (by simp only [List.getElem?_toArray, List.getElem?_cons_succ, List.getElem?_cons_zero]; rfl) (by as_aux_lemma => kernel_rfl) (by as_aux_lemma => kernel_rfl) (by as_aux_lemma => kernel_rfl) (fun _ _ _ h => h) (Or.inl ⟨by rfl, ?_⟩) hS ?_
        · intro U hU
          obtain ⟨s0, s1, s2, s3, s4, s5⟩ := hU
          kernel_rfl
        simp only [Act.put, List.setIfInBounds_toArray, List.set_cons_zero, List.set_cons_succ]
        refine wpAnyL_done (by as_aux_lemma => kernel_rfl) ?_ _
        simp only [OnlyN]
        refine ⟨Ad, cd, ?_, oB, b8⟩
        (try simp only [Act.put, List.setIfInBounds_toArray, List.set_cons_zero, List.set_cons_succ])
      rintro a' Vd ⟨Ad, cd, rfl, oD, hbd⟩
      simp only [Act.put, List.setIfInBounds_toArray, List.set_cons_zero, List.set_cons_succ]
      have HR := Lib.hid (rects12 Ab Ad (NBf en) cb cd (ff en) Vd _ _ (HOB.out.below hbd) oD.at_ (hNB en hlt))
      have hbz := (hbe.trans (hbb.mono hle)).trans (hbd.mono hsz)
      clear oD hbd HOB hbb y0' y1' y2' y3' par1 par2 rz1 rz2
      go_wp2_with fail
      refine HR.out.mono ?_
      rintro e' w' ⟨rfl, qq, rfl⟩
      have hby := below_drewN hbz qq
      clear HR hbz
      go_wp2_with fail
      go_roundw
      case rel => exact ⟨en + 1, by omega, by go_num, hby⟩
      case measure => simp [intOf]; omega
    · obtain rfl : en = BN := by omega
      clear G1 G2 HX
      go_wp2_with fail
      first
        | exact hbe
        | (apply hexit; exact hbe)
end Go.Proofs.Ytmieoifagnpbiaa
