/- THE INNER LOOP OF waveletlaw12.CanvasBlocks. -/
import Derived.Test.YtmieoifagnpbiaaRef12b
import Derived.Test.YtmieoifagnpbiaaLoad
import Derived.Test.YtmieoifagnpbiaaBlkLaw
import Derived.Deep.CutBlock
import Derived.Deep.LoopGhost
namespace Go.Proofs.Ytmieoifagnpbiaa
open Go.RowKit
attribute [local go_sem] opv opnd
set_option maxHeartbeats 40000000
set_option linter.unusedVariables false
set_option linter.unusedSimpArgs false
set_option maxRecDepth 1000000

def firstLoop : Code → Option Code
  | .loop c => some c
  | .seq a b => match firstLoop a with
    | some c => some c
    | none => firstLoop b
  | .block _ c => firstLoop c
  | .scope c => firstLoop c
  | .cond _ a b => match firstLoop a with
    | some c => some c
    | none => firstLoop b
  | _ => none
noncomputable def cbInner : Code := (((Try.f9.body.bind firstLoop).bind firstLoop).getD .skip)

/-- what the law knows of block i -/
def blkG (f : Nat → Rc) (SX SY : Int) (W i : Nat) : Prop :=
  0 ≤ (f i).x0 ∧ (f i).x0 < (f i).x1 ∧ (f i).x1 ≤ 1024 ∧ 0 ≤ (f i).y0 ∧ (f i).y0 < (f i).y1 ∧ (f i).y1 ≤ 1024 ∧ (f i).x0 / SX = ((f i).x1 - 1) / SX ∧ (f i).y0 / SY = ((f i).y1 - 1) / SY ∧ (0 < i % W → (f i).x0 = (f (i - 1)).x1 ∧ (f i).y0 = (f (i - 1)).y0) ∧ (W ≤ i → (f i).y0 = (f (i - W)).y1)

theorem cb_inner {c0 c1 c2 c3 c4 c5 c6 c7 c8 c9 c10 c11 c12 c13 c14 c15 c18 c22 c23 c24 c25 c26 c27 c28 c29 c30 c31 c32 c33 c34 c35 c36 c37 c38 c39 c40 c41 c42 c43 c44 c45 c46 c47 c48 c49 c50 c51 c52 c53 c54 c55 c56 c57 c58 c59 c60 c61 c62 c63 c64 c65 c66 c67 c68 c69 c70 c71 c72 c73 c74 c75 c76 c77 c78 c79 c80 c81 c82 c83 c84 c85 c86 c87 c88 c89 c90 c91 c92 c93 c94 c95 c96 c97 c98 c99 c100 c101 c102 c103 c104 c105 c106 c107 c108 c109 c110 c111 c112 c113 c114 c115 c116 c117 c118 c119 c120 c121 c122 c123 c124 c125 c126 c127 c128 c129 c130 c131 c132 c133 c134 c135 c136 c137 c138 c139 c140 c141 c142 c143 c144 c145 c146 c147 c148 c149 c150 c151 c152 c153 c154 c155 c156 c157 c158 c159 c160 c161 c162 c163 c164 c165 c166 c167 c168 c169 c170 c171 c172 c173 c174 c175 c176 c177 c178 c179 c180 c181 c182 c183 c184 c185 c186 c187 c188 c189 c190 c191 c192 c193 c194 c195 c196 c197 c198 c199 c200 c201 c202 c203 c204 c205 c206 c207 c208 c209 c210 c211 c212 c213 c214 c215 c216 c217 c218 c219 c220 c221 c222 c223 c224 c225 c226 c227 c228 c229 c230 c231 c232 c233 c234 c235 c236 c237 c238 c239 c240 c241 c242 c243 c244 c245 c246 c247 c248 c249 c250 c251 c252 c253 : Value} {f : Nat → Rc} (NB WB cb bb ob : Nat) (SX SY : Int) (Vb : World) (hNb : NB ≤ 1048576) (hNpos : 1 ≤ NB) (wpos : 0 < WB) (hWb : WB ≤ 1024) (bSX : 1 ≤ SX ∧ SX ≤ 32768) (bSY : 1 ≤ SY ∧ SY ≤ 32768) (hL : ∀ i, i < NB → blkG f SX SY WB i) (hCB : CellsAt Vb Vb.heap.size (some ⟨bb, ob, none⟩) 4 NB (fun i => rcL (f i))) (hbb1 : bb < Vb.heap.size) (Q0 : Exit → Act → World → Prop) (hexit : ∀ (u6 u21 u130 u131 u132 u133 u134 u135 u136 u137 u138 u139 u140 u141 u142 u143 u144 u145 u146 u147 u148 u149 u150 u151 u152 u153 u154 u155 u156 u157 u158 u159 u160 u161 u162 u163 u164 u165 u166 u167 u168 u169 u170 u171 u172 u173 u174 u175 u176 u177 u178 u179 u180 u181 u182 u183 u184 u185 u186 u187 u188 u189 u190 u191 u192 u193 u194 u195 u196 u197 u198 u199 u200 u201 u202 u203 u204 u205 u206 u207 u208 u209 u210 u211 u212 u213 u214 u215 u216 u217 u218 u219 u220 u221 u222 u223 u224 u225 u226 u227 u228 u229 u230 u231 u232 u233 : Value) (w' : World), Below Vb.heap.size Vb w' → Q0 (.exit 2) ⟨List.toArray (c0 :: c1 :: c2 :: c3 :: c4 :: c5 :: u6 :: c7 :: c8 :: c9 :: c10 :: c11 :: c12 :: c13 :: c14 :: c15 :: Value.int .i64 SX :: Value.int .i64 SY :: c18 :: Value.slice (some ⟨bb, ob, none⟩) NB cb :: Value.int .i64 (WB : Int) :: u21 :: c22 :: c23 :: c24 :: c25 :: c26 :: c27 :: c28 :: c29 :: c30 :: c31 :: c32 :: c33 :: c34 :: c35 :: c36 :: c37 :: c38 :: c39 :: c40 :: c41 :: c42 :: c43 :: c44 :: c45 :: c46 :: c47 :: c48 :: c49 :: c50 :: c51 :: c52 :: c53 :: c54 :: c55 :: c56 :: c57 :: c58 :: c59 :: c60 :: c61 :: c62 :: c63 :: c64 :: c65 :: c66 :: c67 :: c68 :: c69 :: c70 :: c71 :: c72 :: c73 :: c74 :: c75 :: c76 :: c77 :: c78 :: c79 :: c80 :: c81 :: c82 :: c83 :: c84 :: c85 :: c86 :: c87 :: c88 :: c89 :: c90 :: c91 :: c92 :: c93 :: c94 :: c95 :: c96 :: c97 :: c98 :: c99 :: c100 :: c101 :: c102 :: c103 :: c104 :: c105 :: c106 :: c107 :: c108 :: c109 :: c110 :: c111 :: c112 :: c113 :: c114 :: c115 :: c116 :: c117 :: c118 :: c119 :: c120 :: c121 :: c122 :: c123 :: c124 :: c125 :: c126 :: c127 :: c128 :: c129 :: u130 :: u131 :: u132 :: u133 :: u134 :: u135 :: u136 :: u137 :: u138 :: u139 :: u140 :: u141 :: u142 :: u143 :: u144 :: u145 :: u146 :: u147 :: u148 :: u149 :: u150 :: u151 :: u152 :: u153 :: u154 :: u155 :: u156 :: u157 :: u158 :: u159 :: u160 :: u161 :: u162 :: u163 :: u164 :: u165 :: u166 :: u167 :: u168 :: u169 :: u170 :: u171 :: u172 :: u173 :: u174 :: u175 :: u176 :: u177 :: u178 :: u179 :: u180 :: u181 :: u182 :: u183 :: u184 :: u185 :: u186 :: u187 :: u188 :: u189 :: u190 :: u191 :: u192 :: u193 :: u194 :: u195 :: u196 :: u197 :: u198 :: u199 :: u200 :: u201 :: u202 :: u203 :: u204 :: u205 :: u206 :: u207 :: u208 :: u209 :: u210 :: u211 :: u212 :: u213 :: u214 :: u215 :: u216 :: u217 :: u218 :: u219 :: u220 :: u221 :: u222 :: u223 :: u224 :: u225 :: u226 :: u227 :: u228 :: u229 :: u230 :: u231 :: u232 :: u233 :: c234 :: c235 :: c236 :: c237 :: c238 :: c239 :: c240 :: c241 :: c242 :: c243 :: c244 :: c245 :: c246 :: c247 :: c248 :: c249 :: c250 :: c251 :: c252 :: c253 :: []), []⟩ w') :
    Code.wp Try.prog (Code.loop cbInner) Q0 ⟨List.toArray (c0 :: c1 :: c2 :: c3 :: c4 :: c5 :: c6 :: c7 :: c8 :: c9 :: c10 :: c11 :: c12 :: c13 :: c14 :: c15 :: Value.int .i64 SX :: Value.int .i64 SY :: c18 :: Value.slice (some ⟨bb, ob, none⟩) NB cb :: Value.int .i64 (WB : Int) :: Value.int .i64 0 :: c22 :: c23 :: c24 :: c25 :: c26 :: c27 :: c28 :: c29 :: c30 :: c31 :: c32 :: c33 :: c34 :: c35 :: c36 :: c37 :: c38 :: c39 :: c40 :: c41 :: c42 :: c43 :: c44 :: c45 :: c46 :: c47 :: c48 :: c49 :: c50 :: c51 :: c52 :: c53 :: c54 :: c55 :: c56 :: c57 :: c58 :: c59 :: c60 :: c61 :: c62 :: c63 :: c64 :: c65 :: c66 :: c67 :: c68 :: c69 :: c70 :: c71 :: c72 :: c73 :: c74 :: c75 :: c76 :: c77 :: c78 :: c79 :: c80 :: c81 :: c82 :: c83 :: c84 :: c85 :: c86 :: c87 :: c88 :: c89 :: c90 :: c91 :: c92 :: c93 :: c94 :: c95 :: c96 :: c97 :: c98 :: c99 :: c100 :: c101 :: c102 :: c103 :: c104 :: c105 :: c106 :: c107 :: c108 :: c109 :: c110 :: c111 :: c112 :: c113 :: c114 :: c115 :: c116 :: c117 :: c118 :: c119 :: c120 :: c121 :: c122 :: c123 :: c124 :: c125 :: c126 :: c127 :: c128 :: c129 :: c130 :: c131 :: c132 :: c133 :: c134 :: c135 :: c136 :: c137 :: c138 :: c139 :: c140 :: c141 :: c142 :: c143 :: c144 :: c145 :: c146 :: c147 :: c148 :: c149 :: c150 :: c151 :: c152 :: c153 :: c154 :: c155 :: c156 :: c157 :: c158 :: c159 :: c160 :: c161 :: c162 :: c163 :: c164 :: c165 :: c166 :: c167 :: c168 :: c169 :: c170 :: c171 :: c172 :: c173 :: c174 :: c175 :: c176 :: c177 :: c178 :: c179 :: c180 :: c181 :: c182 :: c183 :: c184 :: c185 :: c186 :: c187 :: c188 :: c189 :: c190 :: c191 :: c192 :: c193 :: c194 :: c195 :: c196 :: c197 :: c198 :: c199 :: c200 :: c201 :: c202 :: c203 :: c204 :: c205 :: c206 :: c207 :: c208 :: c209 :: c210 :: c211 :: c212 :: c213 :: c214 :: c215 :: c216 :: c217 :: c218 :: c219 :: c220 :: c221 :: c222 :: c223 :: c224 :: c225 :: c226 :: c227 :: c228 :: c229 :: c230 :: c231 :: c232 :: c233 :: c234 :: c235 :: c236 :: c237 :: c238 :: c239 :: c240 :: c241 :: c242 :: c243 :: c244 :: c245 :: c246 :: c247 :: c248 :: c249 :: c250 :: c251 :: c252 :: c253 :: []), []⟩ Vb := by
  have HL := Lib.hid hL
  have HCB := Lib.hid hCB
  have wn0 : ¬ WB = 0 := by omega
  clear hL hCB
  conv => arg 2; arg 1; whnf
  go_loopw [21] (fun ii wr => ∃ i : Nat, i ≤ NB ∧ ii = .int .i64 (i : Int) ∧ Below Vb.heap.size Vb wr) (fun ii _ => NB - (intOf ii).toNat)
  case atStart => exact ⟨0, Nat.zero_le _, rfl, Below.refl _ _⟩
  case round =>
    obtain ⟨i, hi, rfl, hbi⟩ := hrel
    have hle2 := hbi.size
    obtain ⟨wi, hwi⟩ : ∃ wi, wi = wr := ⟨_, rfl⟩
    subst hwi
    by_cases hil : i < NB
    · obtain ⟨g1, g2, g3, g4, g5, g6, g7, g8, g9', g10'⟩ := HL.out i hil
      have cell : ∀ (k : Nat), k < NB → ∀ (j : Nat) (u : Value), (rcL (f k))[j]? = some u → wi.cell? ⟨bb, ob + k * 4 + j, none⟩ = some u := fun k hk j u hu => (hbi.cell (p := ⟨bb, ob + k * 4 + j, none⟩) hbb1).trans (HCB.out.cells hk hu)
      have z0 : wi.cell? ⟨bb, ob + i * 4, none⟩ = some (.int .i64 (f i).x0) := by have := cell i hil 0 _ rfl; simpa using this
      have z1' : wi.cell? ⟨bb, ob + i * 4 + 1, none⟩ = some (.int .i64 (f i).y0) := cell i hil 1 _ rfl
      have z2' : wi.cell? ⟨bb, ob + i * 4 + 2, none⟩ = some (.int .i64 (f i).x1) := cell i hil 2 _ rfl
      have z3' : wi.cell? ⟨bb, ob + i * 4 + 3, none⟩ = some (.int .i64 (f i).y1) := cell i hil 3 _ rfl
      have HAr := Lib.hid (fun v => areaR_any (f i) (by omega) (by omega) (by omega) (by omega) v)
      obtain ⟨AR, hAR⟩ : ∃ z, areaR (f i) = z := ⟨_, rfl⟩
      have ar0 : ¬ AR = 0 := by
        rw [← hAR]; unfold areaR
        have : 0 < (f i).x1 - (f i).x0 ∧ 0 < (f i).y1 - (f i).y0 := by omega
        intro h
        rcases Nat.mul_eq_zero.1 h with h | h <;> omega
      rw [hAR] at HAr
      unfold rcV at HAr
      have qx : (f i).x0.tdiv SX = (f i).x0 / SX := Int.tdiv_eq_ediv_of_nonneg (by omega)
      have qy : (f i).y0.tdiv SY = (f i).y0 / SY := Int.tdiv_eq_ediv_of_nonneg (by omega)
      have qX : ((f i).x1 - 1).tdiv SX = (f i).x0 / SX := by rw [Int.tdiv_eq_ediv_of_nonneg (by omega), g7]
      have qY : ((f i).y1 - 1).tdiv SY = (f i).y0 / SY := by rw [Int.tdiv_eq_ediv_of_nonneg (by omega), g8]
      have dxb : 0 ≤ (f i).x0 / SX ∧ (f i).x0 / SX ≤ 1024 := ⟨Int.ediv_nonneg g1 (by omega), by have := Int.ediv_le_self SX g1; omega⟩
      have dyb : 0 ≤ (f i).y0 / SY ∧ (f i).y0 / SY ≤ 1024 := ⟨Int.ediv_nonneg g4 (by omega), by have := Int.ediv_le_self SY g4; omega⟩
      generalize (f i).x0 / SX = dx at *
      generalize (f i).y0 / SY = dy at *
      obtain ⟨r2m, hr2⟩ : ∃ z, (f i).x1 - 1 = z := ⟨_, rfl⟩
      obtain ⟨r3m, hr3⟩ : ∃ z, (f i).y1 - 1 = z := ⟨_, rfl⟩
      rw [hr2] at qX
      rw [hr3] at qY
      have F1 := Lib.hid (show IntKind.i64.wrap ((f i).x1 - 1) = r2m by rw [hr2]; exact wr (by omega))
      have F2 := Lib.hid (show IntKind.i64.wrap ((f i).y1 - 1) = r3m by rw [hr3]; exact wr (by omega))
      have F3 := Lib.hid (And.intro qx (show IntKind.i64.wrap dx = dx from wr (by omega)))
      have F4 := Lib.hid (And.intro qy (show IntKind.i64.wrap dy = dy from wr (by omega)))
      have F5 := Lib.hid qX
      have F6 := Lib.hid qY
      have sx0 : (SX = 0) = False := eq_false (by omega)
      have sy0 : (SY = 0) = False := eq_false (by omega)
      have HC := Lib.hid cell
      have HG9 := Lib.hid g9'
      have HG10 := Lib.hid g10'
      clear g1 g2 g3 g4 g5 g6 g7 g8 g9' g10' qx qy qX qY dxb dyb hr2 hr3 cell hAR
      go_upto_region 22 with fail
      obtain ⟨wj, hwj⟩ : ∃ wj, wi = wj := ⟨_, rfl⟩
      subst hwj
      refine last_cut (by kernel_rfl) (fun U => U.cell? ⟨bb, ob + i * 4, none⟩ = some (.int .i64 (f i).x0) ∧ U.cell? ⟨bb, ob + i * 4 + 1, none⟩ = some (.int .i64 (f i).y0) ∧ U.cell? ⟨bb, ob + i * 4 + 2, none⟩ = some (.int .i64 (f i).x1) ∧ U.cell? ⟨bb, ob + i * 4 + 3, none⟩ = some (.int .i64 (f i).y1)) (fun aF a' W' => a' = ((((((((((((((((((((((((((((((((((((((((((aF.put (some 136) (.slice (some ⟨bb, ob, none⟩) NB cb)).put (some 137) (.int .i64 (i : Int))).put (some 138) (.pointer (some ⟨bb, ob + i * 4, none⟩))).put (some 139) (.agg #[.int .i64 (f i).x0, .int .i64 (f i).y0, .int .i64 (f i).x1, .int .i64 (f i).y1])).put (some 140) (.int .i64 (AR : Int))).put (some 141) (.bool false)).put (some 142) (.bool false)).put (some 143) (.slice (some ⟨bb, ob, none⟩) NB cb)).put (some 144) (.int .i64 (i : Int))).put (some 145) (.pointer (some ⟨bb, ob + i * 4, none⟩))).put (some 146) (.pointer (some ⟨bb, ob + i * 4, none⟩))).put (some 147) (.int .i64 (f i).x0)).put (some 148) (.int .i64 SX)).put (some 149) (.int .i64 dx)).put (some 150) (.slice (some ⟨bb, ob, none⟩) NB cb)).put (some 151) (.int .i64 (i : Int))).put (some 152) (.pointer (some ⟨bb, ob + i * 4, none⟩))).put (some 153) (.pointer (some ⟨bb, ob + i * 4 + 2, none⟩))).put (some 154) (.int .i64 (f i).x1)).put (some 155) (.int .i64 r2m)).put (some 156) (.int .i64 SX)).put (some 157) (.int .i64 dx)).put (some 158) (.bool false)).put (some 159) (.bool false)).put (some 160) (.bool false)).put (some 161) (.slice (some ⟨bb, ob, none⟩) NB cb)).put (some 162) (.int .i64 (i : Int))).put (some 163) (.pointer (some ⟨bb, ob + i * 4, none⟩))).put (some 164) (.pointer (some ⟨bb, ob + i * 4 + 1, none⟩))).put (some 165) (.int .i64 (f i).y0)).put (some 166) (.int .i64 SY)).put (some 167) (.int .i64 dy)).put (some 168) (.slice (some ⟨bb, ob, none⟩) NB cb)).put (some 169) (.int .i64 (i : Int))).put (some 170) (.pointer (some ⟨bb, ob + i * 4, none⟩))).put (some 171) (.pointer (some ⟨bb, ob + i * 4 + 3, none⟩))).put (some 172) (.int .i64 (f i).y1)).put (some 173) (.int .i64 r3m)).put (some 174) (.int .i64 SY)).put (some 175) (.int .i64 dy)).put (some 176) (.bool false)).put (some 177) (.bool false)) ∧ Below wi.heap.size wi W') ⟨z0, z1', z2', z3'⟩ (fun hS => ?_) ?_
      · skip
        have hSB : ∀ U : World, Below (wi.heap.size) wi U → U.cell? ⟨bb, ob + i * 4, none⟩ = some (.int .i64 (f i).x0) ∧ U.cell? ⟨bb, ob + i * 4 + 1, none⟩ = some (.int .i64 (f i).y0) ∧ U.cell? ⟨bb, ob + i * 4 + 2, none⟩ = some (.int .i64 (f i).x1) ∧ U.cell? ⟨bb, ob + i * 4 + 3, none⟩ = some (.int .i64 (f i).y1) := fun U h => ⟨(h.cell (p := ⟨bb, ob + i * 4, none⟩) (by simp only; omega)).trans (z0), (h.cell (p := ⟨bb, ob + i * 4 + 1, none⟩) (by simp only; omega)).trans (z1'), (h.cell (p := ⟨bb, ob + i * 4 + 2, none⟩) (by simp only; omega)).trans (z2'), (h.cell (p := ⟨bb, ob + i * 4 + 3, none⟩) (by simp only; omega)).trans (z3')⟩
        have bV : Below wi.heap.size wi wi.drew := (Below.refl _ _).drew
        have hbbi : bb < wi.heap.size := Nat.lt_of_lt_of_le hbb1 hle2
        generalize wi.drew = V0 at *
        change wpAnyL _ _ _ _ _ 42 #[false, false, false, false, false, false, false, false, false, false, false, false, false, false, false, false, false, false, false, false, false, false, false, false, false, false, false, false, false, false, false, false, false, false, false, false, false, false, false, false, false, false] _ _
        refine wpAnyL_take (i := 0) (v := .slice (some ⟨bb, ob, none⟩) NB cb) rfl (by as_aux_lemma => kernel_rfl) (by as_aux_lemma => kernel_rfl) (by as_aux_lemma => kernel_rfl) (fun _ _ _ h => h) (Or.inl ⟨by kernel_rfl, ?_⟩) hS ?_
        · intro U hU
          obtain ⟨s0, s1, s2, s3⟩ := hU
          kernel_rfl
        refine wpAnyL_take (i := 1) (v := .int .i64 (i : Int)) rfl (by as_aux_lemma => kernel_rfl) (by as_aux_lemma => kernel_rfl) (by as_aux_lemma => kernel_rfl) (fun _ _ _ h => h) (Or.inl ⟨by kernel_rfl, ?_⟩) hS ?_
        · intro U hU
          obtain ⟨s0, s1, s2, s3⟩ := hU
          kernel_rfl
        refine wpAnyL_take (i := 2) (v := .pointer (some ⟨bb, ob + i * 4, none⟩)) (by simp only [List.getElem?_toArray, List.getElem?_cons_succ, List.getElem?_cons_zero]; rfl) (by as_aux_lemma => kernel_rfl) (by as_aux_lemma => kernel_rfl) (by as_aux_lemma => kernel_rfl) (fun _ _ _ h => h) (Or.inl ⟨by kernel_rfl, ?_⟩) hS ?_
        · intro U hU
          obtain ⟨s0, s1, s2, s3⟩ := hU
          refine exec_small (opv [(136, .slice (some ⟨bb, ob, none⟩) NB cb), (137, .int .i64 (i : Int))]) (by kernel_rfl) ?_
          go_simp
        refine wpAnyL_take (i := 3) (v := .agg #[.int .i64 (f i).x0, .int .i64 (f i).y0, .int .i64 (f i).x1, .int .i64 (f i).y1]) (by simp only [List.getElem?_toArray, List.getElem?_cons_succ, List.getElem?_cons_zero]; rfl) (by as_aux_lemma => kernel_rfl) (by as_aux_lemma => kernel_rfl) (by as_aux_lemma => kernel_rfl) (fun _ _ _ h => h) (Or.inl ⟨by kernel_rfl, ?_⟩) hS ?_
        · intro U hU
          obtain ⟨s0, s1, s2, s3⟩ := hU
          refine exec_small (opv [(138, .pointer (some ⟨bb, ob + i * 4, none⟩))]) (by kernel_rfl) ?_
          go_simp
        simp only [Act.put, List.setIfInBounds_toArray, List.set_cons_zero, List.set_cons_succ]
        refine wpAnyL_ready (rs := [4]) (by as_aux_lemma => kernel_rfl) (by simp) ?_
        refine AllReadyL.cons (by simp only [List.getElem?_toArray, List.getElem?_cons_succ, List.getElem?_cons_zero]; rfl) (fun K' hK' => ?_) AllReadyL.nil
        go_simp
        go_at_call 33
        refine (HAr.out _).mono ?_
        rintro e' U4 ⟨rfl, hb4⟩
        have b4 := below_trans bV hb4
        have hS := hSB _ (b4.mono (Nat.le_refl _))
        dsimp only
        refine hK'.out _ _ hS (fun _ => ?_)
        clear hb4
        clear hK' K'
        try simp only [Act.put, List.setIfInBounds_toArray, List.set_cons_zero, List.set_cons_succ]
        refine wpAnyL_take (i := 5) (v := .bool false) (by simp only [List.getElem?_toArray, List.getElem?_cons_succ, List.getElem?_cons_zero]; rfl) (by as_aux_lemma => kernel_rfl) (by as_aux_lemma => kernel_rfl) (by as_aux_lemma => kernel_rfl) (fun _ _ _ h => h) (Or.inl ⟨by kernel_rfl, ?_⟩) hS ?_
        · intro U hU
          obtain ⟨s0, s1, s2, s3⟩ := hU
          refine exec_small (opv [(140, .int .i64 (AR : Int))]) (by kernel_rfl) ?_
          go_simp
        refine wpAnyL_take (i := 6) (v := .bool false) rfl (by as_aux_lemma => kernel_rfl) (by as_aux_lemma => kernel_rfl) (by as_aux_lemma => kernel_rfl) (fun _ _ _ h => h) (Or.inl ⟨by kernel_rfl, ?_⟩) hS ?_
        · intro U hU
          obtain ⟨s0, s1, s2, s3⟩ := hU
          kernel_rfl
        refine wpAnyL_take (i := 7) (v := .slice (some ⟨bb, ob, none⟩) NB cb) rfl (by as_aux_lemma => kernel_rfl) (by as_aux_lemma => kernel_rfl) (by as_aux_lemma => kernel_rfl) (fun _ _ _ h => h) (Or.inl ⟨by kernel_rfl, ?_⟩) hS ?_
        · intro U hU
          obtain ⟨s0, s1, s2, s3⟩ := hU
          kernel_rfl
        refine wpAnyL_take (i := 8) (v := .int .i64 (i : Int)) rfl (by as_aux_lemma => kernel_rfl) (by as_aux_lemma => kernel_rfl) (by as_aux_lemma => kernel_rfl) (fun _ _ _ h => h) (Or.inl ⟨by kernel_rfl, ?_⟩) hS ?_
        · intro U hU
          obtain ⟨s0, s1, s2, s3⟩ := hU
          kernel_rfl
        refine wpAnyL_take (i := 9) (v := .pointer (some ⟨bb, ob + i * 4, none⟩)) (by simp only [List.getElem?_toArray, List.getElem?_cons_succ, List.getElem?_cons_zero]; rfl) (by as_aux_lemma => kernel_rfl) (by as_aux_lemma => kernel_rfl) (by as_aux_lemma => kernel_rfl) (fun _ _ _ h => h) (Or.inl ⟨by kernel_rfl, ?_⟩) hS ?_
        · intro U hU
          obtain ⟨s0, s1, s2, s3⟩ := hU
          refine exec_small (opv [(143, .slice (some ⟨bb, ob, none⟩) NB cb), (144, .int .i64 (i : Int))]) (by kernel_rfl) ?_
          go_simp
        refine wpAnyL_take (i := 10) (v := .pointer (some ⟨bb, ob + i * 4, none⟩)) rfl (by as_aux_lemma => kernel_rfl) (by as_aux_lemma => kernel_rfl) (by as_aux_lemma => kernel_rfl) (fun _ _ _ h => h) (Or.inl ⟨by kernel_rfl, ?_⟩) hS ?_
        · intro U hU
          obtain ⟨s0, s1, s2, s3⟩ := hU
          kernel_rfl
        refine wpAnyL_take (i := 11) (v := .int .i64 (f i).x0) rfl (by as_aux_lemma => kernel_rfl) (by as_aux_lemma => kernel_rfl) (by as_aux_lemma => kernel_rfl) (fun _ _ _ h => h) (Or.inl ⟨by kernel_rfl, ?_⟩) hS ?_
        · intro U hU
          obtain ⟨s0, s1, s2, s3⟩ := hU
          exact exec_loadCell rfl (by kernel_rfl) s0 (by kernel_rfl)
        refine wpAnyL_take (i := 12) (v := .int .i64 SX) rfl (by as_aux_lemma => kernel_rfl) (by as_aux_lemma => kernel_rfl) (by as_aux_lemma => kernel_rfl) (fun _ _ _ h => h) (Or.inl ⟨by kernel_rfl, ?_⟩) hS ?_
        · intro U hU
          obtain ⟨s0, s1, s2, s3⟩ := hU
          kernel_rfl
        refine wpAnyL_take (i := 13) (v := .int .i64 dx) (by simp only [List.getElem?_toArray, List.getElem?_cons_succ, List.getElem?_cons_zero]; rfl) (by as_aux_lemma => kernel_rfl) (by as_aux_lemma => kernel_rfl) (by as_aux_lemma => kernel_rfl) (fun _ _ _ h => h) (Or.inl ⟨by kernel_rfl, ?_⟩) hS ?_
        · intro U hU
          obtain ⟨s0, s1, s2, s3⟩ := hU
          obtain ⟨hz, hz'⟩ := F3.out
          refine exec_small (opv [(147, .int .i64 (f i).x0), (148, .int .i64 SX)]) (by kernel_rfl) ?_
          go_simp
        refine wpAnyL_take (i := 14) (v := .slice (some ⟨bb, ob, none⟩) NB cb) rfl (by as_aux_lemma => kernel_rfl) (by as_aux_lemma => kernel_rfl) (by as_aux_lemma => kernel_rfl) (fun _ _ _ h => h) (Or.inl ⟨by kernel_rfl, ?_⟩) hS ?_
        · intro U hU
          obtain ⟨s0, s1, s2, s3⟩ := hU
          kernel_rfl
        refine wpAnyL_take (i := 15) (v := .int .i64 (i : Int)) rfl (by as_aux_lemma => kernel_rfl) (by as_aux_lemma => kernel_rfl) (by as_aux_lemma => kernel_rfl) (fun _ _ _ h => h) (Or.inl ⟨by kernel_rfl, ?_⟩) hS ?_
        · intro U hU
          obtain ⟨s0, s1, s2, s3⟩ := hU
          kernel_rfl
        refine wpAnyL_take (i := 16) (v := .pointer (some ⟨bb, ob + i * 4, none⟩)) (by simp only [List.getElem?_toArray, List.getElem?_cons_succ, List.getElem?_cons_zero]; rfl) (by as_aux_lemma => kernel_rfl) (by as_aux_lemma => kernel_rfl) (by as_aux_lemma => kernel_rfl) (fun _ _ _ h => h) (Or.inl ⟨by kernel_rfl, ?_⟩) hS ?_
        · intro U hU
          obtain ⟨s0, s1, s2, s3⟩ := hU
          refine exec_small (opv [(150, .slice (some ⟨bb, ob, none⟩) NB cb), (151, .int .i64 (i : Int))]) (by kernel_rfl) ?_
          go_simp
        refine wpAnyL_take (i := 17) (v := .pointer (some ⟨bb, ob + i * 4 + 2, none⟩)) rfl (by as_aux_lemma => kernel_rfl) (by as_aux_lemma => kernel_rfl) (by as_aux_lemma => kernel_rfl) (fun _ _ _ h => h) (Or.inl ⟨by kernel_rfl, ?_⟩) hS ?_
        · intro U hU
          obtain ⟨s0, s1, s2, s3⟩ := hU
          kernel_rfl
        refine wpAnyL_take (i := 18) (v := .int .i64 (f i).x1) rfl (by as_aux_lemma => kernel_rfl) (by as_aux_lemma => kernel_rfl) (by as_aux_lemma => kernel_rfl) (fun _ _ _ h => h) (Or.inl ⟨by kernel_rfl, ?_⟩) hS ?_
        · intro U hU
          obtain ⟨s0, s1, s2, s3⟩ := hU
          exact exec_loadCell rfl (by kernel_rfl) s2 (by kernel_rfl)
        refine wpAnyL_take (i := 19) (v := .int .i64 r2m) (by simp only [List.getElem?_toArray, List.getElem?_cons_succ, List.getElem?_cons_zero]; rfl) (by as_aux_lemma => kernel_rfl) (by as_aux_lemma => kernel_rfl) (by as_aux_lemma => kernel_rfl) (fun _ _ _ h => h) (Or.inl ⟨by kernel_rfl, ?_⟩) hS ?_
        · intro U hU
          obtain ⟨s0, s1, s2, s3⟩ := hU
          have hz := F1.out
          refine exec_small (opv [(154, .int .i64 (f i).x1)]) (by kernel_rfl) ?_
          go_simp
        refine wpAnyL_take (i := 20) (v := .int .i64 SX) rfl (by as_aux_lemma => kernel_rfl) (by as_aux_lemma => kernel_rfl) (by as_aux_lemma => kernel_rfl) (fun _ _ _ h => h) (Or.inl ⟨by kernel_rfl, ?_⟩) hS ?_
        · intro U hU
          obtain ⟨s0, s1, s2, s3⟩ := hU
          kernel_rfl
        refine wpAnyL_take (i := 21) (v := .int .i64 dx) (by simp only [List.getElem?_toArray, List.getElem?_cons_succ, List.getElem?_cons_zero]; rfl) (by as_aux_lemma => kernel_rfl) (by as_aux_lemma => kernel_rfl) (by as_aux_lemma => kernel_rfl) (fun _ _ _ h => h) (Or.inl ⟨by kernel_rfl, ?_⟩) hS ?_
        · intro U hU
          obtain ⟨s0, s1, s2, s3⟩ := hU
          have hz := F5.out
          have hz' := F3.out.2
          refine exec_small (opv [(155, .int .i64 r2m), (156, .int .i64 SX)]) (by kernel_rfl) ?_
          go_simp
        refine wpAnyL_take (i := 22) (v := .bool false) (by simp only [List.getElem?_toArray, List.getElem?_cons_succ, List.getElem?_cons_zero]; rfl) (by as_aux_lemma => kernel_rfl) (by as_aux_lemma => kernel_rfl) (by as_aux_lemma => kernel_rfl) (fun _ _ _ h => h) (Or.inl ⟨by kernel_rfl, ?_⟩) hS ?_
        · intro U hU
          obtain ⟨s0, s1, s2, s3⟩ := hU
          refine exec_small (opv [(149, .int .i64 dx), (157, .int .i64 dx)]) (by kernel_rfl) ?_
          go_simp
        refine wpAnyL_take (i := 23) (v := .bool false) rfl (by as_aux_lemma => kernel_rfl) (by as_aux_lemma => kernel_rfl) (by as_aux_lemma => kernel_rfl) (fun _ _ _ h => h) (Or.inl ⟨by kernel_rfl, ?_⟩) hS ?_
        · intro U hU
          obtain ⟨s0, s1, s2, s3⟩ := hU
          kernel_rfl
        refine wpAnyL_take (i := 24) (v := .bool false) rfl (by as_aux_lemma => kernel_rfl) (by as_aux_lemma => kernel_rfl) (by as_aux_lemma => kernel_rfl) (fun _ _ _ h => h) (Or.inl ⟨by kernel_rfl, ?_⟩) hS ?_
        · intro U hU
          obtain ⟨s0, s1, s2, s3⟩ := hU
          kernel_rfl
        refine wpAnyL_take (i := 25) (v := .slice (some ⟨bb, ob, none⟩) NB cb) rfl (by as_aux_lemma => kernel_rfl) (by as_aux_lemma => kernel_rfl) (by as_aux_lemma => kernel_rfl) (fun _ _ _ h => h) (Or.inl ⟨by kernel_rfl, ?_⟩) hS ?_
        · intro U hU
          obtain ⟨s0, s1, s2, s3⟩ := hU
          kernel_rfl
        refine wpAnyL_take (i := 26) (v := .int .i64 (i : Int)) rfl (by as_aux_lemma => kernel_rfl) (by as_aux_lemma => kernel_rfl) (by as_aux_lemma => kernel_rfl) (fun _ _ _ h => h) (Or.inl ⟨by kernel_rfl, ?_⟩) hS ?_
        · intro U hU
          obtain ⟨s0, s1, s2, s3⟩ := hU
          kernel_rfl
        refine wpAnyL_take (i := 27) (v := .pointer (some ⟨bb, ob + i * 4, none⟩)) (by simp only [List.getElem?_toArray, List.getElem?_cons_succ, List.getElem?_cons_zero]; rfl) (by as_aux_lemma => kernel_rfl) (by as_aux_lemma => kernel_rfl) (by as_aux_lemma => kernel_rfl) (fun _ _ _ h => h) (Or.inl ⟨by kernel_rfl, ?_⟩) hS ?_
        · intro U hU
          obtain ⟨s0, s1, s2, s3⟩ := hU
          refine exec_small (opv [(161, .slice (some ⟨bb, ob, none⟩) NB cb), (162, .int .i64 (i : Int))]) (by kernel_rfl) ?_
          go_simp
        refine wpAnyL_take (i := 28) (v := .pointer (some ⟨bb, ob + i * 4 + 1, none⟩)) rfl (by as_aux_lemma => kernel_rfl) (by as_aux_lemma => kernel_rfl) (by as_aux_lemma => kernel_rfl) (fun _ _ _ h => h) (Or.inl ⟨by kernel_rfl, ?_⟩) hS ?_
        · intro U hU
          obtain ⟨s0, s1, s2, s3⟩ := hU
          kernel_rfl
        refine wpAnyL_take (i := 29) (v := .int .i64 (f i).y0) rfl (by as_aux_lemma => kernel_rfl) (by as_aux_lemma => kernel_rfl) (by as_aux_lemma => kernel_rfl) (fun _ _ _ h => h) (Or.inl ⟨by kernel_rfl, ?_⟩) hS ?_
        · intro U hU
          obtain ⟨s0, s1, s2, s3⟩ := hU
          exact exec_loadCell rfl (by kernel_rfl) s1 (by kernel_rfl)
        refine wpAnyL_take (i := 30) (v := .int .i64 SY) rfl (by as_aux_lemma => kernel_rfl) (by as_aux_lemma => kernel_rfl) (by as_aux_lemma => kernel_rfl) (fun _ _ _ h => h) (Or.inl ⟨by kernel_rfl, ?_⟩) hS ?_
        · intro U hU
          obtain ⟨s0, s1, s2, s3⟩ := hU
          kernel_rfl
        refine wpAnyL_take (i := 31) (v := .int .i64 dy) (by simp only [List.getElem?_toArray, List.getElem?_cons_succ, List.getElem?_cons_zero]; rfl) (by as_aux_lemma => kernel_rfl) (by as_aux_lemma => kernel_rfl) (by as_aux_lemma => kernel_rfl) (fun _ _ _ h => h) (Or.inl ⟨by kernel_rfl, ?_⟩) hS ?_
        · intro U hU
          obtain ⟨s0, s1, s2, s3⟩ := hU
          obtain ⟨hz, hz'⟩ := F4.out
          refine exec_small (opv [(165, .int .i64 (f i).y0), (166, .int .i64 SY)]) (by kernel_rfl) ?_
          go_simp
        refine wpAnyL_take (i := 32) (v := .slice (some ⟨bb, ob, none⟩) NB cb) rfl (by as_aux_lemma => kernel_rfl) (by as_aux_lemma => kernel_rfl) (by as_aux_lemma => kernel_rfl) (fun _ _ _ h => h) (Or.inl ⟨by kernel_rfl, ?_⟩) hS ?_
        · intro U hU
          obtain ⟨s0, s1, s2, s3⟩ := hU
          kernel_rfl
        refine wpAnyL_take (i := 33) (v := .int .i64 (i : Int)) rfl (by as_aux_lemma => kernel_rfl) (by as_aux_lemma => kernel_rfl) (by as_aux_lemma => kernel_rfl) (fun _ _ _ h => h) (Or.inl ⟨by kernel_rfl, ?_⟩) hS ?_
        · intro U hU
          obtain ⟨s0, s1, s2, s3⟩ := hU
          kernel_rfl
        refine wpAnyL_take (i := 34) (v := .pointer (some ⟨bb, ob + i * 4, none⟩)) (by simp only [List.getElem?_toArray, List.getElem?_cons_succ, List.getElem?_cons_zero]; rfl) (by as_aux_lemma => kernel_rfl) (by as_aux_lemma => kernel_rfl) (by as_aux_lemma => kernel_rfl) (fun _ _ _ h => h) (Or.inl ⟨by kernel_rfl, ?_⟩) hS ?_
        · intro U hU
          obtain ⟨s0, s1, s2, s3⟩ := hU
          refine exec_small (opv [(168, .slice (some ⟨bb, ob, none⟩) NB cb), (169, .int .i64 (i : Int))]) (by kernel_rfl) ?_
          go_simp
        refine wpAnyL_take (i := 35) (v := .pointer (some ⟨bb, ob + i * 4 + 3, none⟩)) rfl (by as_aux_lemma => kernel_rfl) (by as_aux_lemma => kernel_rfl) (by as_aux_lemma => kernel_rfl) (fun _ _ _ h => h) (Or.inl ⟨by kernel_rfl, ?_⟩) hS ?_
        · intro U hU
          obtain ⟨s0, s1, s2, s3⟩ := hU
          kernel_rfl
        refine wpAnyL_take (i := 36) (v := .int .i64 (f i).y1) rfl (by as_aux_lemma => kernel_rfl) (by as_aux_lemma => kernel_rfl) (by as_aux_lemma => kernel_rfl) (fun _ _ _ h => h) (Or.inl ⟨by kernel_rfl, ?_⟩) hS ?_
        · intro U hU
          obtain ⟨s0, s1, s2, s3⟩ := hU
          exact exec_loadCell rfl (by kernel_rfl) s3 (by kernel_rfl)
        refine wpAnyL_take (i := 37) (v := .int .i64 r3m) (by simp only [List.getElem?_toArray, List.getElem?_cons_succ, List.getElem?_cons_zero]; rfl) (by as_aux_lemma => kernel_rfl) (by as_aux_lemma => kernel_rfl) (by as_aux_lemma => kernel_rfl) (fun _ _ _ h => h) (Or.inl ⟨by kernel_rfl, ?_⟩) hS ?_
        · intro U hU
          obtain ⟨s0, s1, s2, s3⟩ := hU
          have hz := F2.out
          refine exec_small (opv [(172, .int .i64 (f i).y1)]) (by kernel_rfl) ?_
          go_simp
        refine wpAnyL_take (i := 38) (v := .int .i64 SY) rfl (by as_aux_lemma => kernel_rfl) (by as_aux_lemma => kernel_rfl) (by as_aux_lemma => kernel_rfl) (fun _ _ _ h => h) (Or.inl ⟨by kernel_rfl, ?_⟩) hS ?_
        · intro U hU
          obtain ⟨s0, s1, s2, s3⟩ := hU
          kernel_rfl
        refine wpAnyL_take (i := 39) (v := .int .i64 dy) (by simp only [List.getElem?_toArray, List.getElem?_cons_succ, List.getElem?_cons_zero]; rfl) (by as_aux_lemma => kernel_rfl) (by as_aux_lemma => kernel_rfl) (by as_aux_lemma => kernel_rfl) (fun _ _ _ h => h) (Or.inl ⟨by kernel_rfl, ?_⟩) hS ?_
        · intro U hU
          obtain ⟨s0, s1, s2, s3⟩ := hU
          have hz := F6.out
          have hz' := F4.out.2
          refine exec_small (opv [(173, .int .i64 r3m), (174, .int .i64 SY)]) (by kernel_rfl) ?_
          go_simp
        refine wpAnyL_take (i := 40) (v := .bool false) (by simp only [List.getElem?_toArray, List.getElem?_cons_succ, List.getElem?_cons_zero]; rfl) (by as_aux_lemma => kernel_rfl) (by as_aux_lemma => kernel_rfl) (by as_aux_lemma => kernel_rfl) (fun _ _ _ h => h) (Or.inl ⟨by kernel_rfl, ?_⟩) hS ?_
        · intro U hU
          obtain ⟨s0, s1, s2, s3⟩ := hU
          refine exec_small (opv [(167, .int .i64 dy), (175, .int .i64 dy)]) (by kernel_rfl) ?_
          go_simp
        refine wpAnyL_take (i := 41) (v := .bool false) rfl (by as_aux_lemma => kernel_rfl) (by as_aux_lemma => kernel_rfl) (by as_aux_lemma => kernel_rfl) (fun _ _ _ h => h) (Or.inl ⟨by kernel_rfl, ?_⟩) hS ?_
        · intro U hU
          obtain ⟨s0, s1, s2, s3⟩ := hU
          kernel_rfl
        refine wpAnyL_done (by as_aux_lemma => kernel_rfl) (onlyN_mk ?_) _
        refine ⟨?_, b4⟩
        kernel_rfl
      rintro a' wk ⟨rfl, hk⟩
      simp only [Act.put, List.setIfInBounds_toArray, List.set_cons_zero, List.set_cons_succ]
      have hbk := hbi.trans (hk.mono hle2)
      clear F1 F2 F3 F4 F5 F6 HAr z0 z1' z2' z3'
      have hlt3 : bb < wk.heap.size := Nat.lt_of_lt_of_le hbb1 hbk.size
      have cellK : ∀ (k : Nat), k < NB → ∀ (j : Nat) (u : Value), (rcL (f k))[j]? = some u → wk.cell? ⟨bb, ob + k * 4 + j, none⟩ = some u := fun k hk j u hu => (hbk.cell (p := ⟨bb, ob + k * 4 + j, none⟩) hbb1).trans (HCB.out.cells hk hu)
      have z0 : wk.cell? ⟨bb, ob + i * 4, none⟩ = some (.int .i64 (f i).x0) := by have := cellK i hil 0 _ rfl; simpa using this
      have z1' : wk.cell? ⟨bb, ob + i * 4 + 1, none⟩ = some (.int .i64 (f i).y0) := cellK i hil 1 _ rfl
      go_upto_region 24 with fail
      have htm : ((i : Int)).tmod (WB : Int) = ((i % WB : Nat) : Int) := by rw [Int.tmod_eq_emod_of_nonneg (by omega)]; rfl
      obtain ⟨im, him⟩ : ∃ z, i % WB = z := ⟨_, rfl⟩
      have imb : im ≤ 1048576 := by have := Nat.mod_le i WB; omega
      have HG9' := HG9.out
      rw [him] at htm HG9'
      have wim : IntKind.i64.wrap (im : Int) = (im : Int) := wr (by omega)
      have T0 := Lib.hid htm
      clear htm HG9 HC
      have hi0 : i ≤ 1048576 := by omega
      have HIM := Lib.hid him
      clear him z0 z1'
      have hi1 : i < NB := by omega
      have z0 : wk.cell? ⟨bb, ob + i * 4, none⟩ = some (.int .i64 (f i).x0) := by have := cellK i hi1 0 _ rfl; simpa using this
      have z1' : wk.cell? ⟨bb, ob + i * 4 + 1, none⟩ = some (.int .i64 (f i).y0) := cellK i hi1 1 _ rfl
      by_cases k1 : 0 < i
      · by_cases k2 : 0 < im
        · by_cases k3 : WB ≤ i
          · have hi0' := k1
            obtain ⟨iw, hiw⟩ : ∃ z, i - WB = z := ⟨_, rfl⟩
            have hiwb : iw < NB := by omega
            have q3 : wk.cell? ⟨bb, ob + iw * 4 + 3, none⟩ = some (.int .i64 (f i).y0) := by have := cellK iw (by omega) 3 _ rfl; rw [HG10.out (by omega), hiw]; exact this
            have HIW := Lib.hid (show IntKind.i64.wrap ((i : Int) - WB) = (iw : Int) by rw [show (i : Int) - WB = (iw : Int) by omega]; exact wr (by omega))
            obtain ⟨i1, hi1'⟩ : ∃ z, i - 1 = z := ⟨_, rfl⟩
            have hi1b : i1 < NB := by omega
            obtain ⟨pa, pb⟩ := HG9' (by omega)
            rw [hi1'] at pa pb
            have p2 : wk.cell? ⟨bb, ob + i1 * 4 + 2, none⟩ = some (.int .i64 (f i).x0) := by have := cellK i1 (by omega) 2 _ rfl; rw [pa]; exact this
            have p1 : wk.cell? ⟨bb, ob + i1 * 4 + 1, none⟩ = some (.int .i64 (f i).y0) := by have := cellK i1 (by omega) 1 _ rfl; rw [pb]; exact this
            have HI1 := Lib.hid (show IntKind.i64.wrap ((i : Int) - 1) = (i1 : Int) by rw [show (i : Int) - 1 = (i1 : Int) by omega]; exact wr (by omega))
            clear pa pb hi1' hiw
            refine last_cut (by kernel_rfl) (fun U => U.cell? ⟨bb, ob + i * 4, none⟩ = some (.int .i64 (f i).x0) ∧ U.cell? ⟨bb, ob + i * 4 + 1, none⟩ = some (.int .i64 (f i).y0) ∧ U.cell? ⟨bb, ob + i1 * 4 + 2, none⟩ = some (.int .i64 (f i).x0) ∧ U.cell? ⟨bb, ob + i1 * 4 + 1, none⟩ = some (.int .i64 (f i).y0) ∧ U.cell? ⟨bb, ob + iw * 4 + 3, none⟩ = some (.int .i64 (f i).y0)) (fun aF a' W' => a' = ((((((((((((((((((((((((((((((((((((((((((((((((((((((((aF.put (some 178) (.int .i64 (i : Int))).put (some 179) (.bool true)).put (some 180) (.bool true)).put (some 181) (.int .i64 (i : Int))).put (some 182) (.int .i64 (WB : Int))).put (some 183) (.int .i64 (im : Int))).put (some 184) (.bool true)).put (some 185) (.bool true)).put (some 186) (.bool true)).put (some 187) (.slice (some ⟨bb, ob, none⟩) NB cb)).put (some 188) (.int .i64 (i : Int))).put (some 189) (.pointer (some ⟨bb, ob + i * 4, none⟩))).put (some 190) (.pointer (some ⟨bb, ob + i * 4, none⟩))).put (some 191) (.int .i64 (f i).x0)).put (some 192) (.slice (some ⟨bb, ob, none⟩) NB cb)).put (some 193) (.int .i64 (i : Int))).put (some 194) (.int .i64 (i1 : Int))).put (some 195) (.pointer (some ⟨bb, ob + i1 * 4, none⟩))).put (some 196) (.pointer (some ⟨bb, ob + i1 * 4 + 2, none⟩))).put (some 197) (.int .i64 (f i).x0)).put (some 198) (.bool false)).put (some 199) (.bool false)).put (some 200) (.slice (some ⟨bb, ob, none⟩) NB cb)).put (some 201) (.int .i64 (i : Int))).put (some 202) (.pointer (some ⟨bb, ob + i * 4, none⟩))).put (some 203) (.pointer (some ⟨bb, ob + i * 4 + 1, none⟩))).put (some 204) (.int .i64 (f i).y0)).put (some 205) (.slice (some ⟨bb, ob, none⟩) NB cb)).put (some 206) (.int .i64 (i : Int))).put (some 207) (.int .i64 (i1 : Int))).put (some 208) (.pointer (some ⟨bb, ob + i1 * 4, none⟩))).put (some 209) (.pointer (some ⟨bb, ob + i1 * 4 + 1, none⟩))).put (some 210) (.int .i64 (f i).y0)).put (some 211) (.bool false)).put (some 212) (.bool false)).put (some 213) (.bool false)).put (some 214) (.bool false)).put (some 215) (.int .i64 (i : Int))).put (some 216) (.int .i64 (WB : Int))).put (some 217) (.bool true)).put (some 218) (.bool true)).put (some 219) (.slice (some ⟨bb, ob, none⟩) NB cb)).put (some 220) (.int .i64 (i : Int))).put (some 221) (.pointer (some ⟨bb, ob + i * 4, none⟩))).put (some 222) (.pointer (some ⟨bb, ob + i * 4 + 1, none⟩))).put (some 223) (.int .i64 (f i).y0)).put (some 224) (.slice (some ⟨bb, ob, none⟩) NB cb)).put (some 225) (.int .i64 (i : Int))).put (some 226) (.int .i64 (WB : Int))).put (some 227) (.int .i64 (iw : Int))).put (some 228) (.pointer (some ⟨bb, ob + iw * 4, none⟩))).put (some 229) (.pointer (some ⟨bb, ob + iw * 4 + 3, none⟩))).put (some 230) (.int .i64 (f i).y0)).put (some 231) (.bool false)).put (some 232) (.bool false)).put (some 233) (.bool false)) ∧ Below wk.heap.size wk W') ⟨z0, z1', p2, p1, q3⟩ (fun hS => ?_) ?_
            · skip
              have hSB : ∀ U : World, Below (wk.heap.size) wk U → U.cell? ⟨bb, ob + i * 4, none⟩ = some (.int .i64 (f i).x0) ∧ U.cell? ⟨bb, ob + i * 4 + 1, none⟩ = some (.int .i64 (f i).y0) ∧ U.cell? ⟨bb, ob + i1 * 4 + 2, none⟩ = some (.int .i64 (f i).x0) ∧ U.cell? ⟨bb, ob + i1 * 4 + 1, none⟩ = some (.int .i64 (f i).y0) ∧ U.cell? ⟨bb, ob + iw * 4 + 3, none⟩ = some (.int .i64 (f i).y0) := fun U h => ⟨(h.cell (p := ⟨bb, ob + i * 4, none⟩) (by simp only; omega)).trans (z0), (h.cell (p := ⟨bb, ob + i * 4 + 1, none⟩) (by simp only; omega)).trans (z1'), (h.cell (p := ⟨bb, ob + i1 * 4 + 2, none⟩) (by simp only; omega)).trans (p2), (h.cell (p := ⟨bb, ob + i1 * 4 + 1, none⟩) (by simp only; omega)).trans (p1), (h.cell (p := ⟨bb, ob + iw * 4 + 3, none⟩) (by simp only; omega)).trans (q3)⟩
              have bV : Below wk.heap.size wk wk.drew := (Below.refl _ _).drew
              generalize wk.drew = V0 at *
              change wpAnyL _ _ _ _ _ 56 #[false, false, false, false, false, false, false, false, false, false, false, false, false, false, false, false, false, false, false, false, false, false, false, false, false, false, false, false, false, false, false, false, false, false, false, false, false, false, false, false, false, false, false, false, false, false, false, false, false, false, false, false, false, false, false, false] _ _
              refine wpAnyL_take (i := 0) (v := .int .i64 (i : Int)) rfl (by as_aux_lemma => kernel_rfl) (by as_aux_lemma => kernel_rfl) (by as_aux_lemma => kernel_rfl) (fun _ _ _ h => h) (Or.inl ⟨by kernel_rfl, ?_⟩) hS ?_
              · intro U hU
                obtain ⟨s0, s1, s2, s3, s4⟩ := hU
                kernel_rfl
              refine wpAnyL_take (i := 1) (v := .bool true) (by simp only [List.getElem?_toArray, List.getElem?_cons_succ, List.getElem?_cons_zero]; rfl) (by as_aux_lemma => kernel_rfl) (by as_aux_lemma => kernel_rfl) (by as_aux_lemma => kernel_rfl) (fun _ _ _ h => h) (Or.inl ⟨by kernel_rfl, ?_⟩) hS ?_
              · intro U hU
                obtain ⟨s0, s1, s2, s3, s4⟩ := hU
                refine exec_small (opv [(178, .int .i64 (i : Int))]) (by kernel_rfl) ?_
                go_simp
              refine wpAnyL_take (i := 2) (v := .bool true) rfl (by as_aux_lemma => kernel_rfl) (by as_aux_lemma => kernel_rfl) (by as_aux_lemma => kernel_rfl) (fun _ _ _ h => h) (Or.inl ⟨by kernel_rfl, ?_⟩) hS ?_
              · intro U hU
                obtain ⟨s0, s1, s2, s3, s4⟩ := hU
                kernel_rfl
              refine wpAnyL_take (i := 3) (v := .int .i64 (i : Int)) rfl (by as_aux_lemma => kernel_rfl) (by as_aux_lemma => kernel_rfl) (by as_aux_lemma => kernel_rfl) (fun _ _ _ h => h) (Or.inl ⟨by kernel_rfl, ?_⟩) hS ?_
              · intro U hU
                obtain ⟨s0, s1, s2, s3, s4⟩ := hU
                kernel_rfl
              refine wpAnyL_take (i := 4) (v := .int .i64 (WB : Int)) rfl (by as_aux_lemma => kernel_rfl) (by as_aux_lemma => kernel_rfl) (by as_aux_lemma => kernel_rfl) (fun _ _ _ h => h) (Or.inl ⟨by kernel_rfl, ?_⟩) hS ?_
              · intro U hU
                obtain ⟨s0, s1, s2, s3, s4⟩ := hU
                kernel_rfl
              refine wpAnyL_take (i := 5) (v := .int .i64 (im : Int)) (by simp only [List.getElem?_toArray, List.getElem?_cons_succ, List.getElem?_cons_zero]; rfl) (by as_aux_lemma => kernel_rfl) (by as_aux_lemma => kernel_rfl) (by as_aux_lemma => kernel_rfl) (fun _ _ _ h => h) (Or.inl ⟨by kernel_rfl, ?_⟩) hS ?_
              · intro U hU
                obtain ⟨s0, s1, s2, s3, s4⟩ := hU
                have hz := T0.out
                refine exec_small (opv [(181, .int .i64 (i : Int)), (182, .int .i64 (WB : Int))]) (by kernel_rfl) ?_
                go_simp
              refine wpAnyL_take (i := 6) (v := .bool true) (by simp only [List.getElem?_toArray, List.getElem?_cons_succ, List.getElem?_cons_zero]; rfl) (by as_aux_lemma => kernel_rfl) (by as_aux_lemma => kernel_rfl) (by as_aux_lemma => kernel_rfl) (fun _ _ _ h => h) (Or.inl ⟨by kernel_rfl, ?_⟩) hS ?_
              · intro U hU
                obtain ⟨s0, s1, s2, s3, s4⟩ := hU
                refine exec_small (opv [(183, .int .i64 (im : Int))]) (by kernel_rfl) ?_
                go_simp
              refine wpAnyL_take (i := 7) (v := .bool true) rfl (by as_aux_lemma => kernel_rfl) (by as_aux_lemma => kernel_rfl) (by as_aux_lemma => kernel_rfl) (fun _ _ _ h => h) (Or.inl ⟨by kernel_rfl, ?_⟩) hS ?_
              · intro U hU
                obtain ⟨s0, s1, s2, s3, s4⟩ := hU
                kernel_rfl
              refine wpAnyL_take (i := 8) (v := .bool true) rfl (by as_aux_lemma => kernel_rfl) (by as_aux_lemma => kernel_rfl) (by as_aux_lemma => kernel_rfl) (fun _ _ _ h => h) (Or.inl ⟨by kernel_rfl, ?_⟩) hS ?_
              · intro U hU
                obtain ⟨s0, s1, s2, s3, s4⟩ := hU
                kernel_rfl
              refine wpAnyL_take (i := 9) (v := .slice (some ⟨bb, ob, none⟩) NB cb) rfl (by as_aux_lemma => kernel_rfl) (by as_aux_lemma => kernel_rfl) (by as_aux_lemma => kernel_rfl) (fun _ _ _ h => h) (Or.inl ⟨by kernel_rfl, ?_⟩) hS ?_
              · intro U hU
                obtain ⟨s0, s1, s2, s3, s4⟩ := hU
                kernel_rfl
              refine wpAnyL_take (i := 10) (v := .int .i64 (i : Int)) rfl (by as_aux_lemma => kernel_rfl) (by as_aux_lemma => kernel_rfl) (by as_aux_lemma => kernel_rfl) (fun _ _ _ h => h) (Or.inl ⟨by kernel_rfl, ?_⟩) hS ?_
              · intro U hU
                obtain ⟨s0, s1, s2, s3, s4⟩ := hU
                kernel_rfl
              refine wpAnyL_take (i := 11) (v := .pointer (some ⟨bb, ob + i * 4, none⟩)) (by simp only [List.getElem?_toArray, List.getElem?_cons_succ, List.getElem?_cons_zero]; rfl) (by as_aux_lemma => kernel_rfl) (by as_aux_lemma => kernel_rfl) (by as_aux_lemma => kernel_rfl) (fun _ _ _ h => h) (Or.inl ⟨by kernel_rfl, ?_⟩) hS ?_
              · intro U hU
                obtain ⟨s0, s1, s2, s3, s4⟩ := hU
                refine exec_small (opv [(187, .slice (some ⟨bb, ob, none⟩) NB cb), (188, .int .i64 (i : Int))]) (by kernel_rfl) ?_
                go_simp
              refine wpAnyL_take (i := 12) (v := .pointer (some ⟨bb, ob + i * 4, none⟩)) rfl (by as_aux_lemma => kernel_rfl) (by as_aux_lemma => kernel_rfl) (by as_aux_lemma => kernel_rfl) (fun _ _ _ h => h) (Or.inl ⟨by kernel_rfl, ?_⟩) hS ?_
              · intro U hU
                obtain ⟨s0, s1, s2, s3, s4⟩ := hU
                kernel_rfl
              refine wpAnyL_take (i := 13) (v := .int .i64 (f i).x0) rfl (by as_aux_lemma => kernel_rfl) (by as_aux_lemma => kernel_rfl) (by as_aux_lemma => kernel_rfl) (fun _ _ _ h => h) (Or.inl ⟨by kernel_rfl, ?_⟩) hS ?_
              · intro U hU
                obtain ⟨s0, s1, s2, s3, s4⟩ := hU
                exact exec_loadCell rfl (by kernel_rfl) s0 (by kernel_rfl)
              refine wpAnyL_take (i := 14) (v := .slice (some ⟨bb, ob, none⟩) NB cb) rfl (by as_aux_lemma => kernel_rfl) (by as_aux_lemma => kernel_rfl) (by as_aux_lemma => kernel_rfl) (fun _ _ _ h => h) (Or.inl ⟨by kernel_rfl, ?_⟩) hS ?_
              · intro U hU
                obtain ⟨s0, s1, s2, s3, s4⟩ := hU
                kernel_rfl
              refine wpAnyL_take (i := 15) (v := .int .i64 (i : Int)) rfl (by as_aux_lemma => kernel_rfl) (by as_aux_lemma => kernel_rfl) (by as_aux_lemma => kernel_rfl) (fun _ _ _ h => h) (Or.inl ⟨by kernel_rfl, ?_⟩) hS ?_
              · intro U hU
                obtain ⟨s0, s1, s2, s3, s4⟩ := hU
                kernel_rfl
              refine wpAnyL_take (i := 16) (v := .int .i64 (i1 : Int)) (by simp only [List.getElem?_toArray, List.getElem?_cons_succ, List.getElem?_cons_zero]; rfl) (by as_aux_lemma => kernel_rfl) (by as_aux_lemma => kernel_rfl) (by as_aux_lemma => kernel_rfl) (fun _ _ _ h => h) (Or.inl ⟨by kernel_rfl, ?_⟩) hS ?_
              · intro U hU
                obtain ⟨s0, s1, s2, s3, s4⟩ := hU
                have hz := HI1.out
                refine exec_small (opv [(193, .int .i64 (i : Int))]) (by kernel_rfl) ?_
                go_simp
              refine wpAnyL_take (i := 17) (v := .pointer (some ⟨bb, ob + i1 * 4, none⟩)) (by simp only [List.getElem?_toArray, List.getElem?_cons_succ, List.getElem?_cons_zero]; rfl) (by as_aux_lemma => kernel_rfl) (by as_aux_lemma => kernel_rfl) (by as_aux_lemma => kernel_rfl) (fun _ _ _ h => h) (Or.inl ⟨by kernel_rfl, ?_⟩) hS ?_
              · intro U hU
                obtain ⟨s0, s1, s2, s3, s4⟩ := hU
                refine exec_small (opv [(192, .slice (some ⟨bb, ob, none⟩) NB cb), (194, .int .i64 (i1 : Int))]) (by kernel_rfl) ?_
                go_simp
              refine wpAnyL_take (i := 18) (v := .pointer (some ⟨bb, ob + i1 * 4 + 2, none⟩)) rfl (by as_aux_lemma => kernel_rfl) (by as_aux_lemma => kernel_rfl) (by as_aux_lemma => kernel_rfl) (fun _ _ _ h => h) (Or.inl ⟨by kernel_rfl, ?_⟩) hS ?_
              · intro U hU
                obtain ⟨s0, s1, s2, s3, s4⟩ := hU
                kernel_rfl
              refine wpAnyL_take (i := 19) (v := .int .i64 (f i).x0) rfl (by as_aux_lemma => kernel_rfl) (by as_aux_lemma => kernel_rfl) (by as_aux_lemma => kernel_rfl) (fun _ _ _ h => h) (Or.inl ⟨by kernel_rfl, ?_⟩) hS ?_
              · intro U hU
                obtain ⟨s0, s1, s2, s3, s4⟩ := hU
                exact exec_loadCell rfl (by kernel_rfl) s2 (by kernel_rfl)
              refine wpAnyL_take (i := 20) (v := .bool false) (by simp only [List.getElem?_toArray, List.getElem?_cons_succ, List.getElem?_cons_zero]; rfl) (by as_aux_lemma => kernel_rfl) (by as_aux_lemma => kernel_rfl) (by as_aux_lemma => kernel_rfl) (fun _ _ _ h => h) (Or.inl ⟨by kernel_rfl, ?_⟩) hS ?_
              · intro U hU
                obtain ⟨s0, s1, s2, s3, s4⟩ := hU
                refine exec_small (opv [(191, .int .i64 (f i).x0), (197, .int .i64 (f i).x0)]) (by kernel_rfl) ?_
                go_simp
              refine wpAnyL_take (i := 21) (v := .bool false) rfl (by as_aux_lemma => kernel_rfl) (by as_aux_lemma => kernel_rfl) (by as_aux_lemma => kernel_rfl) (fun _ _ _ h => h) (Or.inl ⟨by kernel_rfl, ?_⟩) hS ?_
              · intro U hU
                obtain ⟨s0, s1, s2, s3, s4⟩ := hU
                kernel_rfl
              refine wpAnyL_take (i := 22) (v := .slice (some ⟨bb, ob, none⟩) NB cb) rfl (by as_aux_lemma => kernel_rfl) (by as_aux_lemma => kernel_rfl) (by as_aux_lemma => kernel_rfl) (fun _ _ _ h => h) (Or.inl ⟨by kernel_rfl, ?_⟩) hS ?_
              · intro U hU
                obtain ⟨s0, s1, s2, s3, s4⟩ := hU
                kernel_rfl
              refine wpAnyL_take (i := 23) (v := .int .i64 (i : Int)) rfl (by as_aux_lemma => kernel_rfl) (by as_aux_lemma => kernel_rfl) (by as_aux_lemma => kernel_rfl) (fun _ _ _ h => h) (Or.inl ⟨by kernel_rfl, ?_⟩) hS ?_
              · intro U hU
                obtain ⟨s0, s1, s2, s3, s4⟩ := hU
                kernel_rfl
              refine wpAnyL_take (i := 24) (v := .pointer (some ⟨bb, ob + i * 4, none⟩)) (by simp only [List.getElem?_toArray, List.getElem?_cons_succ, List.getElem?_cons_zero]; rfl) (by as_aux_lemma => kernel_rfl) (by as_aux_lemma => kernel_rfl) (by as_aux_lemma => kernel_rfl) (fun _ _ _ h => h) (Or.inl ⟨by kernel_rfl, ?_⟩) hS ?_
              · intro U hU
                obtain ⟨s0, s1, s2, s3, s4⟩ := hU
                refine exec_small (opv [(200, .slice (some ⟨bb, ob, none⟩) NB cb), (201, .int .i64 (i : Int))]) (by kernel_rfl) ?_
                go_simp
              refine wpAnyL_take (i := 25) (v := .pointer (some ⟨bb, ob + i * 4 + 1, none⟩)) rfl (by as_aux_lemma => kernel_rfl) (by as_aux_lemma => kernel_rfl) (by as_aux_lemma => kernel_rfl) (fun _ _ _ h => h) (Or.inl ⟨by kernel_rfl, ?_⟩) hS ?_
              · intro U hU
                obtain ⟨s0, s1, s2, s3, s4⟩ := hU
                kernel_rfl
              refine wpAnyL_take (i := 26) (v := .int .i64 (f i).y0) rfl (by as_aux_lemma => kernel_rfl) (by as_aux_lemma => kernel_rfl) (by as_aux_lemma => kernel_rfl) (fun _ _ _ h => h) (Or.inl ⟨by kernel_rfl, ?_⟩) hS ?_
              · intro U hU
                obtain ⟨s0, s1, s2, s3, s4⟩ := hU
                exact exec_loadCell rfl (by kernel_rfl) s1 (by kernel_rfl)
              refine wpAnyL_take (i := 27) (v := .slice (some ⟨bb, ob, none⟩) NB cb) rfl (by as_aux_lemma => kernel_rfl) (by as_aux_lemma => kernel_rfl) (by as_aux_lemma => kernel_rfl) (fun _ _ _ h => h) (Or.inl ⟨by kernel_rfl, ?_⟩) hS ?_
              · intro U hU
                obtain ⟨s0, s1, s2, s3, s4⟩ := hU
                kernel_rfl
              refine wpAnyL_take (i := 28) (v := .int .i64 (i : Int)) rfl (by as_aux_lemma => kernel_rfl) (by as_aux_lemma => kernel_rfl) (by as_aux_lemma => kernel_rfl) (fun _ _ _ h => h) (Or.inl ⟨by kernel_rfl, ?_⟩) hS ?_
              · intro U hU
                obtain ⟨s0, s1, s2, s3, s4⟩ := hU
                kernel_rfl
              refine wpAnyL_take (i := 29) (v := .int .i64 (i1 : Int)) (by simp only [List.getElem?_toArray, List.getElem?_cons_succ, List.getElem?_cons_zero]; rfl) (by as_aux_lemma => kernel_rfl) (by as_aux_lemma => kernel_rfl) (by as_aux_lemma => kernel_rfl) (fun _ _ _ h => h) (Or.inl ⟨by kernel_rfl, ?_⟩) hS ?_
              · intro U hU
                obtain ⟨s0, s1, s2, s3, s4⟩ := hU
                have hz := HI1.out
                refine exec_small (opv [(206, .int .i64 (i : Int))]) (by kernel_rfl) ?_
                go_simp
              refine wpAnyL_take (i := 30) (v := .pointer (some ⟨bb, ob + i1 * 4, none⟩)) (by simp only [List.getElem?_toArray, List.getElem?_cons_succ, List.getElem?_cons_zero]; rfl) (by as_aux_lemma => kernel_rfl) (by as_aux_lemma => kernel_rfl) (by as_aux_lemma => kernel_rfl) (fun _ _ _ h => h) (Or.inl ⟨by kernel_rfl, ?_⟩) hS ?_
              · intro U hU
                obtain ⟨s0, s1, s2, s3, s4⟩ := hU
                refine exec_small (opv [(205, .slice (some ⟨bb, ob, none⟩) NB cb), (207, .int .i64 (i1 : Int))]) (by kernel_rfl) ?_
                go_simp
              refine wpAnyL_take (i := 31) (v := .pointer (some ⟨bb, ob + i1 * 4 + 1, none⟩)) rfl (by as_aux_lemma => kernel_rfl) (by as_aux_lemma => kernel_rfl) (by as_aux_lemma => kernel_rfl) (fun _ _ _ h => h) (Or.inl ⟨by kernel_rfl, ?_⟩) hS ?_
              · intro U hU
                obtain ⟨s0, s1, s2, s3, s4⟩ := hU
                kernel_rfl
              refine wpAnyL_take (i := 32) (v := .int .i64 (f i).y0) rfl (by as_aux_lemma => kernel_rfl) (by as_aux_lemma => kernel_rfl) (by as_aux_lemma => kernel_rfl) (fun _ _ _ h => h) (Or.inl ⟨by kernel_rfl, ?_⟩) hS ?_
              · intro U hU
                obtain ⟨s0, s1, s2, s3, s4⟩ := hU
                exact exec_loadCell rfl (by kernel_rfl) s3 (by kernel_rfl)
              refine wpAnyL_take (i := 33) (v := .bool false) (by simp only [List.getElem?_toArray, List.getElem?_cons_succ, List.getElem?_cons_zero]; rfl) (by as_aux_lemma => kernel_rfl) (by as_aux_lemma => kernel_rfl) (by as_aux_lemma => kernel_rfl) (fun _ _ _ h => h) (Or.inl ⟨by kernel_rfl, ?_⟩) hS ?_
              · intro U hU
                obtain ⟨s0, s1, s2, s3, s4⟩ := hU
                refine exec_small (opv [(204, .int .i64 (f i).y0), (210, .int .i64 (f i).y0)]) (by kernel_rfl) ?_
                go_simp
              refine wpAnyL_take (i := 34) (v := .bool false) rfl (by as_aux_lemma => kernel_rfl) (by as_aux_lemma => kernel_rfl) (by as_aux_lemma => kernel_rfl) (fun _ _ _ h => h) (Or.inl ⟨by kernel_rfl, ?_⟩) hS ?_
              · intro U hU
                obtain ⟨s0, s1, s2, s3, s4⟩ := hU
                kernel_rfl
              refine wpAnyL_take (i := 35) (v := .bool false) rfl (by as_aux_lemma => kernel_rfl) (by as_aux_lemma => kernel_rfl) (by as_aux_lemma => kernel_rfl) (fun _ _ _ h => h) (Or.inl ⟨by kernel_rfl, ?_⟩) hS ?_
              · intro U hU
                obtain ⟨s0, s1, s2, s3, s4⟩ := hU
                kernel_rfl
              refine wpAnyL_take (i := 36) (v := .bool false) rfl (by as_aux_lemma => kernel_rfl) (by as_aux_lemma => kernel_rfl) (by as_aux_lemma => kernel_rfl) (fun _ _ _ h => h) (Or.inl ⟨by kernel_rfl, ?_⟩) hS ?_
              · intro U hU
                obtain ⟨s0, s1, s2, s3, s4⟩ := hU
                kernel_rfl
              refine wpAnyL_take (i := 37) (v := .int .i64 (i : Int)) rfl (by as_aux_lemma => kernel_rfl) (by as_aux_lemma => kernel_rfl) (by as_aux_lemma => kernel_rfl) (fun _ _ _ h => h) (Or.inl ⟨by kernel_rfl, ?_⟩) hS ?_
              · intro U hU
                obtain ⟨s0, s1, s2, s3, s4⟩ := hU
                kernel_rfl
              refine wpAnyL_take (i := 38) (v := .int .i64 (WB : Int)) rfl (by as_aux_lemma => kernel_rfl) (by as_aux_lemma => kernel_rfl) (by as_aux_lemma => kernel_rfl) (fun _ _ _ h => h) (Or.inl ⟨by kernel_rfl, ?_⟩) hS ?_
              · intro U hU
                obtain ⟨s0, s1, s2, s3, s4⟩ := hU
                kernel_rfl
              refine wpAnyL_take (i := 39) (v := .bool true) (by simp only [List.getElem?_toArray, List.getElem?_cons_succ, List.getElem?_cons_zero]; rfl) (by as_aux_lemma => kernel_rfl) (by as_aux_lemma => kernel_rfl) (by as_aux_lemma => kernel_rfl) (fun _ _ _ h => h) (Or.inl ⟨by kernel_rfl, ?_⟩) hS ?_
              · intro U hU
                obtain ⟨s0, s1, s2, s3, s4⟩ := hU
                refine exec_small (opv [(215, .int .i64 (i : Int)), (216, .int .i64 (WB : Int))]) (by kernel_rfl) ?_
                go_simp
              refine wpAnyL_take (i := 40) (v := .bool true) rfl (by as_aux_lemma => kernel_rfl) (by as_aux_lemma => kernel_rfl) (by as_aux_lemma => kernel_rfl) (fun _ _ _ h => h) (Or.inl ⟨by kernel_rfl, ?_⟩) hS ?_
              · intro U hU
                obtain ⟨s0, s1, s2, s3, s4⟩ := hU
                kernel_rfl
              refine wpAnyL_take (i := 41) (v := .slice (some ⟨bb, ob, none⟩) NB cb) rfl (by as_aux_lemma => kernel_rfl) (by as_aux_lemma => kernel_rfl) (by as_aux_lemma => kernel_rfl) (fun _ _ _ h => h) (Or.inl ⟨by kernel_rfl, ?_⟩) hS ?_
              · intro U hU
                obtain ⟨s0, s1, s2, s3, s4⟩ := hU
                kernel_rfl
              refine wpAnyL_take (i := 42) (v := .int .i64 (i : Int)) rfl (by as_aux_lemma => kernel_rfl) (by as_aux_lemma => kernel_rfl) (by as_aux_lemma => kernel_rfl) (fun _ _ _ h => h) (Or.inl ⟨by kernel_rfl, ?_⟩) hS ?_
              · intro U hU
                obtain ⟨s0, s1, s2, s3, s4⟩ := hU
                kernel_rfl
              refine wpAnyL_take (i := 43) (v := .pointer (some ⟨bb, ob + i * 4, none⟩)) (by simp only [List.getElem?_toArray, List.getElem?_cons_succ, List.getElem?_cons_zero]; rfl) (by as_aux_lemma => kernel_rfl) (by as_aux_lemma => kernel_rfl) (by as_aux_lemma => kernel_rfl) (fun _ _ _ h => h) (Or.inl ⟨by kernel_rfl, ?_⟩) hS ?_
              · intro U hU
                obtain ⟨s0, s1, s2, s3, s4⟩ := hU
                refine exec_small (opv [(219, .slice (some ⟨bb, ob, none⟩) NB cb), (220, .int .i64 (i : Int))]) (by kernel_rfl) ?_
                go_simp
              refine wpAnyL_take (i := 44) (v := .pointer (some ⟨bb, ob + i * 4 + 1, none⟩)) rfl (by as_aux_lemma => kernel_rfl) (by as_aux_lemma => kernel_rfl) (by as_aux_lemma => kernel_rfl) (fun _ _ _ h => h) (Or.inl ⟨by kernel_rfl, ?_⟩) hS ?_
              · intro U hU
                obtain ⟨s0, s1, s2, s3, s4⟩ := hU
                kernel_rfl
              refine wpAnyL_take (i := 45) (v := .int .i64 (f i).y0) rfl (by as_aux_lemma => kernel_rfl) (by as_aux_lemma => kernel_rfl) (by as_aux_lemma => kernel_rfl) (fun _ _ _ h => h) (Or.inl ⟨by kernel_rfl, ?_⟩) hS ?_
              · intro U hU
                obtain ⟨s0, s1, s2, s3, s4⟩ := hU
                exact exec_loadCell rfl (by kernel_rfl) s1 (by kernel_rfl)
              refine wpAnyL_take (i := 46) (v := .slice (some ⟨bb, ob, none⟩) NB cb) rfl (by as_aux_lemma => kernel_rfl) (by as_aux_lemma => kernel_rfl) (by as_aux_lemma => kernel_rfl) (fun _ _ _ h => h) (Or.inl ⟨by kernel_rfl, ?_⟩) hS ?_
              · intro U hU
                obtain ⟨s0, s1, s2, s3, s4⟩ := hU
                kernel_rfl
              refine wpAnyL_take (i := 47) (v := .int .i64 (i : Int)) rfl (by as_aux_lemma => kernel_rfl) (by as_aux_lemma => kernel_rfl) (by as_aux_lemma => kernel_rfl) (fun _ _ _ h => h) (Or.inl ⟨by kernel_rfl, ?_⟩) hS ?_
              · intro U hU
                obtain ⟨s0, s1, s2, s3, s4⟩ := hU
                kernel_rfl
              refine wpAnyL_take (i := 48) (v := .int .i64 (WB : Int)) rfl (by as_aux_lemma => kernel_rfl) (by as_aux_lemma => kernel_rfl) (by as_aux_lemma => kernel_rfl) (fun _ _ _ h => h) (Or.inl ⟨by kernel_rfl, ?_⟩) hS ?_
              · intro U hU
                obtain ⟨s0, s1, s2, s3, s4⟩ := hU
                kernel_rfl
              refine wpAnyL_take (i := 49) (v := .int .i64 (iw : Int)) (by simp only [List.getElem?_toArray, List.getElem?_cons_succ, List.getElem?_cons_zero]; rfl) (by as_aux_lemma => kernel_rfl) (by as_aux_lemma => kernel_rfl) (by as_aux_lemma => kernel_rfl) (fun _ _ _ h => h) (Or.inl ⟨by kernel_rfl, ?_⟩) hS ?_
              · intro U hU
                obtain ⟨s0, s1, s2, s3, s4⟩ := hU
                have hz := HIW.out
                refine exec_small (opv [(225, .int .i64 (i : Int)), (226, .int .i64 (WB : Int))]) (by kernel_rfl) ?_
                go_simp
              refine wpAnyL_take (i := 50) (v := .pointer (some ⟨bb, ob + iw * 4, none⟩)) (by simp only [List.getElem?_toArray, List.getElem?_cons_succ, List.getElem?_cons_zero]; rfl) (by as_aux_lemma => kernel_rfl) (by as_aux_lemma => kernel_rfl) (by as_aux_lemma => kernel_rfl) (fun _ _ _ h => h) (Or.inl ⟨by kernel_rfl, ?_⟩) hS ?_
              · intro U hU
                obtain ⟨s0, s1, s2, s3, s4⟩ := hU
                refine exec_small (opv [(224, .slice (some ⟨bb, ob, none⟩) NB cb), (227, .int .i64 (iw : Int))]) (by kernel_rfl) ?_
                go_simp
              refine wpAnyL_take (i := 51) (v := .pointer (some ⟨bb, ob + iw * 4 + 3, none⟩)) rfl (by as_aux_lemma => kernel_rfl) (by as_aux_lemma => kernel_rfl) (by as_aux_lemma => kernel_rfl) (fun _ _ _ h => h) (Or.inl ⟨by kernel_rfl, ?_⟩) hS ?_
              · intro U hU
                obtain ⟨s0, s1, s2, s3, s4⟩ := hU
                kernel_rfl
              refine wpAnyL_take (i := 52) (v := .int .i64 (f i).y0) rfl (by as_aux_lemma => kernel_rfl) (by as_aux_lemma => kernel_rfl) (by as_aux_lemma => kernel_rfl) (fun _ _ _ h => h) (Or.inl ⟨by kernel_rfl, ?_⟩) hS ?_
              · intro U hU
                obtain ⟨s0, s1, s2, s3, s4⟩ := hU
                exact exec_loadCell rfl (by kernel_rfl) s4 (by kernel_rfl)
              refine wpAnyL_take (i := 53) (v := .bool false) (by simp only [List.getElem?_toArray, List.getElem?_cons_succ, List.getElem?_cons_zero]; rfl) (by as_aux_lemma => kernel_rfl) (by as_aux_lemma => kernel_rfl) (by as_aux_lemma => kernel_rfl) (fun _ _ _ h => h) (Or.inl ⟨by kernel_rfl, ?_⟩) hS ?_
              · intro U hU
                obtain ⟨s0, s1, s2, s3, s4⟩ := hU
                refine exec_small (opv [(223, .int .i64 (f i).y0), (230, .int .i64 (f i).y0)]) (by kernel_rfl) ?_
                go_simp
              refine wpAnyL_take (i := 54) (v := .bool false) rfl (by as_aux_lemma => kernel_rfl) (by as_aux_lemma => kernel_rfl) (by as_aux_lemma => kernel_rfl) (fun _ _ _ h => h) (Or.inl ⟨by kernel_rfl, ?_⟩) hS ?_
              · intro U hU
                obtain ⟨s0, s1, s2, s3, s4⟩ := hU
                kernel_rfl
              refine wpAnyL_take (i := 55) (v := .bool false) rfl (by as_aux_lemma => kernel_rfl) (by as_aux_lemma => kernel_rfl) (by as_aux_lemma => kernel_rfl) (fun _ _ _ h => h) (Or.inl ⟨by kernel_rfl, ?_⟩) hS ?_
              · intro U hU
                obtain ⟨s0, s1, s2, s3, s4⟩ := hU
                kernel_rfl
              refine wpAnyL_done (by as_aux_lemma => kernel_rfl) (onlyN_mk ?_) _
              refine ⟨?_, bV⟩
              kernel_rfl
            rintro a' wz ⟨rfl, hz⟩
            simp only [Act.put, List.setIfInBounds_toArray, List.set_cons_zero, List.set_cons_succ]
            have hbz := hbk.trans (hz.mono hbk.size)
            go_wp2_with fail
            go_roundw
            case rel => exact ⟨i + 1, by omega, by go_num, hbz⟩
            case measure => simp [intOf]; omega
          · obtain ⟨i1, hi1'⟩ : ∃ z, i - 1 = z := ⟨_, rfl⟩
            have hi1b : i1 < NB := by omega
            obtain ⟨pa, pb⟩ := HG9' (by omega)
            rw [hi1'] at pa pb
            have p2 : wk.cell? ⟨bb, ob + i1 * 4 + 2, none⟩ = some (.int .i64 (f i).x0) := by have := cellK i1 (by omega) 2 _ rfl; rw [pa]; exact this
            have p1 : wk.cell? ⟨bb, ob + i1 * 4 + 1, none⟩ = some (.int .i64 (f i).y0) := by have := cellK i1 (by omega) 1 _ rfl; rw [pb]; exact this
            have HI1 := Lib.hid (show IntKind.i64.wrap ((i : Int) - 1) = (i1 : Int) by rw [show (i : Int) - 1 = (i1 : Int) by omega]; exact wr (by omega))
            clear pa pb hi1'
            refine last_cut (by kernel_rfl) (fun U => U.cell? ⟨bb, ob + i * 4, none⟩ = some (.int .i64 (f i).x0) ∧ U.cell? ⟨bb, ob + i * 4 + 1, none⟩ = some (.int .i64 (f i).y0) ∧ U.cell? ⟨bb, ob + i1 * 4 + 2, none⟩ = some (.int .i64 (f i).x0) ∧ U.cell? ⟨bb, ob + i1 * 4 + 1, none⟩ = some (.int .i64 (f i).y0)) (fun aF a' W' => a' = ((((((((((((((((((((((((((((((((((((((((((((((((((((((((aF.put (some 178) (.int .i64 (i : Int))).put (some 179) (.bool true)).put (some 180) (.bool true)).put (some 181) (.int .i64 (i : Int))).put (some 182) (.int .i64 (WB : Int))).put (some 183) (.int .i64 (im : Int))).put (some 184) (.bool true)).put (some 185) (.bool true)).put (some 186) (.bool true)).put (some 187) (.slice (some ⟨bb, ob, none⟩) NB cb)).put (some 188) (.int .i64 (i : Int))).put (some 189) (.pointer (some ⟨bb, ob + i * 4, none⟩))).put (some 190) (.pointer (some ⟨bb, ob + i * 4, none⟩))).put (some 191) (.int .i64 (f i).x0)).put (some 192) (.slice (some ⟨bb, ob, none⟩) NB cb)).put (some 193) (.int .i64 (i : Int))).put (some 194) (.int .i64 (i1 : Int))).put (some 195) (.pointer (some ⟨bb, ob + i1 * 4, none⟩))).put (some 196) (.pointer (some ⟨bb, ob + i1 * 4 + 2, none⟩))).put (some 197) (.int .i64 (f i).x0)).put (some 198) (.bool false)).put (some 199) (.bool false)).put (some 200) (.slice (some ⟨bb, ob, none⟩) NB cb)).put (some 201) (.int .i64 (i : Int))).put (some 202) (.pointer (some ⟨bb, ob + i * 4, none⟩))).put (some 203) (.pointer (some ⟨bb, ob + i * 4 + 1, none⟩))).put (some 204) (.int .i64 (f i).y0)).put (some 205) (.slice (some ⟨bb, ob, none⟩) NB cb)).put (some 206) (.int .i64 (i : Int))).put (some 207) (.int .i64 (i1 : Int))).put (some 208) (.pointer (some ⟨bb, ob + i1 * 4, none⟩))).put (some 209) (.pointer (some ⟨bb, ob + i1 * 4 + 1, none⟩))).put (some 210) (.int .i64 (f i).y0)).put (some 211) (.bool false)).put (some 212) (.bool false)).put (some 213) (.bool false)).put (some 214) (.bool false)).put (some 215) (.int .i64 (i : Int))).put (some 216) (.int .i64 (WB : Int))).put (some 217) (.bool false)).put (some 218) (.bool false)).put (some 219) (undef)).put (some 220) (undef)).put (some 221) (undef)).put (some 222) (undef)).put (some 223) (undef)).put (some 224) (undef)).put (some 225) (undef)).put (some 226) (undef)).put (some 227) (undef)).put (some 228) (undef)).put (some 229) (undef)).put (some 230) (undef)).put (some 231) (undef)).put (some 232) (.bool false)).put (some 233) (.bool false)) ∧ Below wk.heap.size wk W') ⟨z0, z1', p2, p1⟩ (fun hS => ?_) ?_
            · skip
              have hSB : ∀ U : World, Below (wk.heap.size) wk U → U.cell? ⟨bb, ob + i * 4, none⟩ = some (.int .i64 (f i).x0) ∧ U.cell? ⟨bb, ob + i * 4 + 1, none⟩ = some (.int .i64 (f i).y0) ∧ U.cell? ⟨bb, ob + i1 * 4 + 2, none⟩ = some (.int .i64 (f i).x0) ∧ U.cell? ⟨bb, ob + i1 * 4 + 1, none⟩ = some (.int .i64 (f i).y0) := fun U h => ⟨(h.cell (p := ⟨bb, ob + i * 4, none⟩) (by simp only; omega)).trans (z0), (h.cell (p := ⟨bb, ob + i * 4 + 1, none⟩) (by simp only; omega)).trans (z1'), (h.cell (p := ⟨bb, ob + i1 * 4 + 2, none⟩) (by simp only; omega)).trans (p2), (h.cell (p := ⟨bb, ob + i1 * 4 + 1, none⟩) (by simp only; omega)).trans (p1)⟩
              have bV : Below wk.heap.size wk wk.drew := (Below.refl _ _).drew
              generalize wk.drew = V0 at *
              change wpAnyL _ _ _ _ _ 56 #[false, false, false, false, false, false, false, false, false, false, false, false, false, false, false, false, false, false, false, false, false, false, false, false, false, false, false, false, false, false, false, false, false, false, false, false, false, false, false, false, false, false, false, false, false, false, false, false, false, false, false, false, false, false, false, false] _ _
              refine wpAnyL_take (i := 0) (v := .int .i64 (i : Int)) rfl (by as_aux_lemma => kernel_rfl) (by as_aux_lemma => kernel_rfl) (by as_aux_lemma => kernel_rfl) (fun _ _ _ h => h) (Or.inl ⟨by kernel_rfl, ?_⟩) hS ?_
              · intro U hU
                obtain ⟨s0, s1, s2, s3⟩ := hU
                kernel_rfl
              refine wpAnyL_take (i := 1) (v := .bool true) (by simp only [List.getElem?_toArray, List.getElem?_cons_succ, List.getElem?_cons_zero]; rfl) (by as_aux_lemma => kernel_rfl) (by as_aux_lemma => kernel_rfl) (by as_aux_lemma => kernel_rfl) (fun _ _ _ h => h) (Or.inl ⟨by kernel_rfl, ?_⟩) hS ?_
              · intro U hU
                obtain ⟨s0, s1, s2, s3⟩ := hU
                refine exec_small (opv [(178, .int .i64 (i : Int))]) (by kernel_rfl) ?_
                go_simp
              refine wpAnyL_take (i := 2) (v := .bool true) rfl (by as_aux_lemma => kernel_rfl) (by as_aux_lemma => kernel_rfl) (by as_aux_lemma => kernel_rfl) (fun _ _ _ h => h) (Or.inl ⟨by kernel_rfl, ?_⟩) hS ?_
              · intro U hU
                obtain ⟨s0, s1, s2, s3⟩ := hU
                kernel_rfl
              refine wpAnyL_take (i := 3) (v := .int .i64 (i : Int)) rfl (by as_aux_lemma => kernel_rfl) (by as_aux_lemma => kernel_rfl) (by as_aux_lemma => kernel_rfl) (fun _ _ _ h => h) (Or.inl ⟨by kernel_rfl, ?_⟩) hS ?_
              · intro U hU
                obtain ⟨s0, s1, s2, s3⟩ := hU
                kernel_rfl
              refine wpAnyL_take (i := 4) (v := .int .i64 (WB : Int)) rfl (by as_aux_lemma => kernel_rfl) (by as_aux_lemma => kernel_rfl) (by as_aux_lemma => kernel_rfl) (fun _ _ _ h => h) (Or.inl ⟨by kernel_rfl, ?_⟩) hS ?_
              · intro U hU
                obtain ⟨s0, s1, s2, s3⟩ := hU
                kernel_rfl
              refine wpAnyL_take (i := 5) (v := .int .i64 (im : Int)) (by simp only [List.getElem?_toArray, List.getElem?_cons_succ, List.getElem?_cons_zero]; rfl) (by as_aux_lemma => kernel_rfl) (by as_aux_lemma => kernel_rfl) (by as_aux_lemma => kernel_rfl) (fun _ _ _ h => h) (Or.inl ⟨by kernel_rfl, ?_⟩) hS ?_
              · intro U hU
                obtain ⟨s0, s1, s2, s3⟩ := hU
                have hz := T0.out
                refine exec_small (opv [(181, .int .i64 (i : Int)), (182, .int .i64 (WB : Int))]) (by kernel_rfl) ?_
                go_simp
              refine wpAnyL_take (i := 6) (v := .bool true) (by simp only [List.getElem?_toArray, List.getElem?_cons_succ, List.getElem?_cons_zero]; rfl) (by as_aux_lemma => kernel_rfl) (by as_aux_lemma => kernel_rfl) (by as_aux_lemma => kernel_rfl) (fun _ _ _ h => h) (Or.inl ⟨by kernel_rfl, ?_⟩) hS ?_
              · intro U hU
                obtain ⟨s0, s1, s2, s3⟩ := hU
                refine exec_small (opv [(183, .int .i64 (im : Int))]) (by kernel_rfl) ?_
                go_simp
              refine wpAnyL_take (i := 7) (v := .bool true) rfl (by as_aux_lemma => kernel_rfl) (by as_aux_lemma => kernel_rfl) (by as_aux_lemma => kernel_rfl) (fun _ _ _ h => h) (Or.inl ⟨by kernel_rfl, ?_⟩) hS ?_
              · intro U hU
                obtain ⟨s0, s1, s2, s3⟩ := hU
                kernel_rfl
              refine wpAnyL_take (i := 8) (v := .bool true) rfl (by as_aux_lemma => kernel_rfl) (by as_aux_lemma => kernel_rfl) (by as_aux_lemma => kernel_rfl) (fun _ _ _ h => h) (Or.inl ⟨by kernel_rfl, ?_⟩) hS ?_
              · intro U hU
                obtain ⟨s0, s1, s2, s3⟩ := hU
                kernel_rfl
              refine wpAnyL_take (i := 9) (v := .slice (some ⟨bb, ob, none⟩) NB cb) rfl (by as_aux_lemma => kernel_rfl) (by as_aux_lemma => kernel_rfl) (by as_aux_lemma => kernel_rfl) (fun _ _ _ h => h) (Or.inl ⟨by kernel_rfl, ?_⟩) hS ?_
              · intro U hU
                obtain ⟨s0, s1, s2, s3⟩ := hU
                kernel_rfl
              refine wpAnyL_take (i := 10) (v := .int .i64 (i : Int)) rfl (by as_aux_lemma => kernel_rfl) (by as_aux_lemma => kernel_rfl) (by as_aux_lemma => kernel_rfl) (fun _ _ _ h => h) (Or.inl ⟨by kernel_rfl, ?_⟩) hS ?_
              · intro U hU
                obtain ⟨s0, s1, s2, s3⟩ := hU
                kernel_rfl
              refine wpAnyL_take (i := 11) (v := .pointer (some ⟨bb, ob + i * 4, none⟩)) (by simp only [List.getElem?_toArray, List.getElem?_cons_succ, List.getElem?_cons_zero]; rfl) (by as_aux_lemma => kernel_rfl) (by as_aux_lemma => kernel_rfl) (by as_aux_lemma => kernel_rfl) (fun _ _ _ h => h) (Or.inl ⟨by kernel_rfl, ?_⟩) hS ?_
              · intro U hU
                obtain ⟨s0, s1, s2, s3⟩ := hU
                refine exec_small (opv [(187, .slice (some ⟨bb, ob, none⟩) NB cb), (188, .int .i64 (i : Int))]) (by kernel_rfl) ?_
                go_simp
              refine wpAnyL_take (i := 12) (v := .pointer (some ⟨bb, ob + i * 4, none⟩)) rfl (by as_aux_lemma => kernel_rfl) (by as_aux_lemma => kernel_rfl) (by as_aux_lemma => kernel_rfl) (fun _ _ _ h => h) (Or.inl ⟨by kernel_rfl, ?_⟩) hS ?_
              · intro U hU
                obtain ⟨s0, s1, s2, s3⟩ := hU
                kernel_rfl
              refine wpAnyL_take (i := 13) (v := .int .i64 (f i).x0) rfl (by as_aux_lemma => kernel_rfl) (by as_aux_lemma => kernel_rfl) (by as_aux_lemma => kernel_rfl) (fun _ _ _ h => h) (Or.inl ⟨by kernel_rfl, ?_⟩) hS ?_
              · intro U hU
                obtain ⟨s0, s1, s2, s3⟩ := hU
                exact exec_loadCell rfl (by kernel_rfl) s0 (by kernel_rfl)
              refine wpAnyL_take (i := 14) (v := .slice (some ⟨bb, ob, none⟩) NB cb) rfl (by as_aux_lemma => kernel_rfl) (by as_aux_lemma => kernel_rfl) (by as_aux_lemma => kernel_rfl) (fun _ _ _ h => h) (Or.inl ⟨by kernel_rfl, ?_⟩) hS ?_
              · intro U hU
                obtain ⟨s0, s1, s2, s3⟩ := hU
                kernel_rfl
              refine wpAnyL_take (i := 15) (v := .int .i64 (i : Int)) rfl (by as_aux_lemma => kernel_rfl) (by as_aux_lemma => kernel_rfl) (by as_aux_lemma => kernel_rfl) (fun _ _ _ h => h) (Or.inl ⟨by kernel_rfl, ?_⟩) hS ?_
              · intro U hU
                obtain ⟨s0, s1, s2, s3⟩ := hU
                kernel_rfl
              refine wpAnyL_take (i := 16) (v := .int .i64 (i1 : Int)) (by simp only [List.getElem?_toArray, List.getElem?_cons_succ, List.getElem?_cons_zero]; rfl) (by as_aux_lemma => kernel_rfl) (by as_aux_lemma => kernel_rfl) (by as_aux_lemma => kernel_rfl) (fun _ _ _ h => h) (Or.inl ⟨by kernel_rfl, ?_⟩) hS ?_
              · intro U hU
                obtain ⟨s0, s1, s2, s3⟩ := hU
                have hz := HI1.out
                refine exec_small (opv [(193, .int .i64 (i : Int))]) (by kernel_rfl) ?_
                go_simp
              refine wpAnyL_take (i := 17) (v := .pointer (some ⟨bb, ob + i1 * 4, none⟩)) (by simp only [List.getElem?_toArray, List.getElem?_cons_succ, List.getElem?_cons_zero]; rfl) (by as_aux_lemma => kernel_rfl) (by as_aux_lemma => kernel_rfl) (by as_aux_lemma => kernel_rfl) (fun _ _ _ h => h) (Or.inl ⟨by kernel_rfl, ?_⟩) hS ?_
              · intro U hU
                obtain ⟨s0, s1, s2, s3⟩ := hU
                refine exec_small (opv [(192, .slice (some ⟨bb, ob, none⟩) NB cb), (194, .int .i64 (i1 : Int))]) (by kernel_rfl) ?_
                go_simp
              refine wpAnyL_take (i := 18) (v := .pointer (some ⟨bb, ob + i1 * 4 + 2, none⟩)) rfl (by as_aux_lemma => kernel_rfl) (by as_aux_lemma => kernel_rfl) (by as_aux_lemma => kernel_rfl) (fun _ _ _ h => h) (Or.inl ⟨by kernel_rfl, ?_⟩) hS ?_
              · intro U hU
                obtain ⟨s0, s1, s2, s3⟩ := hU
                kernel_rfl
              refine wpAnyL_take (i := 19) (v := .int .i64 (f i).x0) rfl (by as_aux_lemma => kernel_rfl) (by as_aux_lemma => kernel_rfl) (by as_aux_lemma => kernel_rfl) (fun _ _ _ h => h) (Or.inl ⟨by kernel_rfl, ?_⟩) hS ?_
              · intro U hU
                obtain ⟨s0, s1, s2, s3⟩ := hU
                exact exec_loadCell rfl (by kernel_rfl) s2 (by kernel_rfl)
              refine wpAnyL_take (i := 20) (v := .bool false) (by simp only [List.getElem?_toArray, List.getElem?_cons_succ, List.getElem?_cons_zero]; rfl) (by as_aux_lemma => kernel_rfl) (by as_aux_lemma => kernel_rfl) (by as_aux_lemma => kernel_rfl) (fun _ _ _ h => h) (Or.inl ⟨by kernel_rfl, ?_⟩) hS ?_
              · intro U hU
                obtain ⟨s0, s1, s2, s3⟩ := hU
                refine exec_small (opv [(191, .int .i64 (f i).x0), (197, .int .i64 (f i).x0)]) (by kernel_rfl) ?_
                go_simp
              refine wpAnyL_take (i := 21) (v := .bool false) rfl (by as_aux_lemma => kernel_rfl) (by as_aux_lemma => kernel_rfl) (by as_aux_lemma => kernel_rfl) (fun _ _ _ h => h) (Or.inl ⟨by kernel_rfl, ?_⟩) hS ?_
              · intro U hU
                obtain ⟨s0, s1, s2, s3⟩ := hU
                kernel_rfl
              refine wpAnyL_take (i := 22) (v := .slice (some ⟨bb, ob, none⟩) NB cb) rfl (by as_aux_lemma => kernel_rfl) (by as_aux_lemma => kernel_rfl) (by as_aux_lemma => kernel_rfl) (fun _ _ _ h => h) (Or.inl ⟨by kernel_rfl, ?_⟩) hS ?_
              · intro U hU
                obtain ⟨s0, s1, s2, s3⟩ := hU
                kernel_rfl
              refine wpAnyL_take (i := 23) (v := .int .i64 (i : Int)) rfl (by as_aux_lemma => kernel_rfl) (by as_aux_lemma => kernel_rfl) (by as_aux_lemma => kernel_rfl) (fun _ _ _ h => h) (Or.inl ⟨by kernel_rfl, ?_⟩) hS ?_
              · intro U hU
                obtain ⟨s0, s1, s2, s3⟩ := hU
                kernel_rfl
              refine wpAnyL_take (i := 24) (v := .pointer (some ⟨bb, ob + i * 4, none⟩)) (by simp only [List.getElem?_toArray, List.getElem?_cons_succ, List.getElem?_cons_zero]; rfl) (by as_aux_lemma => kernel_rfl) (by as_aux_lemma => kernel_rfl) (by as_aux_lemma => kernel_rfl) (fun _ _ _ h => h) (Or.inl ⟨by kernel_rfl, ?_⟩) hS ?_
              · intro U hU
                obtain ⟨s0, s1, s2, s3⟩ := hU
                refine exec_small (opv [(200, .slice (some ⟨bb, ob, none⟩) NB cb), (201, .int .i64 (i : Int))]) (by kernel_rfl) ?_
                go_simp
              refine wpAnyL_take (i := 25) (v := .pointer (some ⟨bb, ob + i * 4 + 1, none⟩)) rfl (by as_aux_lemma => kernel_rfl) (by as_aux_lemma => kernel_rfl) (by as_aux_lemma => kernel_rfl) (fun _ _ _ h => h) (Or.inl ⟨by kernel_rfl, ?_⟩) hS ?_
              · intro U hU
                obtain ⟨s0, s1, s2, s3⟩ := hU
                kernel_rfl
              refine wpAnyL_take (i := 26) (v := .int .i64 (f i).y0) rfl (by as_aux_lemma => kernel_rfl) (by as_aux_lemma => kernel_rfl) (by as_aux_lemma => kernel_rfl) (fun _ _ _ h => h) (Or.inl ⟨by kernel_rfl, ?_⟩) hS ?_
              · intro U hU
                obtain ⟨s0, s1, s2, s3⟩ := hU
                exact exec_loadCell rfl (by kernel_rfl) s1 (by kernel_rfl)
              refine wpAnyL_take (i := 27) (v := .slice (some ⟨bb, ob, none⟩) NB cb) rfl (by as_aux_lemma => kernel_rfl) (by as_aux_lemma => kernel_rfl) (by as_aux_lemma => kernel_rfl) (fun _ _ _ h => h) (Or.inl ⟨by kernel_rfl, ?_⟩) hS ?_
              · intro U hU
                obtain ⟨s0, s1, s2, s3⟩ := hU
                kernel_rfl
              refine wpAnyL_take (i := 28) (v := .int .i64 (i : Int)) rfl (by as_aux_lemma => kernel_rfl) (by as_aux_lemma => kernel_rfl) (by as_aux_lemma => kernel_rfl) (fun _ _ _ h => h) (Or.inl ⟨by kernel_rfl, ?_⟩) hS ?_
              · intro U hU
                obtain ⟨s0, s1, s2, s3⟩ := hU
                kernel_rfl
              refine wpAnyL_take (i := 29) (v := .int .i64 (i1 : Int)) (by simp only [List.getElem?_toArray, List.getElem?_cons_succ, List.getElem?_cons_zero]; rfl) (by as_aux_lemma => kernel_rfl) (by as_aux_lemma => kernel_rfl) (by as_aux_lemma => kernel_rfl) (fun _ _ _ h => h) (Or.inl ⟨by kernel_rfl, ?_⟩) hS ?_
              · intro U hU
                obtain ⟨s0, s1, s2, s3⟩ := hU
                have hz := HI1.out
                refine exec_small (opv [(206, .int .i64 (i : Int))]) (by kernel_rfl) ?_
                go_simp
              refine wpAnyL_take (i := 30) (v := .pointer (some ⟨bb, ob + i1 * 4, none⟩)) (by simp only [List.getElem?_toArray, List.getElem?_cons_succ, List.getElem?_cons_zero]; rfl) (by as_aux_lemma => kernel_rfl) (by as_aux_lemma => kernel_rfl) (by as_aux_lemma => kernel_rfl) (fun _ _ _ h => h) (Or.inl ⟨by kernel_rfl, ?_⟩) hS ?_
              · intro U hU
                obtain ⟨s0, s1, s2, s3⟩ := hU
                refine exec_small (opv [(205, .slice (some ⟨bb, ob, none⟩) NB cb), (207, .int .i64 (i1 : Int))]) (by kernel_rfl) ?_
                go_simp
              refine wpAnyL_take (i := 31) (v := .pointer (some ⟨bb, ob + i1 * 4 + 1, none⟩)) rfl (by as_aux_lemma => kernel_rfl) (by as_aux_lemma => kernel_rfl) (by as_aux_lemma => kernel_rfl) (fun _ _ _ h => h) (Or.inl ⟨by kernel_rfl, ?_⟩) hS ?_
              · intro U hU
                obtain ⟨s0, s1, s2, s3⟩ := hU
                kernel_rfl
              refine wpAnyL_take (i := 32) (v := .int .i64 (f i).y0) rfl (by as_aux_lemma => kernel_rfl) (by as_aux_lemma => kernel_rfl) (by as_aux_lemma => kernel_rfl) (fun _ _ _ h => h) (Or.inl ⟨by kernel_rfl, ?_⟩) hS ?_
              · intro U hU
                obtain ⟨s0, s1, s2, s3⟩ := hU
                exact exec_loadCell rfl (by kernel_rfl) s3 (by kernel_rfl)
              refine wpAnyL_take (i := 33) (v := .bool false) (by simp only [List.getElem?_toArray, List.getElem?_cons_succ, List.getElem?_cons_zero]; rfl) (by as_aux_lemma => kernel_rfl) (by as_aux_lemma => kernel_rfl) (by as_aux_lemma => kernel_rfl) (fun _ _ _ h => h) (Or.inl ⟨by kernel_rfl, ?_⟩) hS ?_
              · intro U hU
                obtain ⟨s0, s1, s2, s3⟩ := hU
                refine exec_small (opv [(204, .int .i64 (f i).y0), (210, .int .i64 (f i).y0)]) (by kernel_rfl) ?_
                go_simp
              refine wpAnyL_take (i := 34) (v := .bool false) rfl (by as_aux_lemma => kernel_rfl) (by as_aux_lemma => kernel_rfl) (by as_aux_lemma => kernel_rfl) (fun _ _ _ h => h) (Or.inl ⟨by kernel_rfl, ?_⟩) hS ?_
              · intro U hU
                obtain ⟨s0, s1, s2, s3⟩ := hU
                kernel_rfl
              refine wpAnyL_take (i := 35) (v := .bool false) rfl (by as_aux_lemma => kernel_rfl) (by as_aux_lemma => kernel_rfl) (by as_aux_lemma => kernel_rfl) (fun _ _ _ h => h) (Or.inl ⟨by kernel_rfl, ?_⟩) hS ?_
              · intro U hU
                obtain ⟨s0, s1, s2, s3⟩ := hU
                kernel_rfl
              refine wpAnyL_take (i := 36) (v := .bool false) rfl (by as_aux_lemma => kernel_rfl) (by as_aux_lemma => kernel_rfl) (by as_aux_lemma => kernel_rfl) (fun _ _ _ h => h) (Or.inl ⟨by kernel_rfl, ?_⟩) hS ?_
              · intro U hU
                obtain ⟨s0, s1, s2, s3⟩ := hU
                kernel_rfl
              refine wpAnyL_take (i := 37) (v := .int .i64 (i : Int)) rfl (by as_aux_lemma => kernel_rfl) (by as_aux_lemma => kernel_rfl) (by as_aux_lemma => kernel_rfl) (fun _ _ _ h => h) (Or.inl ⟨by kernel_rfl, ?_⟩) hS ?_
              · intro U hU
                obtain ⟨s0, s1, s2, s3⟩ := hU
                kernel_rfl
              refine wpAnyL_take (i := 38) (v := .int .i64 (WB : Int)) rfl (by as_aux_lemma => kernel_rfl) (by as_aux_lemma => kernel_rfl) (by as_aux_lemma => kernel_rfl) (fun _ _ _ h => h) (Or.inl ⟨by kernel_rfl, ?_⟩) hS ?_
              · intro U hU
                obtain ⟨s0, s1, s2, s3⟩ := hU
                kernel_rfl
              refine wpAnyL_take (i := 39) (v := .bool false) (by simp only [List.getElem?_toArray, List.getElem?_cons_succ, List.getElem?_cons_zero]; rfl) (by as_aux_lemma => kernel_rfl) (by as_aux_lemma => kernel_rfl) (by as_aux_lemma => kernel_rfl) (fun _ _ _ h => h) (Or.inl ⟨by kernel_rfl, ?_⟩) hS ?_
              · intro U hU
                obtain ⟨s0, s1, s2, s3⟩ := hU
                refine exec_small (opv [(215, .int .i64 (i : Int)), (216, .int .i64 (WB : Int))]) (by kernel_rfl) ?_
                go_simp
              refine wpAnyL_take (i := 40) (v := .bool false) rfl (by as_aux_lemma => kernel_rfl) (by as_aux_lemma => kernel_rfl) (by as_aux_lemma => kernel_rfl) (fun _ _ _ h => h) (Or.inl ⟨by kernel_rfl, ?_⟩) hS ?_
              · intro U hU
                obtain ⟨s0, s1, s2, s3⟩ := hU
                kernel_rfl
              refine wpAnyL_take (i := 41) (v := undef) rfl (by as_aux_lemma => kernel_rfl) (by as_aux_lemma => kernel_rfl) (by as_aux_lemma => kernel_rfl) (fun _ _ _ h => h) (Or.inr ⟨by kernel_rfl, rfl⟩) hS ?_
              refine wpAnyL_take (i := 42) (v := undef) rfl (by as_aux_lemma => kernel_rfl) (by as_aux_lemma => kernel_rfl) (by as_aux_lemma => kernel_rfl) (fun _ _ _ h => h) (Or.inr ⟨by kernel_rfl, rfl⟩) hS ?_
              refine wpAnyL_take (i := 43) (v := undef) rfl (by as_aux_lemma => kernel_rfl) (by as_aux_lemma => kernel_rfl) (by as_aux_lemma => kernel_rfl) (fun _ _ _ h => h) (Or.inr ⟨by kernel_rfl, rfl⟩) hS ?_
              refine wpAnyL_take (i := 44) (v := undef) rfl (by as_aux_lemma => kernel_rfl) (by as_aux_lemma => kernel_rfl) (by as_aux_lemma => kernel_rfl) (fun _ _ _ h => h) (Or.inr ⟨by kernel_rfl, rfl⟩) hS ?_
              refine wpAnyL_take (i := 45) (v := undef) rfl (by as_aux_lemma => kernel_rfl) (by as_aux_lemma => kernel_rfl) (by as_aux_lemma => kernel_rfl) (fun _ _ _ h => h) (Or.inr ⟨by kernel_rfl, rfl⟩) hS ?_
              refine wpAnyL_take (i := 46) (v := undef) rfl (by as_aux_lemma => kernel_rfl) (by as_aux_lemma => kernel_rfl) (by as_aux_lemma => kernel_rfl) (fun _ _ _ h => h) (Or.inr ⟨by kernel_rfl, rfl⟩) hS ?_
              refine wpAnyL_take (i := 47) (v := undef) rfl (by as_aux_lemma => kernel_rfl) (by as_aux_lemma => kernel_rfl) (by as_aux_lemma => kernel_rfl) (fun _ _ _ h => h) (Or.inr ⟨by kernel_rfl, rfl⟩) hS ?_
              refine wpAnyL_take (i := 48) (v := undef) rfl (by as_aux_lemma => kernel_rfl) (by as_aux_lemma => kernel_rfl) (by as_aux_lemma => kernel_rfl) (fun _ _ _ h => h) (Or.inr ⟨by kernel_rfl, rfl⟩) hS ?_
              refine wpAnyL_take (i := 49) (v := undef) rfl (by as_aux_lemma => kernel_rfl) (by as_aux_lemma => kernel_rfl) (by as_aux_lemma => kernel_rfl) (fun _ _ _ h => h) (Or.inr ⟨by kernel_rfl, rfl⟩) hS ?_
              refine wpAnyL_take (i := 50) (v := undef) rfl (by as_aux_lemma => kernel_rfl) (by as_aux_lemma => kernel_rfl) (by as_aux_lemma => kernel_rfl) (fun _ _ _ h => h) (Or.inr ⟨by kernel_rfl, rfl⟩) hS ?_
              refine wpAnyL_take (i := 51) (v := undef) rfl (by as_aux_lemma => kernel_rfl) (by as_aux_lemma => kernel_rfl) (by as_aux_lemma => kernel_rfl) (fun _ _ _ h => h) (Or.inr ⟨by kernel_rfl, rfl⟩) hS ?_
              refine wpAnyL_take (i := 52) (v := undef) rfl (by as_aux_lemma => kernel_rfl) (by as_aux_lemma => kernel_rfl) (by as_aux_lemma => kernel_rfl) (fun _ _ _ h => h) (Or.inr ⟨by kernel_rfl, rfl⟩) hS ?_
              refine wpAnyL_take (i := 53) (v := undef) rfl (by as_aux_lemma => kernel_rfl) (by as_aux_lemma => kernel_rfl) (by as_aux_lemma => kernel_rfl) (fun _ _ _ h => h) (Or.inr ⟨by kernel_rfl, rfl⟩) hS ?_
              refine wpAnyL_take (i := 54) (v := .bool false) rfl (by as_aux_lemma => kernel_rfl) (by as_aux_lemma => kernel_rfl) (by as_aux_lemma => kernel_rfl) (fun _ _ _ h => h) (Or.inl ⟨by kernel_rfl, ?_⟩) hS ?_
              · intro U hU
                obtain ⟨s0, s1, s2, s3⟩ := hU
                kernel_rfl
              refine wpAnyL_take (i := 55) (v := .bool false) rfl (by as_aux_lemma => kernel_rfl) (by as_aux_lemma => kernel_rfl) (by as_aux_lemma => kernel_rfl) (fun _ _ _ h => h) (Or.inl ⟨by kernel_rfl, ?_⟩) hS ?_
              · intro U hU
                obtain ⟨s0, s1, s2, s3⟩ := hU
                kernel_rfl
              refine wpAnyL_done (by as_aux_lemma => kernel_rfl) (onlyN_mk ?_) _
              refine ⟨?_, bV⟩
              kernel_rfl
            rintro a' wz ⟨rfl, hz⟩
            simp only [Act.put, List.setIfInBounds_toArray, List.set_cons_zero, List.set_cons_succ]
            have hbz := hbk.trans (hz.mono hbk.size)
            go_wp2_with fail
            go_roundw
            case rel => exact ⟨i + 1, by omega, by go_num, hbz⟩
            case measure => simp [intOf]; omega
        · have k3 : WB ≤ i := by
            rcases Nat.lt_or_ge i WB with h | h
            · have := Nat.mod_eq_of_lt h; rw [HIM.out] at this; omega
            · exact h
          obtain ⟨iw, hiw⟩ : ∃ z, i - WB = z := ⟨_, rfl⟩
          have hiwb : iw < NB := by omega
          have q3 : wk.cell? ⟨bb, ob + iw * 4 + 3, none⟩ = some (.int .i64 (f i).y0) := by have := cellK iw (by omega) 3 _ rfl; rw [HG10.out (by omega), hiw]; exact this
          have HIW := Lib.hid (show IntKind.i64.wrap ((i : Int) - WB) = (iw : Int) by rw [show (i : Int) - WB = (iw : Int) by omega]; exact wr (by omega))
          clear hiw
          refine last_cut (by kernel_rfl) (fun U => U.cell? ⟨bb, ob + i * 4, none⟩ = some (.int .i64 (f i).x0) ∧ U.cell? ⟨bb, ob + i * 4 + 1, none⟩ = some (.int .i64 (f i).y0) ∧ U.cell? ⟨bb, ob + iw * 4 + 3, none⟩ = some (.int .i64 (f i).y0)) (fun aF a' W' => a' = ((((((((((((((((((((((((((((((((((((((((((((((((((((((((aF.put (some 178) (.int .i64 (i : Int))).put (some 179) (.bool true)).put (some 180) (.bool true)).put (some 181) (.int .i64 (i : Int))).put (some 182) (.int .i64 (WB : Int))).put (some 183) (.int .i64 (im : Int))).put (some 184) (.bool false)).put (some 185) (.bool false)).put (some 186) (.bool false)).put (some 187) (undef)).put (some 188) (undef)).put (some 189) (undef)).put (some 190) (undef)).put (some 191) (undef)).put (some 192) (undef)).put (some 193) (undef)).put (some 194) (undef)).put (some 195) (undef)).put (some 196) (undef)).put (some 197) (undef)).put (some 198) (undef)).put (some 199) (undef)).put (some 200) (undef)).put (some 201) (undef)).put (some 202) (undef)).put (some 203) (undef)).put (some 204) (undef)).put (some 205) (undef)).put (some 206) (undef)).put (some 207) (undef)).put (some 208) (undef)).put (some 209) (undef)).put (some 210) (undef)).put (some 211) (undef)).put (some 212) (undef)).put (some 213) (.bool false)).put (some 214) (.bool false)).put (some 215) (.int .i64 (i : Int))).put (some 216) (.int .i64 (WB : Int))).put (some 217) (.bool true)).put (some 218) (.bool true)).put (some 219) (.slice (some ⟨bb, ob, none⟩) NB cb)).put (some 220) (.int .i64 (i : Int))).put (some 221) (.pointer (some ⟨bb, ob + i * 4, none⟩))).put (some 222) (.pointer (some ⟨bb, ob + i * 4 + 1, none⟩))).put (some 223) (.int .i64 (f i).y0)).put (some 224) (.slice (some ⟨bb, ob, none⟩) NB cb)).put (some 225) (.int .i64 (i : Int))).put (some 226) (.int .i64 (WB : Int))).put (some 227) (.int .i64 (iw : Int))).put (some 228) (.pointer (some ⟨bb, ob + iw * 4, none⟩))).put (some 229) (.pointer (some ⟨bb, ob + iw * 4 + 3, none⟩))).put (some 230) (.int .i64 (f i).y0)).put (some 231) (.bool false)).put (some 232) (.bool false)).put (some 233) (.bool false)) ∧ Below wk.heap.size wk W') ⟨z0, z1', q3⟩ (fun hS => ?_) ?_
          · skip
            have hSB : ∀ U : World, Below (wk.heap.size) wk U → U.cell? ⟨bb, ob + i * 4, none⟩ = some (.int .i64 (f i).x0) ∧ U.cell? ⟨bb, ob + i * 4 + 1, none⟩ = some (.int .i64 (f i).y0) ∧ U.cell? ⟨bb, ob + iw * 4 + 3, none⟩ = some (.int .i64 (f i).y0) := fun U h => ⟨(h.cell (p := ⟨bb, ob + i * 4, none⟩) (by simp only; omega)).trans (z0), (h.cell (p := ⟨bb, ob + i * 4 + 1, none⟩) (by simp only; omega)).trans (z1'), (h.cell (p := ⟨bb, ob + iw * 4 + 3, none⟩) (by simp only; omega)).trans (q3)⟩
            have bV : Below wk.heap.size wk wk.drew := (Below.refl _ _).drew
            generalize wk.drew = V0 at *
            change wpAnyL _ _ _ _ _ 56 #[false, false, false, false, false, false, false, false, false, false, false, false, false, false, false, false, false, false, false, false, false, false, false, false, false, false, false, false, false, false, false, false, false, false, false, false, false, false, false, false, false, false, false, false, false, false, false, false, false, false, false, false, false, false, false, false] _ _
            refine wpAnyL_take (i := 0) (v := .int .i64 (i : Int)) rfl (by as_aux_lemma => kernel_rfl) (by as_aux_lemma => kernel_rfl) (by as_aux_lemma => kernel_rfl) (fun _ _ _ h => h) (Or.inl ⟨by kernel_rfl, ?_⟩) hS ?_
            · intro U hU
              obtain ⟨s0, s1, s2⟩ := hU
              kernel_rfl
            refine wpAnyL_take (i := 1) (v := .bool true) (by simp only [List.getElem?_toArray, List.getElem?_cons_succ, List.getElem?_cons_zero]; rfl) (by as_aux_lemma => kernel_rfl) (by as_aux_lemma => kernel_rfl) (by as_aux_lemma => kernel_rfl) (fun _ _ _ h => h) (Or.inl ⟨by kernel_rfl, ?_⟩) hS ?_
            · intro U hU
              obtain ⟨s0, s1, s2⟩ := hU
              refine exec_small (opv [(178, .int .i64 (i : Int))]) (by kernel_rfl) ?_
              go_simp
            refine wpAnyL_take (i := 2) (v := .bool true) rfl (by as_aux_lemma => kernel_rfl) (by as_aux_lemma => kernel_rfl) (by as_aux_lemma => kernel_rfl) (fun _ _ _ h => h) (Or.inl ⟨by kernel_rfl, ?_⟩) hS ?_
            · intro U hU
              obtain ⟨s0, s1, s2⟩ := hU
              kernel_rfl
            refine wpAnyL_take (i := 3) (v := .int .i64 (i : Int)) rfl (by as_aux_lemma => kernel_rfl) (by as_aux_lemma => kernel_rfl) (by as_aux_lemma => kernel_rfl) (fun _ _ _ h => h) (Or.inl ⟨by kernel_rfl, ?_⟩) hS ?_
            · intro U hU
              obtain ⟨s0, s1, s2⟩ := hU
              kernel_rfl
            refine wpAnyL_take (i := 4) (v := .int .i64 (WB : Int)) rfl (by as_aux_lemma => kernel_rfl) (by as_aux_lemma => kernel_rfl) (by as_aux_lemma => kernel_rfl) (fun _ _ _ h => h) (Or.inl ⟨by kernel_rfl, ?_⟩) hS ?_
            · intro U hU
              obtain ⟨s0, s1, s2⟩ := hU
              kernel_rfl
            refine wpAnyL_take (i := 5) (v := .int .i64 (im : Int)) (by simp only [List.getElem?_toArray, List.getElem?_cons_succ, List.getElem?_cons_zero]; rfl) (by as_aux_lemma => kernel_rfl) (by as_aux_lemma => kernel_rfl) (by as_aux_lemma => kernel_rfl) (fun _ _ _ h => h) (Or.inl ⟨by kernel_rfl, ?_⟩) hS ?_
            · intro U hU
              obtain ⟨s0, s1, s2⟩ := hU
              have hz := T0.out
              refine exec_small (opv [(181, .int .i64 (i : Int)), (182, .int .i64 (WB : Int))]) (by kernel_rfl) ?_
              go_simp
            refine wpAnyL_take (i := 6) (v := .bool false) (by simp only [List.getElem?_toArray, List.getElem?_cons_succ, List.getElem?_cons_zero]; rfl) (by as_aux_lemma => kernel_rfl) (by as_aux_lemma => kernel_rfl) (by as_aux_lemma => kernel_rfl) (fun _ _ _ h => h) (Or.inl ⟨by kernel_rfl, ?_⟩) hS ?_
            · intro U hU
              obtain ⟨s0, s1, s2⟩ := hU
              refine exec_small (opv [(183, .int .i64 (im : Int))]) (by kernel_rfl) ?_
              go_simp
            refine wpAnyL_take (i := 7) (v := .bool false) rfl (by as_aux_lemma => kernel_rfl) (by as_aux_lemma => kernel_rfl) (by as_aux_lemma => kernel_rfl) (fun _ _ _ h => h) (Or.inl ⟨by kernel_rfl, ?_⟩) hS ?_
            · intro U hU
              obtain ⟨s0, s1, s2⟩ := hU
              kernel_rfl
            refine wpAnyL_take (i := 8) (v := .bool false) rfl (by as_aux_lemma => kernel_rfl) (by as_aux_lemma => kernel_rfl) (by as_aux_lemma => kernel_rfl) (fun _ _ _ h => h) (Or.inl ⟨by kernel_rfl, ?_⟩) hS ?_
            · intro U hU
              obtain ⟨s0, s1, s2⟩ := hU
              kernel_rfl
            refine wpAnyL_take (i := 9) (v := undef) rfl (by as_aux_lemma => kernel_rfl) (by as_aux_lemma => kernel_rfl) (by as_aux_lemma => kernel_rfl) (fun _ _ _ h => h) (Or.inr ⟨by kernel_rfl, rfl⟩) hS ?_
            refine wpAnyL_take (i := 10) (v := undef) rfl (by as_aux_lemma => kernel_rfl) (by as_aux_lemma => kernel_rfl) (by as_aux_lemma => kernel_rfl) (fun _ _ _ h => h) (Or.inr ⟨by kernel_rfl, rfl⟩) hS ?_
            refine wpAnyL_take (i := 11) (v := undef) rfl (by as_aux_lemma => kernel_rfl) (by as_aux_lemma => kernel_rfl) (by as_aux_lemma => kernel_rfl) (fun _ _ _ h => h) (Or.inr ⟨by kernel_rfl, rfl⟩) hS ?_
            refine wpAnyL_take (i := 12) (v := undef) rfl (by as_aux_lemma => kernel_rfl) (by as_aux_lemma => kernel_rfl) (by as_aux_lemma => kernel_rfl) (fun _ _ _ h => h) (Or.inr ⟨by kernel_rfl, rfl⟩) hS ?_
            refine wpAnyL_take (i := 13) (v := undef) rfl (by as_aux_lemma => kernel_rfl) (by as_aux_lemma => kernel_rfl) (by as_aux_lemma => kernel_rfl) (fun _ _ _ h => h) (Or.inr ⟨by kernel_rfl, rfl⟩) hS ?_
            refine wpAnyL_take (i := 14) (v := undef) rfl (by as_aux_lemma => kernel_rfl) (by as_aux_lemma => kernel_rfl) (by as_aux_lemma => kernel_rfl) (fun _ _ _ h => h) (Or.inr ⟨by kernel_rfl, rfl⟩) hS ?_
            refine wpAnyL_take (i := 15) (v := undef) rfl (by as_aux_lemma => kernel_rfl) (by as_aux_lemma => kernel_rfl) (by as_aux_lemma => kernel_rfl) (fun _ _ _ h => h) (Or.inr ⟨by kernel_rfl, rfl⟩) hS ?_
            refine wpAnyL_take (i := 16) (v := undef) rfl (by as_aux_lemma => kernel_rfl) (by as_aux_lemma => kernel_rfl) (by as_aux_lemma => kernel_rfl) (fun _ _ _ h => h) (Or.inr ⟨by kernel_rfl, rfl⟩) hS ?_
            refine wpAnyL_take (i := 17) (v := undef) rfl (by as_aux_lemma => kernel_rfl) (by as_aux_lemma => kernel_rfl) (by as_aux_lemma => kernel_rfl) (fun _ _ _ h => h) (Or.inr ⟨by kernel_rfl, rfl⟩) hS ?_
            refine wpAnyL_take (i := 18) (v := undef) rfl (by as_aux_lemma => kernel_rfl) (by as_aux_lemma => kernel_rfl) (by as_aux_lemma => kernel_rfl) (fun _ _ _ h => h) (Or.inr ⟨by kernel_rfl, rfl⟩) hS ?_
            refine wpAnyL_take (i := 19) (v := undef) rfl (by as_aux_lemma => kernel_rfl) (by as_aux_lemma => kernel_rfl) (by as_aux_lemma => kernel_rfl) (fun _ _ _ h => h) (Or.inr ⟨by kernel_rfl, rfl⟩) hS ?_
            refine wpAnyL_take (i := 20) (v := undef) rfl (by as_aux_lemma => kernel_rfl) (by as_aux_lemma => kernel_rfl) (by as_aux_lemma => kernel_rfl) (fun _ _ _ h => h) (Or.inr ⟨by kernel_rfl, rfl⟩) hS ?_
            refine wpAnyL_take (i := 21) (v := undef) rfl (by as_aux_lemma => kernel_rfl) (by as_aux_lemma => kernel_rfl) (by as_aux_lemma => kernel_rfl) (fun _ _ _ h => h) (Or.inr ⟨by kernel_rfl, rfl⟩) hS ?_
            refine wpAnyL_take (i := 22) (v := undef) rfl (by as_aux_lemma => kernel_rfl) (by as_aux_lemma => kernel_rfl) (by as_aux_lemma => kernel_rfl) (fun _ _ _ h => h) (Or.inr ⟨by kernel_rfl, rfl⟩) hS ?_
            refine wpAnyL_take (i := 23) (v := undef) rfl (by as_aux_lemma => kernel_rfl) (by as_aux_lemma => kernel_rfl) (by as_aux_lemma => kernel_rfl) (fun _ _ _ h => h) (Or.inr ⟨by kernel_rfl, rfl⟩) hS ?_
            refine wpAnyL_take (i := 24) (v := undef) rfl (by as_aux_lemma => kernel_rfl) (by as_aux_lemma => kernel_rfl) (by as_aux_lemma => kernel_rfl) (fun _ _ _ h => h) (Or.inr ⟨by kernel_rfl, rfl⟩) hS ?_
            refine wpAnyL_take (i := 25) (v := undef) rfl (by as_aux_lemma => kernel_rfl) (by as_aux_lemma => kernel_rfl) (by as_aux_lemma => kernel_rfl) (fun _ _ _ h => h) (Or.inr ⟨by kernel_rfl, rfl⟩) hS ?_
            refine wpAnyL_take (i := 26) (v := undef) rfl (by as_aux_lemma => kernel_rfl) (by as_aux_lemma => kernel_rfl) (by as_aux_lemma => kernel_rfl) (fun _ _ _ h => h) (Or.inr ⟨by kernel_rfl, rfl⟩) hS ?_
            refine wpAnyL_take (i := 27) (v := undef) rfl (by as_aux_lemma => kernel_rfl) (by as_aux_lemma => kernel_rfl) (by as_aux_lemma => kernel_rfl) (fun _ _ _ h => h) (Or.inr ⟨by kernel_rfl, rfl⟩) hS ?_
            refine wpAnyL_take (i := 28) (v := undef) rfl (by as_aux_lemma => kernel_rfl) (by as_aux_lemma => kernel_rfl) (by as_aux_lemma => kernel_rfl) (fun _ _ _ h => h) (Or.inr ⟨by kernel_rfl, rfl⟩) hS ?_
            refine wpAnyL_take (i := 29) (v := undef) rfl (by as_aux_lemma => kernel_rfl) (by as_aux_lemma => kernel_rfl) (by as_aux_lemma => kernel_rfl) (fun _ _ _ h => h) (Or.inr ⟨by kernel_rfl, rfl⟩) hS ?_
            refine wpAnyL_take (i := 30) (v := undef) rfl (by as_aux_lemma => kernel_rfl) (by as_aux_lemma => kernel_rfl) (by as_aux_lemma => kernel_rfl) (fun _ _ _ h => h) (Or.inr ⟨by kernel_rfl, rfl⟩) hS ?_
            refine wpAnyL_take (i := 31) (v := undef) rfl (by as_aux_lemma => kernel_rfl) (by as_aux_lemma => kernel_rfl) (by as_aux_lemma => kernel_rfl) (fun _ _ _ h => h) (Or.inr ⟨by kernel_rfl, rfl⟩) hS ?_
            refine wpAnyL_take (i := 32) (v := undef) rfl (by as_aux_lemma => kernel_rfl) (by as_aux_lemma => kernel_rfl) (by as_aux_lemma => kernel_rfl) (fun _ _ _ h => h) (Or.inr ⟨by kernel_rfl, rfl⟩) hS ?_
            refine wpAnyL_take (i := 33) (v := undef) rfl (by as_aux_lemma => kernel_rfl) (by as_aux_lemma => kernel_rfl) (by as_aux_lemma => kernel_rfl) (fun _ _ _ h => h) (Or.inr ⟨by kernel_rfl, rfl⟩) hS ?_
            refine wpAnyL_take (i := 34) (v := undef) rfl (by as_aux_lemma => kernel_rfl) (by as_aux_lemma => kernel_rfl) (by as_aux_lemma => kernel_rfl) (fun _ _ _ h => h) (Or.inr ⟨by kernel_rfl, rfl⟩) hS ?_
            refine wpAnyL_take (i := 35) (v := .bool false) rfl (by as_aux_lemma => kernel_rfl) (by as_aux_lemma => kernel_rfl) (by as_aux_lemma => kernel_rfl) (fun _ _ _ h => h) (Or.inl ⟨by kernel_rfl, ?_⟩) hS ?_
            · intro U hU
              obtain ⟨s0, s1, s2⟩ := hU
              kernel_rfl
            refine wpAnyL_take (i := 36) (v := .bool false) rfl (by as_aux_lemma => kernel_rfl) (by as_aux_lemma => kernel_rfl) (by as_aux_lemma => kernel_rfl) (fun _ _ _ h => h) (Or.inl ⟨by kernel_rfl, ?_⟩) hS ?_
            · intro U hU
              obtain ⟨s0, s1, s2⟩ := hU
              kernel_rfl
            refine wpAnyL_take (i := 37) (v := .int .i64 (i : Int)) rfl (by as_aux_lemma => kernel_rfl) (by as_aux_lemma => kernel_rfl) (by as_aux_lemma => kernel_rfl) (fun _ _ _ h => h) (Or.inl ⟨by kernel_rfl, ?_⟩) hS ?_
            · intro U hU
              obtain ⟨s0, s1, s2⟩ := hU
              kernel_rfl
            refine wpAnyL_take (i := 38) (v := .int .i64 (WB : Int)) rfl (by as_aux_lemma => kernel_rfl) (by as_aux_lemma => kernel_rfl) (by as_aux_lemma => kernel_rfl) (fun _ _ _ h => h) (Or.inl ⟨by kernel_rfl, ?_⟩) hS ?_
            · intro U hU
              obtain ⟨s0, s1, s2⟩ := hU
              kernel_rfl
            refine wpAnyL_take (i := 39) (v := .bool true) (by simp only [List.getElem?_toArray, List.getElem?_cons_succ, List.getElem?_cons_zero]; rfl) (by as_aux_lemma => kernel_rfl) (by as_aux_lemma => kernel_rfl) (by as_aux_lemma => kernel_rfl) (fun _ _ _ h => h) (Or.inl ⟨by kernel_rfl, ?_⟩) hS ?_
            · intro U hU
              obtain ⟨s0, s1, s2⟩ := hU
              refine exec_small (opv [(215, .int .i64 (i : Int)), (216, .int .i64 (WB : Int))]) (by kernel_rfl) ?_
              go_simp
            refine wpAnyL_take (i := 40) (v := .bool true) rfl (by as_aux_lemma => kernel_rfl) (by as_aux_lemma => kernel_rfl) (by as_aux_lemma => kernel_rfl) (fun _ _ _ h => h) (Or.inl ⟨by kernel_rfl, ?_⟩) hS ?_
            · intro U hU
              obtain ⟨s0, s1, s2⟩ := hU
              kernel_rfl
            refine wpAnyL_take (i := 41) (v := .slice (some ⟨bb, ob, none⟩) NB cb) rfl (by as_aux_lemma => kernel_rfl) (by as_aux_lemma => kernel_rfl) (by as_aux_lemma => kernel_rfl) (fun _ _ _ h => h) (Or.inl ⟨by kernel_rfl, ?_⟩) hS ?_
            · intro U hU
              obtain ⟨s0, s1, s2⟩ := hU
              kernel_rfl
            refine wpAnyL_take (i := 42) (v := .int .i64 (i : Int)) rfl (by as_aux_lemma => kernel_rfl) (by as_aux_lemma => kernel_rfl) (by as_aux_lemma => kernel_rfl) (fun _ _ _ h => h) (Or.inl ⟨by kernel_rfl, ?_⟩) hS ?_
            · intro U hU
              obtain ⟨s0, s1, s2⟩ := hU
              kernel_rfl
            refine wpAnyL_take (i := 43) (v := .pointer (some ⟨bb, ob + i * 4, none⟩)) (by simp only [List.getElem?_toArray, List.getElem?_cons_succ, List.getElem?_cons_zero]; rfl) (by as_aux_lemma => kernel_rfl) (by as_aux_lemma => kernel_rfl) (by as_aux_lemma => kernel_rfl) (fun _ _ _ h => h) (Or.inl ⟨by kernel_rfl, ?_⟩) hS ?_
            · intro U hU
              obtain ⟨s0, s1, s2⟩ := hU
              refine exec_small (opv [(219, .slice (some ⟨bb, ob, none⟩) NB cb), (220, .int .i64 (i : Int))]) (by kernel_rfl) ?_
              go_simp
            refine wpAnyL_take (i := 44) (v := .pointer (some ⟨bb, ob + i * 4 + 1, none⟩)) rfl (by as_aux_lemma => kernel_rfl) (by as_aux_lemma => kernel_rfl) (by as_aux_lemma => kernel_rfl) (fun _ _ _ h => h) (Or.inl ⟨by kernel_rfl, ?_⟩) hS ?_
            · intro U hU
              obtain ⟨s0, s1, s2⟩ := hU
              kernel_rfl
            refine wpAnyL_take (i := 45) (v := .int .i64 (f i).y0) rfl (by as_aux_lemma => kernel_rfl) (by as_aux_lemma => kernel_rfl) (by as_aux_lemma => kernel_rfl) (fun _ _ _ h => h) (Or.inl ⟨by kernel_rfl, ?_⟩) hS ?_
            · intro U hU
              obtain ⟨s0, s1, s2⟩ := hU
              exact exec_loadCell rfl (by kernel_rfl) s1 (by kernel_rfl)
            refine wpAnyL_take (i := 46) (v := .slice (some ⟨bb, ob, none⟩) NB cb) rfl (by as_aux_lemma => kernel_rfl) (by as_aux_lemma => kernel_rfl) (by as_aux_lemma => kernel_rfl) (fun _ _ _ h => h) (Or.inl ⟨by kernel_rfl, ?_⟩) hS ?_
            · intro U hU
              obtain ⟨s0, s1, s2⟩ := hU
              kernel_rfl
            refine wpAnyL_take (i := 47) (v := .int .i64 (i : Int)) rfl (by as_aux_lemma => kernel_rfl) (by as_aux_lemma => kernel_rfl) (by as_aux_lemma => kernel_rfl) (fun _ _ _ h => h) (Or.inl ⟨by kernel_rfl, ?_⟩) hS ?_
            · intro U hU
              obtain ⟨s0, s1, s2⟩ := hU
              kernel_rfl
            refine wpAnyL_take (i := 48) (v := .int .i64 (WB : Int)) rfl (by as_aux_lemma => kernel_rfl) (by as_aux_lemma => kernel_rfl) (by as_aux_lemma => kernel_rfl) (fun _ _ _ h => h) (Or.inl ⟨by kernel_rfl, ?_⟩) hS ?_
            · intro U hU
              obtain ⟨s0, s1, s2⟩ := hU
              kernel_rfl
            refine wpAnyL_take (i := 49) (v := .int .i64 (iw : Int)) (by simp only [List.getElem?_toArray, List.getElem?_cons_succ, List.getElem?_cons_zero]; rfl) (by as_aux_lemma => kernel_rfl) (by as_aux_lemma => kernel_rfl) (by as_aux_lemma => kernel_rfl) (fun _ _ _ h => h) (Or.inl ⟨by kernel_rfl, ?_⟩) hS ?_
            · intro U hU
              obtain ⟨s0, s1, s2⟩ := hU
              have hz := HIW.out
              refine exec_small (opv [(225, .int .i64 (i : Int)), (226, .int .i64 (WB : Int))]) (by kernel_rfl) ?_
              go_simp
            refine wpAnyL_take (i := 50) (v := .pointer (some ⟨bb, ob + iw * 4, none⟩)) (by simp only [List.getElem?_toArray, List.getElem?_cons_succ, List.getElem?_cons_zero]; rfl) (by as_aux_lemma => kernel_rfl) (by as_aux_lemma => kernel_rfl) (by as_aux_lemma => kernel_rfl) (fun _ _ _ h => h) (Or.inl ⟨by kernel_rfl, ?_⟩) hS ?_
            · intro U hU
              obtain ⟨s0, s1, s2⟩ := hU
              refine exec_small (opv [(224, .slice (some ⟨bb, ob, none⟩) NB cb), (227, .int .i64 (iw : Int))]) (by kernel_rfl) ?_
              go_simp
            refine wpAnyL_take (i := 51) (v := .pointer (some ⟨bb, ob + iw * 4 + 3, none⟩)) rfl (by as_aux_lemma => kernel_rfl) (by as_aux_lemma => kernel_rfl) (by as_aux_lemma => kernel_rfl) (fun _ _ _ h => h) (Or.inl ⟨by kernel_rfl, ?_⟩) hS ?_
            · intro U hU
              obtain ⟨s0, s1, s2⟩ := hU
              kernel_rfl
            refine wpAnyL_take (i := 52) (v := .int .i64 (f i).y0) rfl (by as_aux_lemma => kernel_rfl) (by as_aux_lemma => kernel_rfl) (by as_aux_lemma => kernel_rfl) (fun _ _ _ h => h) (Or.inl ⟨by kernel_rfl, ?_⟩) hS ?_
            · intro U hU
              obtain ⟨s0, s1, s2⟩ := hU
              exact exec_loadCell rfl (by kernel_rfl) s2 (by kernel_rfl)
            refine wpAnyL_take (i := 53) (v := .bool false) (by simp only [List.getElem?_toArray, List.getElem?_cons_succ, List.getElem?_cons_zero]; rfl) (by as_aux_lemma => kernel_rfl) (by as_aux_lemma => kernel_rfl) (by as_aux_lemma => kernel_rfl) (fun _ _ _ h => h) (Or.inl ⟨by kernel_rfl, ?_⟩) hS ?_
            · intro U hU
              obtain ⟨s0, s1, s2⟩ := hU
              refine exec_small (opv [(223, .int .i64 (f i).y0), (230, .int .i64 (f i).y0)]) (by kernel_rfl) ?_
              go_simp
            refine wpAnyL_take (i := 54) (v := .bool false) rfl (by as_aux_lemma => kernel_rfl) (by as_aux_lemma => kernel_rfl) (by as_aux_lemma => kernel_rfl) (fun _ _ _ h => h) (Or.inl ⟨by kernel_rfl, ?_⟩) hS ?_
            · intro U hU
              obtain ⟨s0, s1, s2⟩ := hU
              kernel_rfl
            refine wpAnyL_take (i := 55) (v := .bool false) rfl (by as_aux_lemma => kernel_rfl) (by as_aux_lemma => kernel_rfl) (by as_aux_lemma => kernel_rfl) (fun _ _ _ h => h) (Or.inl ⟨by kernel_rfl, ?_⟩) hS ?_
            · intro U hU
              obtain ⟨s0, s1, s2⟩ := hU
              kernel_rfl
            refine wpAnyL_done (by as_aux_lemma => kernel_rfl) (onlyN_mk ?_) _
            refine ⟨?_, bV⟩
            kernel_rfl
          rintro a' wz ⟨rfl, hz⟩
          simp only [Act.put, List.setIfInBounds_toArray, List.set_cons_zero, List.set_cons_succ]
          have hbz := hbk.trans (hz.mono hbk.size)
          go_wp2_with fail
          go_roundw
          case rel => exact ⟨i + 1, by omega, by go_num, hbz⟩
          case measure => simp [intOf]; omega
      · have k3 : ¬ WB ≤ i := by omega
        refine last_cut (by kernel_rfl) (fun U => U.cell? ⟨bb, ob + i * 4, none⟩ = some (.int .i64 (f i).x0) ∧ U.cell? ⟨bb, ob + i * 4 + 1, none⟩ = some (.int .i64 (f i).y0)) (fun aF a' W' => a' = ((((((((((((((((((((((((((((((((((((((((((((((((((((((((aF.put (some 178) (.int .i64 (i : Int))).put (some 179) (.bool false)).put (some 180) (.bool false)).put (some 181) (undef)).put (some 182) (undef)).put (some 183) (undef)).put (some 184) (undef)).put (some 185) (.bool false)).put (some 186) (.bool false)).put (some 187) (undef)).put (some 188) (undef)).put (some 189) (undef)).put (some 190) (undef)).put (some 191) (undef)).put (some 192) (undef)).put (some 193) (undef)).put (some 194) (undef)).put (some 195) (undef)).put (some 196) (undef)).put (some 197) (undef)).put (some 198) (undef)).put (some 199) (undef)).put (some 200) (undef)).put (some 201) (undef)).put (some 202) (undef)).put (some 203) (undef)).put (some 204) (undef)).put (some 205) (undef)).put (some 206) (undef)).put (some 207) (undef)).put (some 208) (undef)).put (some 209) (undef)).put (some 210) (undef)).put (some 211) (undef)).put (some 212) (undef)).put (some 213) (.bool false)).put (some 214) (.bool false)).put (some 215) (.int .i64 (i : Int))).put (some 216) (.int .i64 (WB : Int))).put (some 217) (.bool false)).put (some 218) (.bool false)).put (some 219) (undef)).put (some 220) (undef)).put (some 221) (undef)).put (some 222) (undef)).put (some 223) (undef)).put (some 224) (undef)).put (some 225) (undef)).put (some 226) (undef)).put (some 227) (undef)).put (some 228) (undef)).put (some 229) (undef)).put (some 230) (undef)).put (some 231) (undef)).put (some 232) (.bool false)).put (some 233) (.bool false)) ∧ Below wk.heap.size wk W') ⟨z0, z1'⟩ (fun hS => ?_) ?_
        · skip
          have hSB : ∀ U : World, Below (wk.heap.size) wk U → U.cell? ⟨bb, ob + i * 4, none⟩ = some (.int .i64 (f i).x0) ∧ U.cell? ⟨bb, ob + i * 4 + 1, none⟩ = some (.int .i64 (f i).y0) := fun U h => ⟨(h.cell (p := ⟨bb, ob + i * 4, none⟩) (by simp only; omega)).trans (z0), (h.cell (p := ⟨bb, ob + i * 4 + 1, none⟩) (by simp only; omega)).trans (z1')⟩
          have bV : Below wk.heap.size wk wk.drew := (Below.refl _ _).drew
          generalize wk.drew = V0 at *
          change wpAnyL _ _ _ _ _ 56 #[false, false, false, false, false, false, false, false, false, false, false, false, false, false, false, false, false, false, false, false, false, false, false, false, false, false, false, false, false, false, false, false, false, false, false, false, false, false, false, false, false, false, false, false, false, false, false, false, false, false, false, false, false, false, false, false] _ _
          refine wpAnyL_take (i := 0) (v := .int .i64 (i : Int)) rfl (by as_aux_lemma => kernel_rfl) (by as_aux_lemma => kernel_rfl) (by as_aux_lemma => kernel_rfl) (fun _ _ _ h => h) (Or.inl ⟨by kernel_rfl, ?_⟩) hS ?_
          · intro U hU
            obtain ⟨s0, s1⟩ := hU
            kernel_rfl
          refine wpAnyL_take (i := 1) (v := .bool false) (by simp only [List.getElem?_toArray, List.getElem?_cons_succ, List.getElem?_cons_zero]; rfl) (by as_aux_lemma => kernel_rfl) (by as_aux_lemma => kernel_rfl) (by as_aux_lemma => kernel_rfl) (fun _ _ _ h => h) (Or.inl ⟨by kernel_rfl, ?_⟩) hS ?_
          · intro U hU
            obtain ⟨s0, s1⟩ := hU
            refine exec_small (opv [(178, .int .i64 (i : Int))]) (by kernel_rfl) ?_
            go_simp
          refine wpAnyL_take (i := 2) (v := .bool false) rfl (by as_aux_lemma => kernel_rfl) (by as_aux_lemma => kernel_rfl) (by as_aux_lemma => kernel_rfl) (fun _ _ _ h => h) (Or.inl ⟨by kernel_rfl, ?_⟩) hS ?_
          · intro U hU
            obtain ⟨s0, s1⟩ := hU
            kernel_rfl
          refine wpAnyL_take (i := 3) (v := undef) rfl (by as_aux_lemma => kernel_rfl) (by as_aux_lemma => kernel_rfl) (by as_aux_lemma => kernel_rfl) (fun _ _ _ h => h) (Or.inr ⟨by kernel_rfl, rfl⟩) hS ?_
          refine wpAnyL_take (i := 4) (v := undef) rfl (by as_aux_lemma => kernel_rfl) (by as_aux_lemma => kernel_rfl) (by as_aux_lemma => kernel_rfl) (fun _ _ _ h => h) (Or.inr ⟨by kernel_rfl, rfl⟩) hS ?_
          refine wpAnyL_take (i := 5) (v := undef) rfl (by as_aux_lemma => kernel_rfl) (by as_aux_lemma => kernel_rfl) (by as_aux_lemma => kernel_rfl) (fun _ _ _ h => h) (Or.inr ⟨by kernel_rfl, rfl⟩) hS ?_
          refine wpAnyL_take (i := 6) (v := undef) rfl (by as_aux_lemma => kernel_rfl) (by as_aux_lemma => kernel_rfl) (by as_aux_lemma => kernel_rfl) (fun _ _ _ h => h) (Or.inr ⟨by kernel_rfl, rfl⟩) hS ?_
          refine wpAnyL_take (i := 7) (v := .bool false) rfl (by as_aux_lemma => kernel_rfl) (by as_aux_lemma => kernel_rfl) (by as_aux_lemma => kernel_rfl) (fun _ _ _ h => h) (Or.inl ⟨by kernel_rfl, ?_⟩) hS ?_
          · intro U hU
            obtain ⟨s0, s1⟩ := hU
            kernel_rfl
          refine wpAnyL_take (i := 8) (v := .bool false) rfl (by as_aux_lemma => kernel_rfl) (by as_aux_lemma => kernel_rfl) (by as_aux_lemma => kernel_rfl) (fun _ _ _ h => h) (Or.inl ⟨by kernel_rfl, ?_⟩) hS ?_
          · intro U hU
            obtain ⟨s0, s1⟩ := hU
            kernel_rfl
          refine wpAnyL_take (i := 9) (v := undef) rfl (by as_aux_lemma => kernel_rfl) (by as_aux_lemma => kernel_rfl) (by as_aux_lemma => kernel_rfl) (fun _ _ _ h => h) (Or.inr ⟨by kernel_rfl, rfl⟩) hS ?_
          refine wpAnyL_take (i := 10) (v := undef) rfl (by as_aux_lemma => kernel_rfl) (by as_aux_lemma => kernel_rfl) (by as_aux_lemma => kernel_rfl) (fun _ _ _ h => h) (Or.inr ⟨by kernel_rfl, rfl⟩) hS ?_
          refine wpAnyL_take (i := 11) (v := undef) rfl (by as_aux_lemma => kernel_rfl) (by as_aux_lemma => kernel_rfl) (by as_aux_lemma => kernel_rfl) (fun _ _ _ h => h) (Or.inr ⟨by kernel_rfl, rfl⟩) hS ?_
          refine wpAnyL_take (i := 12) (v := undef) rfl (by as_aux_lemma => kernel_rfl) (by as_aux_lemma => kernel_rfl) (by as_aux_lemma => kernel_rfl) (fun _ _ _ h => h) (Or.inr ⟨by kernel_rfl, rfl⟩) hS ?_
          refine wpAnyL_take (i := 13) (v := undef) rfl (by as_aux_lemma => kernel_rfl) (by as_aux_lemma => kernel_rfl) (by as_aux_lemma => kernel_rfl) (fun _ _ _ h => h) (Or.inr ⟨by kernel_rfl, rfl⟩) hS ?_
          refine wpAnyL_take (i := 14) (v := undef) rfl (by as_aux_lemma => kernel_rfl) (by as_aux_lemma => kernel_rfl) (by as_aux_lemma => kernel_rfl) (fun _ _ _ h => h) (Or.inr ⟨by kernel_rfl, rfl⟩) hS ?_
          refine wpAnyL_take (i := 15) (v := undef) rfl (by as_aux_lemma => kernel_rfl) (by as_aux_lemma => kernel_rfl) (by as_aux_lemma => kernel_rfl) (fun _ _ _ h => h) (Or.inr ⟨by kernel_rfl, rfl⟩) hS ?_
          refine wpAnyL_take (i := 16) (v := undef) rfl (by as_aux_lemma => kernel_rfl) (by as_aux_lemma => kernel_rfl) (by as_aux_lemma => kernel_rfl) (fun _ _ _ h => h) (Or.inr ⟨by kernel_rfl, rfl⟩) hS ?_
          refine wpAnyL_take (i := 17) (v := undef) rfl (by as_aux_lemma => kernel_rfl) (by as_aux_lemma => kernel_rfl) (by as_aux_lemma => kernel_rfl) (fun _ _ _ h => h) (Or.inr ⟨by kernel_rfl, rfl⟩) hS ?_
          refine wpAnyL_take (i := 18) (v := undef) rfl (by as_aux_lemma => kernel_rfl) (by as_aux_lemma => kernel_rfl) (by as_aux_lemma => kernel_rfl) (fun _ _ _ h => h) (Or.inr ⟨by kernel_rfl, rfl⟩) hS ?_
          refine wpAnyL_take (i := 19) (v := undef) rfl (by as_aux_lemma => kernel_rfl) (by as_aux_lemma => kernel_rfl) (by as_aux_lemma => kernel_rfl) (fun _ _ _ h => h) (Or.inr ⟨by kernel_rfl, rfl⟩) hS ?_
          refine wpAnyL_take (i := 20) (v := undef) rfl (by as_aux_lemma => kernel_rfl) (by as_aux_lemma => kernel_rfl) (by as_aux_lemma => kernel_rfl) (fun _ _ _ h => h) (Or.inr ⟨by kernel_rfl, rfl⟩) hS ?_
          refine wpAnyL_take (i := 21) (v := undef) rfl (by as_aux_lemma => kernel_rfl) (by as_aux_lemma => kernel_rfl) (by as_aux_lemma => kernel_rfl) (fun _ _ _ h => h) (Or.inr ⟨by kernel_rfl, rfl⟩) hS ?_
          refine wpAnyL_take (i := 22) (v := undef) rfl (by as_aux_lemma => kernel_rfl) (by as_aux_lemma => kernel_rfl) (by as_aux_lemma => kernel_rfl) (fun _ _ _ h => h) (Or.inr ⟨by kernel_rfl, rfl⟩) hS ?_
          refine wpAnyL_take (i := 23) (v := undef) rfl (by as_aux_lemma => kernel_rfl) (by as_aux_lemma => kernel_rfl) (by as_aux_lemma => kernel_rfl) (fun _ _ _ h => h) (Or.inr ⟨by kernel_rfl, rfl⟩) hS ?_
          refine wpAnyL_take (i := 24) (v := undef) rfl (by as_aux_lemma => kernel_rfl) (by as_aux_lemma => kernel_rfl) (by as_aux_lemma => kernel_rfl) (fun _ _ _ h => h) (Or.inr ⟨by kernel_rfl, rfl⟩) hS ?_
          refine wpAnyL_take (i := 25) (v := undef) rfl (by as_aux_lemma => kernel_rfl) (by as_aux_lemma => kernel_rfl) (by as_aux_lemma => kernel_rfl) (fun _ _ _ h => h) (Or.inr ⟨by kernel_rfl, rfl⟩) hS ?_
          refine wpAnyL_take (i := 26) (v := undef) rfl (by as_aux_lemma => kernel_rfl) (by as_aux_lemma => kernel_rfl) (by as_aux_lemma => kernel_rfl) (fun _ _ _ h => h) (Or.inr ⟨by kernel_rfl, rfl⟩) hS ?_
          refine wpAnyL_take (i := 27) (v := undef) rfl (by as_aux_lemma => kernel_rfl) (by as_aux_lemma => kernel_rfl) (by as_aux_lemma => kernel_rfl) (fun _ _ _ h => h) (Or.inr ⟨by kernel_rfl, rfl⟩) hS ?_
          refine wpAnyL_take (i := 28) (v := undef) rfl (by as_aux_lemma => kernel_rfl) (by as_aux_lemma => kernel_rfl) (by as_aux_lemma => kernel_rfl) (fun _ _ _ h => h) (Or.inr ⟨by kernel_rfl, rfl⟩) hS ?_
          refine wpAnyL_take (i := 29) (v := undef) rfl (by as_aux_lemma => kernel_rfl) (by as_aux_lemma => kernel_rfl) (by as_aux_lemma => kernel_rfl) (fun _ _ _ h => h) (Or.inr ⟨by kernel_rfl, rfl⟩) hS ?_
          refine wpAnyL_take (i := 30) (v := undef) rfl (by as_aux_lemma => kernel_rfl) (by as_aux_lemma => kernel_rfl) (by as_aux_lemma => kernel_rfl) (fun _ _ _ h => h) (Or.inr ⟨by kernel_rfl, rfl⟩) hS ?_
          refine wpAnyL_take (i := 31) (v := undef) rfl (by as_aux_lemma => kernel_rfl) (by as_aux_lemma => kernel_rfl) (by as_aux_lemma => kernel_rfl) (fun _ _ _ h => h) (Or.inr ⟨by kernel_rfl, rfl⟩) hS ?_
          refine wpAnyL_take (i := 32) (v := undef) rfl (by as_aux_lemma => kernel_rfl) (by as_aux_lemma => kernel_rfl) (by as_aux_lemma => kernel_rfl) (fun _ _ _ h => h) (Or.inr ⟨by kernel_rfl, rfl⟩) hS ?_
          refine wpAnyL_take (i := 33) (v := undef) rfl (by as_aux_lemma => kernel_rfl) (by as_aux_lemma => kernel_rfl) (by as_aux_lemma => kernel_rfl) (fun _ _ _ h => h) (Or.inr ⟨by kernel_rfl, rfl⟩) hS ?_
          refine wpAnyL_take (i := 34) (v := undef) rfl (by as_aux_lemma => kernel_rfl) (by as_aux_lemma => kernel_rfl) (by as_aux_lemma => kernel_rfl) (fun _ _ _ h => h) (Or.inr ⟨by kernel_rfl, rfl⟩) hS ?_
          refine wpAnyL_take (i := 35) (v := .bool false) rfl (by as_aux_lemma => kernel_rfl) (by as_aux_lemma => kernel_rfl) (by as_aux_lemma => kernel_rfl) (fun _ _ _ h => h) (Or.inl ⟨by kernel_rfl, ?_⟩) hS ?_
          · intro U hU
            obtain ⟨s0, s1⟩ := hU
            kernel_rfl
          refine wpAnyL_take (i := 36) (v := .bool false) rfl (by as_aux_lemma => kernel_rfl) (by as_aux_lemma => kernel_rfl) (by as_aux_lemma => kernel_rfl) (fun _ _ _ h => h) (Or.inl ⟨by kernel_rfl, ?_⟩) hS ?_
          · intro U hU
            obtain ⟨s0, s1⟩ := hU
            kernel_rfl
          refine wpAnyL_take (i := 37) (v := .int .i64 (i : Int)) rfl (by as_aux_lemma => kernel_rfl) (by as_aux_lemma => kernel_rfl) (by as_aux_lemma => kernel_rfl) (fun _ _ _ h => h) (Or.inl ⟨by kernel_rfl, ?_⟩) hS ?_
          · intro U hU
            obtain ⟨s0, s1⟩ := hU
            kernel_rfl
          refine wpAnyL_take (i := 38) (v := .int .i64 (WB : Int)) rfl (by as_aux_lemma => kernel_rfl) (by as_aux_lemma => kernel_rfl) (by as_aux_lemma => kernel_rfl) (fun _ _ _ h => h) (Or.inl ⟨by kernel_rfl, ?_⟩) hS ?_
          · intro U hU
            obtain ⟨s0, s1⟩ := hU
            kernel_rfl
          refine wpAnyL_take (i := 39) (v := .bool false) (by simp only [List.getElem?_toArray, List.getElem?_cons_succ, List.getElem?_cons_zero]; rfl) (by as_aux_lemma => kernel_rfl) (by as_aux_lemma => kernel_rfl) (by as_aux_lemma => kernel_rfl) (fun _ _ _ h => h) (Or.inl ⟨by kernel_rfl, ?_⟩) hS ?_
          · intro U hU
            obtain ⟨s0, s1⟩ := hU
            refine exec_small (opv [(215, .int .i64 (i : Int)), (216, .int .i64 (WB : Int))]) (by kernel_rfl) ?_
            go_simp
          refine wpAnyL_take (i := 40) (v := .bool false) rfl (by as_aux_lemma => kernel_rfl) (by as_aux_lemma => kernel_rfl) (by as_aux_lemma => kernel_rfl) (fun _ _ _ h => h) (Or.inl ⟨by kernel_rfl, ?_⟩) hS ?_
          · intro U hU
            obtain ⟨s0, s1⟩ := hU
            kernel_rfl
          refine wpAnyL_take (i := 41) (v := undef) rfl (by as_aux_lemma => kernel_rfl) (by as_aux_lemma => kernel_rfl) (by as_aux_lemma => kernel_rfl) (fun _ _ _ h => h) (Or.inr ⟨by kernel_rfl, rfl⟩) hS ?_
          refine wpAnyL_take (i := 42) (v := undef) rfl (by as_aux_lemma => kernel_rfl) (by as_aux_lemma => kernel_rfl) (by as_aux_lemma => kernel_rfl) (fun _ _ _ h => h) (Or.inr ⟨by kernel_rfl, rfl⟩) hS ?_
          refine wpAnyL_take (i := 43) (v := undef) rfl (by as_aux_lemma => kernel_rfl) (by as_aux_lemma => kernel_rfl) (by as_aux_lemma => kernel_rfl) (fun _ _ _ h => h) (Or.inr ⟨by kernel_rfl, rfl⟩) hS ?_
          refine wpAnyL_take (i := 44) (v := undef) rfl (by as_aux_lemma => kernel_rfl) (by as_aux_lemma => kernel_rfl) (by as_aux_lemma => kernel_rfl) (fun _ _ _ h => h) (Or.inr ⟨by kernel_rfl, rfl⟩) hS ?_
          refine wpAnyL_take (i := 45) (v := undef) rfl (by as_aux_lemma => kernel_rfl) (by as_aux_lemma => kernel_rfl) (by as_aux_lemma => kernel_rfl) (fun _ _ _ h => h) (Or.inr ⟨by kernel_rfl, rfl⟩) hS ?_
          refine wpAnyL_take (i := 46) (v := undef) rfl (by as_aux_lemma => kernel_rfl) (by as_aux_lemma => kernel_rfl) (by as_aux_lemma => kernel_rfl) (fun _ _ _ h => h) (Or.inr ⟨by kernel_rfl, rfl⟩) hS ?_
          refine wpAnyL_take (i := 47) (v := undef) rfl (by as_aux_lemma => kernel_rfl) (by as_aux_lemma => kernel_rfl) (by as_aux_lemma => kernel_rfl) (fun _ _ _ h => h) (Or.inr ⟨by kernel_rfl, rfl⟩) hS ?_
          refine wpAnyL_take (i := 48) (v := undef) rfl (by as_aux_lemma => kernel_rfl) (by as_aux_lemma => kernel_rfl) (by as_aux_lemma => kernel_rfl) (fun _ _ _ h => h) (Or.inr ⟨by kernel_rfl, rfl⟩) hS ?_
          refine wpAnyL_take (i := 49) (v := undef) rfl (by as_aux_lemma => kernel_rfl) (by as_aux_lemma => kernel_rfl) (by as_aux_lemma => kernel_rfl) (fun _ _ _ h => h) (Or.inr ⟨by kernel_rfl, rfl⟩) hS ?_
          refine wpAnyL_take (i := 50) (v := undef) rfl (by as_aux_lemma => kernel_rfl) (by as_aux_lemma => kernel_rfl) (by as_aux_lemma => kernel_rfl) (fun _ _ _ h => h) (Or.inr ⟨by kernel_rfl, rfl⟩) hS ?_
          refine wpAnyL_take (i := 51) (v := undef) rfl (by as_aux_lemma => kernel_rfl) (by as_aux_lemma => kernel_rfl) (by as_aux_lemma => kernel_rfl) (fun _ _ _ h => h) (Or.inr ⟨by kernel_rfl, rfl⟩) hS ?_
          refine wpAnyL_take (i := 52) (v := undef) rfl (by as_aux_lemma => kernel_rfl) (by as_aux_lemma => kernel_rfl) (by as_aux_lemma => kernel_rfl) (fun _ _ _ h => h) (Or.inr ⟨by kernel_rfl, rfl⟩) hS ?_
          refine wpAnyL_take (i := 53) (v := undef) rfl (by as_aux_lemma => kernel_rfl) (by as_aux_lemma => kernel_rfl) (by as_aux_lemma => kernel_rfl) (fun _ _ _ h => h) (Or.inr ⟨by kernel_rfl, rfl⟩) hS ?_
          refine wpAnyL_take (i := 54) (v := .bool false) rfl (by as_aux_lemma => kernel_rfl) (by as_aux_lemma => kernel_rfl) (by as_aux_lemma => kernel_rfl) (fun _ _ _ h => h) (Or.inl ⟨by kernel_rfl, ?_⟩) hS ?_
          · intro U hU
            obtain ⟨s0, s1⟩ := hU
            kernel_rfl
          refine wpAnyL_take (i := 55) (v := .bool false) rfl (by as_aux_lemma => kernel_rfl) (by as_aux_lemma => kernel_rfl) (by as_aux_lemma => kernel_rfl) (fun _ _ _ h => h) (Or.inl ⟨by kernel_rfl, ?_⟩) hS ?_
          · intro U hU
            obtain ⟨s0, s1⟩ := hU
            kernel_rfl
          refine wpAnyL_done (by as_aux_lemma => kernel_rfl) (onlyN_mk ?_) _
          refine ⟨?_, bV⟩
          kernel_rfl
        rintro a' wz ⟨rfl, hz⟩
        simp only [Act.put, List.setIfInBounds_toArray, List.set_cons_zero, List.set_cons_succ]
        have hbz := hbk.trans (hz.mono hbk.size)
        go_wp2_with fail
        go_roundw
        case rel => exact ⟨i + 1, by omega, by go_num, hbz⟩
        case measure => simp [intOf]; omega
    · obtain rfl : i = NB := by omega
      go_wp2_with fail
      first
        | exact hexit _ _ _ _ _ _ _ _ _ _ hbi
        | (apply hexit; exact hbi)
        | exact hbi
end Go.Proofs.Ytmieoifagnpbiaa
