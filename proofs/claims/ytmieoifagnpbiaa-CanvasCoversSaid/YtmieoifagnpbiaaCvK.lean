/- THE K LOOP of waveletlaw12.CanvasCovers: the precincts of a band are marked. -/
import Derived.Test.YtmieoifagnpbiaaCvI
import Derived.Deep.CutBlock
import Derived.Deep.LoopGhost
namespace Go.Proofs.Ytmieoifagnpbiaa
open Go.RowKit
attribute [local go_sem] opv opnd
set_option maxHeartbeats 40000000
set_option linter.unusedVariables false
set_option linter.unusedSimpArgs false
set_option maxRecDepth 1000000

theorem cvK_any {c0 c1 c2 c3 c5 c6 c7 c8 c12 c19 c20 c21 c22 c23 c24 c25 c26 c27 c28 c29 c30 c31 c32 c33 c34 c35 c36 c37 c38 c39 c40 c41 c42 c43 c44 c45 c46 c47 c48 c49 c50 c51 c52 c53 c54 c55 c56 c57 c58 c59 c60 c61 c62 c63 c64 c65 c66 c67 c68 c69 c70 c71 c72 c73 c74 c75 c76 c77 c78 c79 c80 c81 c82 c83 c84 c85 c86 c87 c88 c89 c90 c91 c92 c93 c94 c95 c96 c97 c98 c99 c100 c101 c102 c103 c104 c105 c106 c107 c108 c109 c110 c111 c112 c113 c114 c115 c116 c117 c118 c119 c120 c121 c122 c123 c124 c125 c126 c127 c128 c129 c130 c131 c132 c133 c134 c135 c136 c137 c138 c139 c140 c141 c142 c143 c144 c145 c146 c147 c148 c149 c150 c151 c152 c153 c154 c155 c156 c157 c158 c159 c160 c161 c162 c163 c164 c165 c166 c167 c168 c169 c170 c171 c172 c173 c174 c175 c176 c177 c178 c179 c180 c181 c182 c183 c184 c185 c186 c187 c188 c189 c190 c191 c192 c193 c194 c195 c196 c197 c198 c199 c200 c201 c202 c203 c204 c205 c206 c207 c208 c209 c210 c211 c212 c213 c214 c215 c216 c217 c218 c219 c220 c221 c222 c223 c224 c225 c226 c227 c228 c229 c230 c231 c232 c233 c234 c235 c236 c237 c238 c239 c240 c241 c242 c243 c244 c245 c246 c247 c248 c249 c250 c251 c252 c253 c254 c255 c256 c257 c258 c259 c260 c261 c262 c263 c264 c265 c266 c267 c268 c269 c270 c271 c272 c273 c274 c275 c276 c277 c278 c279 c280 c281 c282 c283 c284 c285 c286 c287 c288 c289 c290 c291 c292 c293 c294 c295 c296 c297 : Value} (gp gz bx ox BN cX en gs rn PW PH NK a0 : Nat) (d0 d1 d2 d3 : Int) (Wd Hd N : Nat) (Z0 Z1 Z2 Z3 : Int) (tx ty lv cw ch pr st od ly : Nat) (rct sop eph : Bool) (NBf WBf : Nat → Nat) (blk : Nat → Nat → Rc) (kf jf : Nat → Nat) (w : World) (hen : en < BN) (hBN : BN ≤ 3) (hWd : (Wd : Int) = d2 - d0) (hHd : (Hd : Int) = d3 - d1) (hN : Wd * Hd = N) (hd : (0 ≤ d0 ∧ d0 ≤ 64) ∧ (0 ≤ d1 ∧ d1 ≤ 64) ∧ (0 ≤ d2 ∧ d2 ≤ 64) ∧ (0 ≤ d3 ∧ d3 ≤ 64)) (ha0 : a0 ≤ 1099511627776) (hNK : PW * PH = NK) (hPW : PW ≤ 1048576) (hPH : PH ≤ 1048576) (lp : gp < gs) (lz : gz < gs) (lx : bx < gs) (e0 : w.cell? ⟨bx, ox + en * 4, none⟩ = some (.int .i64 d0)) (e1 : w.cell? ⟨bx, ox + en * 4 + 1, none⟩ = some (.int .i64 d1)) (e2 : w.cell? ⟨bx, ox + en * 4 + 2, none⟩ = some (.int .i64 d2)) (e3 : w.cell? ⟨bx, ox + en * 4 + 3, none⟩ = some (.int .i64 d3)) (par : w.heap[gp]? = some (.cells #[.int .i64 (tx : Int), .int .i64 (ty : Int), .int .i64 (lv : Int), .int .i64 (cw : Int), .int .i64 (ch : Int), .int .i64 (pr : Int), .int .i64 (st : Int), .int .i64 (od : Int), .int .i64 (ly : Int), .bool rct, .bool sop, .bool eph] 27 (0, 0))) (rz : w.heap[gz]? = some (.cells #[.int .i64 Z0, .int .i64 Z1, .int .i64 Z2, .int .i64 Z3] 53 (0, 0))) (hseen : w.heap[gs]? = some (.cells (csB (sI kf jf 0 0) N) 4 (0, 0))) (H1 : ∀ (kn : Nat) (v : World), kn < NK → Calls Try.prog 31 #[.agg #[.int .i64 d0, .int .i64 d1, .int .i64 d2, .int .i64 d3], .agg #[.int .i64 Z0, .int .i64 Z1, .int .i64 Z2, .int .i64 Z3], .agg #[.int .i64 (tx : Int), .int .i64 (ty : Int), .int .i64 (lv : Int), .int .i64 (cw : Int), .int .i64 (ch : Int), .int .i64 (pr : Int), .int .i64 (st : Int), .int .i64 (od : Int), .int .i64 (ly : Int), .bool rct, .bool sop, .bool eph], .int .i64 (rn : Int), .int .i64 (kn : Int)] v fun e' w' => ∃ A c, e' = .returned (.tuple #[.slice A (NBf kn) c, .int .i64 ((WBf kn : Nat) : Int)]) ∧ OwnC w' v.heap.size 53 4 (.slice A (NBf kn) c) (NBf kn) (fun i => rcL (blk kn i)) ∧ Below v.heap.size v w') (hNBb : ∀ k, k < NK → NBf k ≤ 1048576) (hne : ∀ k i, k < NK → i < NBf k → (blk k i).x0 < (blk k i).x1 ∧ (blk k i).y0 < (blk k i).y1) (hA : ∀ k i, k < NK → i < NBf k → ∀ x y, inR (blk k i) x y → inR ⟨d0, d1, d2, d3⟩ x y ∧ kf (pN ⟨d0, d1, d2, d3⟩ Wd x y) = k ∧ jf (pN ⟨d0, d1, d2, d3⟩ Wd x y) = i) (hB : ∀ p, p < N → kf p < NK ∧ jf p < NBf (kf p) ∧ inR (blk (kf p) (jf p)) (pX ⟨d0, d1, d2, d3⟩ Wd p) (pY ⟨d0, d1, d2, d3⟩ Wd p)) (QQ : Exit → Act → World → Prop) (hexit : ∀ (u2 u18 u19 u20 u21 u22 u23 u24 u158 u159 u160 u161 u162 u163 u164 u165 u166 u167 u168 u169 u170 u171 u172 u173 u174 u175 u176 u177 u178 u179 u180 u181 u182 u183 u184 u185 u186 u187 u188 u189 u190 u191 u192 u193 u194 u195 u196 u197 u198 u199 u200 u201 u202 u203 u204 u205 u206 u207 u208 u209 u210 u211 u212 u213 u214 u215 u216 u217 u218 u219 u220 u221 u222 u223 u224 u225 u226 u227 u228 u229 u230 u231 u232 u233 u234 u235 u236 u237 u238 u239 u240 u241 u242 u243 u244 u245 u246 u247 u248 u249 u250 u251 u252 u253 u254 u255 u256 u257 u258 u259 u260 u261 u262 u263 u264 u265 u266 u267 u268 u269 u270 u271 u272 u273 u274 u275 u276 u277 u278 u279 u280 u281 u282 : Value) (w' : World), (Below gs w w' ∧ w'.heap[gs]? = some (.cells (csB (sI kf jf NK 0) N) 4 (0, 0))) → QQ (.exit 6) ⟨List.toArray (c0 :: c1 :: u2 :: c3 :: Value.pointer (some ⟨gp, 0, none⟩) :: c5 :: c6 :: c7 :: c8 :: Value.int .i64 ((a0 + cntB (sI kf jf NK 0) N : Nat) : Int) :: Value.int .i64 (rn : Int) :: Value.pointer (some ⟨gz, 0, none⟩) :: c12 :: Value.slice (some ⟨bx, ox, none⟩) BN cX :: Value.int .i64 (PW : Int) :: Value.int .i64 (PH : Int) :: Value.int .i64 (en : Int) :: Value.slice (some ⟨gs, 0, none⟩) N N :: u18 :: u19 :: u20 :: u21 :: u22 :: u23 :: u24 :: c25 :: c26 :: c27 :: c28 :: c29 :: c30 :: c31 :: c32 :: c33 :: c34 :: c35 :: c36 :: c37 :: c38 :: c39 :: c40 :: c41 :: c42 :: c43 :: c44 :: c45 :: c46 :: c47 :: c48 :: c49 :: c50 :: c51 :: c52 :: c53 :: c54 :: c55 :: c56 :: c57 :: c58 :: c59 :: c60 :: c61 :: c62 :: c63 :: c64 :: c65 :: c66 :: c67 :: c68 :: c69 :: c70 :: c71 :: c72 :: c73 :: c74 :: c75 :: c76 :: c77 :: c78 :: c79 :: c80 :: c81 :: c82 :: c83 :: c84 :: c85 :: c86 :: c87 :: c88 :: c89 :: c90 :: c91 :: c92 :: c93 :: c94 :: c95 :: c96 :: c97 :: c98 :: c99 :: c100 :: c101 :: c102 :: c103 :: c104 :: c105 :: c106 :: c107 :: c108 :: c109 :: c110 :: c111 :: c112 :: c113 :: c114 :: c115 :: c116 :: c117 :: c118 :: c119 :: c120 :: c121 :: c122 :: c123 :: c124 :: c125 :: c126 :: c127 :: c128 :: c129 :: c130 :: c131 :: c132 :: c133 :: c134 :: c135 :: c136 :: c137 :: c138 :: c139 :: c140 :: c141 :: c142 :: c143 :: c144 :: c145 :: c146 :: c147 :: c148 :: c149 :: c150 :: c151 :: c152 :: c153 :: c154 :: c155 :: c156 :: c157 :: u158 :: u159 :: u160 :: u161 :: u162 :: u163 :: u164 :: u165 :: u166 :: u167 :: u168 :: u169 :: u170 :: u171 :: u172 :: u173 :: u174 :: u175 :: u176 :: u177 :: u178 :: u179 :: u180 :: u181 :: u182 :: u183 :: u184 :: u185 :: u186 :: u187 :: u188 :: u189 :: u190 :: u191 :: u192 :: u193 :: u194 :: u195 :: u196 :: u197 :: u198 :: u199 :: u200 :: u201 :: u202 :: u203 :: u204 :: u205 :: u206 :: u207 :: u208 :: u209 :: u210 :: u211 :: u212 :: u213 :: u214 :: u215 :: u216 :: u217 :: u218 :: u219 :: u220 :: u221 :: u222 :: u223 :: u224 :: u225 :: u226 :: u227 :: u228 :: u229 :: u230 :: u231 :: u232 :: u233 :: u234 :: u235 :: u236 :: u237 :: u238 :: u239 :: u240 :: u241 :: u242 :: u243 :: u244 :: u245 :: u246 :: u247 :: u248 :: u249 :: u250 :: u251 :: u252 :: u253 :: u254 :: u255 :: u256 :: u257 :: u258 :: u259 :: u260 :: u261 :: u262 :: u263 :: u264 :: u265 :: u266 :: u267 :: u268 :: u269 :: u270 :: u271 :: u272 :: u273 :: u274 :: u275 :: u276 :: u277 :: u278 :: u279 :: u280 :: u281 :: u282 :: c283 :: c284 :: c285 :: c286 :: c287 :: c288 :: c289 :: c290 :: c291 :: c292 :: c293 :: c294 :: c295 :: c296 :: c297 :: []), []⟩ w') :
    Code.wp Try.prog (Code.loop cvK) QQ ⟨List.toArray (c0 :: c1 :: c2 :: c3 :: Value.pointer (some ⟨gp, 0, none⟩) :: c5 :: c6 :: c7 :: c8 :: Value.int .i64 ((a0 + cntB (sI kf jf 0 0) N : Nat) : Int) :: Value.int .i64 (rn : Int) :: Value.pointer (some ⟨gz, 0, none⟩) :: c12 :: Value.slice (some ⟨bx, ox, none⟩) BN cX :: Value.int .i64 (PW : Int) :: Value.int .i64 (PH : Int) :: Value.int .i64 (en : Int) :: Value.slice (some ⟨gs, 0, none⟩) N N :: Value.int .i64 0 :: c19 :: c20 :: c21 :: c22 :: c23 :: c24 :: c25 :: c26 :: c27 :: c28 :: c29 :: c30 :: c31 :: c32 :: c33 :: c34 :: c35 :: c36 :: c37 :: c38 :: c39 :: c40 :: c41 :: c42 :: c43 :: c44 :: c45 :: c46 :: c47 :: c48 :: c49 :: c50 :: c51 :: c52 :: c53 :: c54 :: c55 :: c56 :: c57 :: c58 :: c59 :: c60 :: c61 :: c62 :: c63 :: c64 :: c65 :: c66 :: c67 :: c68 :: c69 :: c70 :: c71 :: c72 :: c73 :: c74 :: c75 :: c76 :: c77 :: c78 :: c79 :: c80 :: c81 :: c82 :: c83 :: c84 :: c85 :: c86 :: c87 :: c88 :: c89 :: c90 :: c91 :: c92 :: c93 :: c94 :: c95 :: c96 :: c97 :: c98 :: c99 :: c100 :: c101 :: c102 :: c103 :: c104 :: c105 :: c106 :: c107 :: c108 :: c109 :: c110 :: c111 :: c112 :: c113 :: c114 :: c115 :: c116 :: c117 :: c118 :: c119 :: c120 :: c121 :: c122 :: c123 :: c124 :: c125 :: c126 :: c127 :: c128 :: c129 :: c130 :: c131 :: c132 :: c133 :: c134 :: c135 :: c136 :: c137 :: c138 :: c139 :: c140 :: c141 :: c142 :: c143 :: c144 :: c145 :: c146 :: c147 :: c148 :: c149 :: c150 :: c151 :: c152 :: c153 :: c154 :: c155 :: c156 :: c157 :: c158 :: c159 :: c160 :: c161 :: c162 :: c163 :: c164 :: c165 :: c166 :: c167 :: c168 :: c169 :: c170 :: c171 :: c172 :: c173 :: c174 :: c175 :: c176 :: c177 :: c178 :: c179 :: c180 :: c181 :: c182 :: c183 :: c184 :: c185 :: c186 :: c187 :: c188 :: c189 :: c190 :: c191 :: c192 :: c193 :: c194 :: c195 :: c196 :: c197 :: c198 :: c199 :: c200 :: c201 :: c202 :: c203 :: c204 :: c205 :: c206 :: c207 :: c208 :: c209 :: c210 :: c211 :: c212 :: c213 :: c214 :: c215 :: c216 :: c217 :: c218 :: c219 :: c220 :: c221 :: c222 :: c223 :: c224 :: c225 :: c226 :: c227 :: c228 :: c229 :: c230 :: c231 :: c232 :: c233 :: c234 :: c235 :: c236 :: c237 :: c238 :: c239 :: c240 :: c241 :: c242 :: c243 :: c244 :: c245 :: c246 :: c247 :: c248 :: c249 :: c250 :: c251 :: c252 :: c253 :: c254 :: c255 :: c256 :: c257 :: c258 :: c259 :: c260 :: c261 :: c262 :: c263 :: c264 :: c265 :: c266 :: c267 :: c268 :: c269 :: c270 :: c271 :: c272 :: c273 :: c274 :: c275 :: c276 :: c277 :: c278 :: c279 :: c280 :: c281 :: c282 :: c283 :: c284 :: c285 :: c286 :: c287 :: c288 :: c289 :: c290 :: c291 :: c292 :: c293 :: c294 :: c295 :: c296 :: c297 :: []), []⟩ w := by
  have hNKb : NK ≤ 1099511627776 := by
    rw [← hNK]
    exact Nat.mul_le_mul hPW hPH
  have wNK : IntKind.i64.wrap ((PW : Int) * PH) = (NK : Int) := by rw [show (PW : Int) * PH = ((PW * PH : Nat) : Int) from (Int.natCast_mul _ _).symm, hNK]; exact wr (by omega)
  have G1 := Lib.hid H1
  have HA := Lib.hid hA
  have HB := Lib.hid hB
  have HNE := Lib.hid hne
  have HNB := Lib.hid hNBb
  have HNN := Lib.hid hN
  clear H1 hA hB hne hNBb hNK
  conv => arg 2; arg 1; whnf
  go_loopw [9, 18] (fun al v wr => ∃ kn : Nat, kn ≤ NK ∧ v = .int .i64 (kn : Int) ∧ al = .int .i64 ((a0 + cntB (sI kf jf kn 0) N : Nat) : Int) ∧ Below gs w wr ∧ wr.heap[gs]? = some (.cells (csB (sI kf jf kn 0) N) 4 (0, 0))) (fun _ v _ => NK - (intOf v).toNat)
  case atStart => exact ⟨0, Nat.zero_le _, rfl, rfl, Below.refl _ _, hseen⟩
  case round =>
    obtain ⟨kn, hkn, rfl, rfl, hbe, hsn⟩ := hrel
    obtain ⟨wa, hwa⟩ : ∃ wa, wa = wr := ⟨_, rfl⟩
    subst hwa
    have lgs : gs < wa.heap.size := (Array.getElem?_eq_some_iff.1 hsn).1
    by_cases hlt : kn < NK
    · have par1 := (hbe.block gp lp).trans par
      have rz1 := (hbe.block gz lz).trans rz
      have e0' := (hbe.cell (p := ⟨bx, ox + en * 4, none⟩) lx).trans e0
      have e1' := (hbe.cell (p := ⟨bx, ox + en * 4 + 1, none⟩) lx).trans e1
      have e2' := (hbe.cell (p := ⟨bx, ox + en * 4 + 2, none⟩) lx).trans e2
      have e3' := (hbe.cell (p := ⟨bx, ox + en * 4 + 3, none⟩) lx).trans e3
      have hsz : gs ≤ wa.heap.size := Nat.le_of_lt lgs
      have hen3 : en < 3 := by omega
      obtain ⟨cn, hcn⟩ : ∃ z, a0 + cntB (sI kf jf kn 0) N = z := ⟨_, rfl⟩
      have HCN := Lib.hid hcn
      rw [hcn]
      clear hcn
      go_upto_region 29 with fail
      refine last_cut (by kernel_rfl) (fun U => U.heap[gp]? = some (.cells #[.int .i64 (tx : Int), .int .i64 (ty : Int), .int .i64 (lv : Int), .int .i64 (cw : Int), .int .i64 (ch : Int), .int .i64 (pr : Int), .int .i64 (st : Int), .int .i64 (od : Int), .int .i64 (ly : Int), .bool rct, .bool sop, .bool eph] 27 (0, 0)) ∧ U.heap[gz]? = some (.cells #[.int .i64 Z0, .int .i64 Z1, .int .i64 Z2, .int .i64 Z3] 53 (0, 0)) ∧ U.cell? ⟨bx, ox + en * 4, none⟩ = some (.int .i64 d0) ∧ U.cell? ⟨bx, ox + en * 4 + 1, none⟩ = some (.int .i64 d1) ∧ U.cell? ⟨bx, ox + en * 4 + 2, none⟩ = some (.int .i64 d2) ∧ U.cell? ⟨bx, ox + en * 4 + 3, none⟩ = some (.int .i64 d3)) (fun aF a' W' => ∃ Ab cb, a' = ((((((((((((((aF.put (some 166) (.slice (some ⟨bx, ox, none⟩) BN cX)).put (some 167) (.int .i64 (en : Int))).put (some 168) (.pointer (some ⟨bx, ox + en * 4, none⟩))).put (some 169) (.agg #[.int .i64 d0, .int .i64 d1, .int .i64 d2, .int .i64 d3])).put (some 170) (.agg #[.int .i64 Z0, .int .i64 Z1, .int .i64 Z2, .int .i64 Z3])).put (some 171) (.agg #[.int .i64 (tx : Int), .int .i64 (ty : Int), .int .i64 (lv : Int), .int .i64 (cw : Int), .int .i64 (ch : Int), .int .i64 (pr : Int), .int .i64 (st : Int), .int .i64 (od : Int), .int .i64 (ly : Int), .bool rct, .bool sop, .bool eph])).put (some 172) (.int .i64 (rn : Int))).put (some 173) (.int .i64 (kn : Int))).put (some 174) (.tuple #[.slice Ab (NBf kn) cb, .int .i64 ((WBf kn : Nat) : Int)])).put (some 165) (.tuple #[.slice Ab (NBf kn) cb, .int .i64 ((WBf kn : Nat) : Int)])).put (some 175) (.slice Ab (NBf kn) cb)).put (some 176) (.int .i64 ((WBf kn : Nat) : Int))).put (some 19) (.slice Ab (NBf kn) cb)).put (some 20) (.int .i64 ((WBf kn : Nat) : Int))) ∧ OwnC W' wa.heap.size 53 4 (.slice Ab (NBf kn) cb) (NBf kn) (fun i => rcL (blk kn i)) ∧ Below wa.heap.size wa W') ⟨par1, rz1, e0', e1', e2', e3'⟩ (fun hS => ?_) ?_
      · skip
        have hSB : ∀ U : World, Below (gs) wa U → U.heap[gp]? = some (.cells #[.int .i64 (tx : Int), .int .i64 (ty : Int), .int .i64 (lv : Int), .int .i64 (cw : Int), .int .i64 (ch : Int), .int .i64 (pr : Int), .int .i64 (st : Int), .int .i64 (od : Int), .int .i64 (ly : Int), .bool rct, .bool sop, .bool eph] 27 (0, 0)) ∧ U.heap[gz]? = some (.cells #[.int .i64 Z0, .int .i64 Z1, .int .i64 Z2, .int .i64 Z3] 53 (0, 0)) ∧ U.cell? ⟨bx, ox + en * 4, none⟩ = some (.int .i64 d0) ∧ U.cell? ⟨bx, ox + en * 4 + 1, none⟩ = some (.int .i64 d1) ∧ U.cell? ⟨bx, ox + en * 4 + 2, none⟩ = some (.int .i64 d2) ∧ U.cell? ⟨bx, ox + en * 4 + 3, none⟩ = some (.int .i64 d3) := fun U h => ⟨(h.block (gp) (by omega)).trans (par1), (h.block (gz) (by omega)).trans (rz1), (h.cell (p := ⟨bx, ox + en * 4, none⟩) (by simp only; omega)).trans (e0'), (h.cell (p := ⟨bx, ox + en * 4 + 1, none⟩) (by simp only; omega)).trans (e1'), (h.cell (p := ⟨bx, ox + en * 4 + 2, none⟩) (by simp only; omega)).trans (e2'), (h.cell (p := ⟨bx, ox + en * 4 + 3, none⟩) (by simp only; omega)).trans (e3')⟩
        have bV : Below wa.heap.size wa wa.drew := (Below.refl _ _).drew
        generalize wa.drew = V0 at *
        change wpAnyL _ _ _ _ _ 14 #[false, false, false, false, false, false, false, false, false, false, false, false, false, false] _ _
        refine wpAnyL_take (i := 0) (v := .slice (some ⟨bx, ox, none⟩) BN cX) (by simp only [List.getElem?_toArray, List.getElem?_cons_succ, List.getElem?_cons_zero]; rfl) (by as_aux_lemma => kernel_rfl) (by as_aux_lemma => kernel_rfl) (by as_aux_lemma => kernel_rfl) (fun _ _ _ h => h) (Or.inl ⟨by rfl, ?_⟩) hS ?_
        · intro U hU
          obtain ⟨s0, s1, s2, s3, s4, s5⟩ := hU
          kernel_rfl
        simp only [Act.put, List.setIfInBounds_toArray, List.set_cons_zero, List.set_cons_succ]
        refine wpAnyL_take (i := 1) (v := .int .i64 (en : Int)) (by simp only [List.getElem?_toArray, List.getElem?_cons_succ, List.getElem?_cons_zero]; rfl) (by as_aux_lemma => kernel_rfl) (by as_aux_lemma => kernel_rfl) (by as_aux_lemma => kernel_rfl) (fun _ _ _ h => h) (Or.inl ⟨by rfl, ?_⟩) hS ?_
        · intro U hU
          obtain ⟨s0, s1, s2, s3, s4, s5⟩ := hU
          kernel_rfl
        simp only [Act.put, List.setIfInBounds_toArray, List.set_cons_zero, List.set_cons_succ]
        refine wpAnyL_take (i := 2) (v := .pointer (some ⟨bx, ox + en * 4, none⟩)) (by simp only [List.getElem?_toArray, List.getElem?_cons_succ, List.getElem?_cons_zero]; rfl) (by as_aux_lemma => kernel_rfl) (by as_aux_lemma => kernel_rfl) (by as_aux_lemma => kernel_rfl) (fun _ _ _ h => h) (Or.inl ⟨by rfl, ?_⟩) hS ?_
        · intro U hU
          obtain ⟨s0, s1, s2, s3, s4, s5⟩ := hU
          go_simp
        simp only [Act.put, List.setIfInBounds_toArray, List.set_cons_zero, List.set_cons_succ]
        refine wpAnyL_take (i := 3) (v := .agg #[.int .i64 d0, .int .i64 d1, .int .i64 d2, .int .i64 d3]) (by simp only [List.getElem?_toArray, List.getElem?_cons_succ, List.getElem?_cons_zero]; rfl) (by as_aux_lemma => kernel_rfl) (by as_aux_lemma => kernel_rfl) (by as_aux_lemma => kernel_rfl) (fun _ _ _ h => h) (Or.inl ⟨by rfl, ?_⟩) hS ?_
        · intro U hU
          obtain ⟨s0, s1, s2, s3, s4, s5⟩ := hU
          go_simp
        simp only [Act.put, List.setIfInBounds_toArray, List.set_cons_zero, List.set_cons_succ]
        refine wpAnyL_take (i := 4) (v := .agg #[.int .i64 Z0, .int .i64 Z1, .int .i64 Z2, .int .i64 Z3]) (by simp only [List.getElem?_toArray, List.getElem?_cons_succ, List.getElem?_cons_zero]; rfl) (by as_aux_lemma => kernel_rfl) (by as_aux_lemma => kernel_rfl) (by as_aux_lemma => kernel_rfl) (fun _ _ _ h => h) (Or.inl ⟨by rfl, ?_⟩) hS ?_
        · intro U hU
          obtain ⟨s0, s1, s2, s3, s4, s5⟩ := hU
          exact exec_loadRow (cs := [.int .i64 Z0, .int .i64 Z1, .int .i64 Z2, .int .i64 Z3]) rfl rfl s1 (by kernel_rfl) (by kernel_rfl)
        simp only [Act.put, List.setIfInBounds_toArray, List.set_cons_zero, List.set_cons_succ]
        refine wpAnyL_take (i := 5) (v := .agg #[.int .i64 (tx : Int), .int .i64 (ty : Int), .int .i64 (lv : Int), .int .i64 (cw : Int), .int .i64 (ch : Int), .int .i64 (pr : Int), .int .i64 (st : Int), .int .i64 (od : Int), .int .i64 (ly : Int), .bool rct, .bool sop, .bool eph]) (by simp only [List.getElem?_toArray, List.getElem?_cons_succ, List.getElem?_cons_zero]; rfl) (by as_aux_lemma => kernel_rfl) (by as_aux_lemma => kernel_rfl) (by as_aux_lemma => kernel_rfl) (fun _ _ _ h => h) (Or.inl ⟨by rfl, ?_⟩) hS ?_
        · intro U hU
          obtain ⟨s0, s1, s2, s3, s4, s5⟩ := hU
          exact exec_loadRow (cs := [.int .i64 (tx : Int), .int .i64 (ty : Int), .int .i64 (lv : Int), .int .i64 (cw : Int), .int .i64 (ch : Int), .int .i64 (pr : Int), .int .i64 (st : Int), .int .i64 (od : Int), .int .i64 (ly : Int), .bool rct, .bool sop, .bool eph]) rfl rfl s0 (by kernel_rfl) (by kernel_rfl)
        simp only [Act.put, List.setIfInBounds_toArray, List.set_cons_zero, List.set_cons_succ]
        refine wpAnyL_take (i := 6) (v := .int .i64 (rn : Int)) (by simp only [List.getElem?_toArray, List.getElem?_cons_succ, List.getElem?_cons_zero]; rfl) (by as_aux_lemma => kernel_rfl) (by as_aux_lemma => kernel_rfl) (by as_aux_lemma => kernel_rfl) (fun _ _ _ h => h) (Or.inl ⟨by rfl, ?_⟩) hS ?_
        · intro U hU
          obtain ⟨s0, s1, s2, s3, s4, s5⟩ := hU
          kernel_rfl
        simp only [Act.put, List.setIfInBounds_toArray, List.set_cons_zero, List.set_cons_succ]
        refine wpAnyL_take (i := 7) (v := .int .i64 (kn : Int)) (by simp only [List.getElem?_toArray, List.getElem?_cons_succ, List.getElem?_cons_zero]; rfl) (by as_aux_lemma => kernel_rfl) (by as_aux_lemma => kernel_rfl) (by as_aux_lemma => kernel_rfl) (fun _ _ _ h => h) (Or.inl ⟨by rfl, ?_⟩) hS ?_
        · intro U hU
          obtain ⟨s0, s1, s2, s3, s4, s5⟩ := hU
          kernel_rfl
        simp only [Act.put, List.setIfInBounds_toArray, List.set_cons_zero, List.set_cons_succ]
        refine wpAnyL_ready (rs := [8]) (by as_aux_lemma => kernel_rfl) (by simp) ?_
        refine AllReadyL.cons (by simp only [List.getElem?_toArray, List.getElem?_cons_succ, List.getElem?_cons_zero]; rfl) (fun K' hK' => ?_) AllReadyL.nil
        go_simp
        go_at_call 31
        refine (G1.out kn _ hlt).mono ?_
        rintro e' U8 ⟨Ab, cb, rfl, oB, hb8⟩
        have b8 := below_trans bV hb8
        have hS := hSB _ (b8.mono hsz)
        have oB := oB.mono (bV.size)
        dsimp only
        refine hK'.out _ _ hS (fun _ => ?_)
        clear hb8
        clear hK' K'
        try simp only [Act.put, List.setIfInBounds_toArray, List.set_cons_zero, List.set_cons_succ]
        refine wpAnyL_take (i := 9) (v := .tuple #[.slice Ab (NBf kn) cb, .int .i64 ((WBf kn : Nat) : Int)]) (by simp only [List.getElem?_toArray, List.getElem?_cons_succ, List.getElem?_cons_zero]; rfl) (by as_aux_lemma => kernel_rfl) (by as_aux_lemma => kernel_rfl) (by as_aux_lemma => kernel_rfl) (fun _ _ _ h => h) (Or.inl ⟨by rfl, ?_⟩) hS ?_
        · intro U hU
          obtain ⟨s0, s1, s2, s3, s4, s5⟩ := hU
          kernel_rfl
        simp only [Act.put, List.setIfInBounds_toArray, List.set_cons_zero, List.set_cons_succ]
        refine wpAnyL_take (i := 10) (v := .slice Ab (NBf kn) cb) (by simp only [List.getElem?_toArray, List.getElem?_cons_succ, List.getElem?_cons_zero]; rfl) (by as_aux_lemma => kernel_rfl) (by as_aux_lemma => kernel_rfl) (by as_aux_lemma => kernel_rfl) (fun _ _ _ h => h) (Or.inl ⟨by rfl, ?_⟩) hS ?_
        · intro U hU
          obtain ⟨s0, s1, s2, s3, s4, s5⟩ := hU
          kernel_rfl
        simp only [Act.put, List.setIfInBounds_toArray, List.set_cons_zero, List.set_cons_succ]
        refine wpAnyL_take (i := 11) (v := .int .i64 ((WBf kn : Nat) : Int)) (by simp only [List.getElem?_toArray, List.getElem?_cons_succ, List.getElem?_cons_zero]; rfl) (by as_aux_lemma => kernel_rfl) (by as_aux_lemma => kernel_rfl) (by as_aux_lemma => kernel_rfl) (fun _ _ _ h => h) (Or.inl ⟨by rfl, ?_⟩) hS ?_
        · intro U hU
          obtain ⟨s0, s1, s2, s3, s4, s5⟩ := hU
          kernel_rfl
        simp only [Act.put, List.setIfInBounds_toArray, List.set_cons_zero, List.set_cons_succ]
        refine wpAnyL_take (i := 12) (v := .slice Ab (NBf kn) cb) (by simp only [List.getElem?_toArray, List.getElem?_cons_succ, List.getElem?_cons_zero]; rfl) (by as_aux_lemma => kernel_rfl) (by as_aux_lemma => kernel_rfl) (by as_aux_lemma => kernel_rfl) (fun _ _ _ h => h) (Or.inl ⟨by rfl, ?_⟩) hS ?_
        · intro U hU
          obtain ⟨s0, s1, s2, s3, s4, s5⟩ := hU
          kernel_rfl
        simp only [Act.put, List.setIfInBounds_toArray, List.set_cons_zero, List.set_cons_succ]
        refine wpAnyL_take (i := 13) (v := .int .i64 ((WBf kn : Nat) : Int)) (by simp only [List.getElem?_toArray, List.getElem?_cons_succ, List.getElem?_cons_zero]; rfl) (by as_aux_lemma => kernel_rfl) (by as_aux_lemma => kernel_rfl) (by as_aux_lemma => kernel_rfl) (fun _ _ _ h => h) (Or.inl ⟨by rfl, ?_⟩) hS ?_
        · intro U hU
          obtain ⟨s0, s1, s2, s3, s4, s5⟩ := hU
          kernel_rfl
        simp only [Act.put, List.setIfInBounds_toArray, List.set_cons_zero, List.set_cons_succ]
        refine wpAnyL_done (by as_aux_lemma => kernel_rfl) ?_ _
        simp only [OnlyN]
        refine ⟨Ab, cb, ?_, oB, b8⟩
        (try simp only [Act.put, List.setIfInBounds_toArray, List.set_cons_zero, List.set_cons_succ])
      rintro a' Vb ⟨Ab, cb, rfl, oB, hbb⟩
      simp only [Act.put, List.setIfInBounds_toArray, List.set_cons_zero, List.set_cons_succ]
      have hsn2 := (hbb.block gs lgs).trans hsn
      have e0'' := (hbb.cell (p := ⟨bx, ox + en * 4, none⟩) (by simp only; omega)).trans e0'
      have e1'' := (hbb.cell (p := ⟨bx, ox + en * 4 + 1, none⟩) (by simp only; omega)).trans e1'
      have e2'' := (hbb.cell (p := ⟨bx, ox + en * 4 + 2, none⟩) (by simp only; omega)).trans e2'
      have e3'' := (hbb.cell (p := ⟨bx, ox + en * 4 + 3, none⟩) (by simp only; omega)).trans e3'
      have hag : ∀ b o, Ab = some ⟨b, o, none⟩ → b ≠ gs := fun b o hb => by
        obtain ⟨A', c', e, _, _, _, hg⟩ := oB.form
        injection e with ea _ _
        have := hg ⟨b, o, none⟩ (by rw [← ea, hb])
        simp only at this
        omega
      have hcl := oB.at_
      have hbv := hbe.trans (hbb.mono hsz)
      have hnx : ∀ q, q < N → sI kf jf kn (NBf kn) q = sI kf jf (kn + 1) 0 q := fun q hq => by
        obtain ⟨h1, h2, _⟩ := HB.out q hq
        unfold sI
        apply decide_eq_decide.2
        constructor
        · rintro (h | h)
          · exact .inl (by omega)
          · exact .inl (by omega)
        · rintro (h | h)
          · rcases Nat.lt_or_ge (kf q) kn with h3 | h3
            · exact .inl h3
            · have h4 : kf q = kn := by omega
              rw [h4] at h2
              exact .inr ⟨h4, h2⟩
          · exact .inl (by omega)
      have hB' : ∀ p, p < N → kf p = kn → jf p < NBf kn ∧ inR (blk kn (jf p)) (pX ⟨d0, d1, d2, d3⟩ Wd p) (pY ⟨d0, d1, d2, d3⟩ Wd p) := fun p hp hk => by
        have := HB.out p hp
        rw [hk] at this
        exact this.2
      have HNX := Lib.hid hnx
      have HBB := Lib.hid hB'
      have HCL := Lib.hid hcl
      have HAG := Lib.hid hag
      have k7 : IntKind.i64.wrap ((kn : Int) + 1) = ((kn + 1 : Nat) : Int) := by rw [show (kn : Int) + 1 = ((kn + 1 : Nat) : Int) by omega]; exact wr (by omega)
      clear hnx hB' hcl hag oB hbb hbe hsn par1 rz1 e0' e1' e2' e3'
      go_wp2_with fail
      rw [← HCN.out]
      refine cvI_any bx ox BN cX en gs Ab (NBf kn) cb kn a0 d0 d1 d2 d3 Wd Hd N (blk kn) kf jf Vb hen hWd hHd HNN.out hd ha0 e0'' e1'' e2'' e3'' (HNB.out kn hlt) (Nat.ne_of_lt lx) hsn2 HAG.out HCL.out (fun i hi => HNE.out kn i hlt hi) (fun i hi => HA.out kn i hlt hi) HBB.out _ ?_
      intro u2 u21 u22 u23 u24 u177 u178 u179 u180 u181 u182 u183 u184 u185 u186 u187 u188 u189 u190 u191 u192 u193 u194 u195 u196 u197 u198 u199 u200 u201 u202 u203 u204 u205 u206 u207 u208 u209 u210 u211 u212 u213 u214 u215 u216 u217 u218 u219 u220 u221 u222 u223 u224 u225 u226 u227 u228 u229 u230 u231 u232 u233 u234 u235 u236 u237 u238 u239 u240 u241 u242 u243 u244 u245 u246 u247 u248 u249 u250 u251 u252 u253 u254 u255 u256 u257 u258 u259 u260 u261 u262 u263 u264 u265 u266 u267 u268 u269 u270 u271 u272 u273 u274 u275 u276 u277 u278 u279 u280 u281 u282 wz hz
      rw [cntB_congr HNX.out]
      rw [csB_congr HNX.out] at hz
      have hz1 := hz.1
      have hbz := hbv.trans hz.2.2.2
      clear hz hsn2 hbv e0'' e1'' e2'' e3''
      go_wp2_with fail
      go_roundw
      case rel => exact ⟨kn + 1, by omega, rfl, rfl, hbz, hz1⟩
      case measure => simp [intOf]; omega
    · obtain rfl : kn = NK := by omega
      clear HA HB HNE HNB G1
      go_wp2_with fail
      all_goals first
        | exact ⟨hbe, hsn⟩
        | exact hexit _ _ _ _ _ _ _ _ ⟨hbe, hsn⟩
        | (apply hexit; exact ⟨hbe, hsn⟩)
end Go.Proofs.Ytmieoifagnpbiaa
