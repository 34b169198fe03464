/- THE Y LOOP of waveletlaw12.CanvasCovers: the rows of a block are marked. -/
import Derived.Test.YtmieoifagnpbiaaCvX
import Derived.Deep.CutBlock
import Derived.Deep.LoopGhost
namespace Go.Proofs.Ytmieoifagnpbiaa
open Go.RowKit
attribute [local go_sem] opv opnd
set_option maxHeartbeats 40000000
set_option linter.unusedVariables false
set_option linter.unusedSimpArgs false
set_option maxRecDepth 1000000

/-- marked so far in a block, rows before y -/
def sY (d : Rc) (W : Nat) (R : Rc) (y : Int) (s : Nat → Bool) (p : Nat) : Bool := s p || decide (R.y0 ≤ pY d W p ∧ pY d W p < y ∧ R.x0 ≤ pX d W p ∧ pX d W p < R.x1)
theorem cvY_any {c0 c1 c2 c3 c4 c5 c6 c7 c8 c10 c11 c12 c14 c15 c18 c20 c23 c24 c25 c26 c27 c28 c29 c30 c31 c32 c33 c34 c35 c36 c37 c38 c39 c40 c41 c42 c43 c44 c45 c46 c47 c48 c49 c50 c51 c52 c53 c54 c55 c56 c57 c58 c59 c60 c61 c62 c63 c64 c65 c66 c67 c68 c69 c70 c71 c72 c73 c74 c75 c76 c77 c78 c79 c80 c81 c82 c83 c84 c85 c86 c87 c88 c89 c90 c91 c92 c93 c94 c95 c96 c97 c98 c99 c100 c101 c102 c103 c104 c105 c106 c107 c108 c109 c110 c111 c112 c113 c114 c115 c116 c117 c118 c119 c120 c121 c122 c123 c124 c125 c126 c127 c128 c129 c130 c131 c132 c133 c134 c135 c136 c137 c138 c139 c140 c141 c142 c143 c144 c145 c146 c147 c148 c149 c150 c151 c152 c153 c154 c155 c156 c157 c158 c159 c160 c161 c162 c163 c164 c165 c166 c167 c168 c169 c170 c171 c172 c173 c174 c175 c176 c177 c178 c179 c180 c181 c182 c183 c184 c185 c186 c187 c188 c189 c190 c191 c192 c193 c194 c195 c196 c197 c198 c199 c200 c201 c202 c203 c204 c205 c206 c207 c208 c209 c210 c211 c212 c213 c214 c215 c216 c217 c218 c219 c220 c221 c222 c223 c224 c225 c226 c227 c228 c229 c230 c231 c232 c233 c234 c235 c236 c237 c238 c239 c240 c241 c242 c243 c244 c245 c246 c247 c248 c249 c250 c251 c252 c253 c254 c255 c256 c257 c258 c259 c260 c261 c262 c263 c264 c265 c266 c267 c268 c269 c270 c271 c272 c273 c274 c275 c276 c277 c278 c279 c280 c281 c282 c283 c284 c285 c286 c287 c288 c289 c290 c291 c292 c293 c294 c295 c296 c297 : Value} (bx ox BN cX en gs bb ob NB cb iN a0 : Nat) (d0 d1 d2 d3 : Int) (Wd Hd N : Nat) (r0 r1 r2 r3 : Int) (s : Nat → Bool) (w : World) (hen : en < BN) (hWd : (Wd : Int) = d2 - d0) (hHd : (Hd : Int) = d3 - d1) (hN : Wd * Hd = N) (hd : (0 ≤ d0 ∧ d0 ≤ 64) ∧ (0 ≤ d1 ∧ d1 ≤ 64) ∧ (0 ≤ d2 ∧ d2 ≤ 64) ∧ (0 ≤ d3 ∧ d3 ≤ 64)) (ha0 : a0 ≤ 1099511627776) (e0 : w.cell? ⟨bx, ox + en * 4, none⟩ = some (.int .i64 d0)) (e1 : w.cell? ⟨bx, ox + en * 4 + 1, none⟩ = some (.int .i64 d1)) (e2 : w.cell? ⟨bx, ox + en * 4 + 2, none⟩ = some (.int .i64 d2)) (e3 : w.cell? ⟨bx, ox + en * 4 + 3, none⟩ = some (.int .i64 d3)) (hiN : iN < NB) (f0 : w.cell? ⟨bb, ob + iN * 4, none⟩ = some (.int .i64 r0)) (f2 : w.cell? ⟨bb, ob + iN * 4 + 2, none⟩ = some (.int .i64 r2)) (f3 : w.cell? ⟨bb, ob + iN * 4 + 3, none⟩ = some (.int .i64 r3)) (hbx : bx ≠ gs) (hbb : bb ≠ gs) (hseen : w.heap[gs]? = some (.cells (csB s N) 4 (0, 0))) (hr : (d0 ≤ r0 ∧ r0 < r2 ∧ r2 ≤ d2) ∧ (d1 ≤ r1 ∧ r1 < r3 ∧ r3 ≤ d3)) (hfree : ∀ x y, inR ⟨r0, r1, r2, r3⟩ x y → s (pN ⟨d0, d1, d2, d3⟩ Wd x y) = false) (QQ : Exit → Act → World → Prop) (hexit : ∀ (u2 u22 u23 u24 u188 u189 u190 u191 u192 u193 u194 u195 u196 u197 u198 u199 u200 u201 u202 u203 u204 u205 u206 u207 u208 u209 u210 u211 u212 u213 u214 u215 u216 u217 u218 u219 u220 u221 u222 u223 u224 u225 u226 u227 u228 u229 u230 u231 u232 u233 u234 u235 u236 u237 u238 u239 u240 u241 u242 u243 u244 u245 u246 u247 u248 u249 u250 u251 u252 u253 u254 u255 u256 u257 u258 u259 u260 u261 u262 u263 u264 u265 u266 u267 u268 u269 u270 u271 u272 u273 u274 u275 u276 u277 u278 u279 u280 u281 u282 : Value) (w' : World), SeenW w w' gs (csB (sY ⟨d0, d1, d2, d3⟩ Wd ⟨r0, r1, r2, r3⟩ r3 s) N) → QQ (.exit 10) ⟨List.toArray (c0 :: c1 :: u2 :: c3 :: c4 :: c5 :: c6 :: c7 :: c8 :: Value.int .i64 ((a0 + cntB (sY ⟨d0, d1, d2, d3⟩ Wd ⟨r0, r1, r2, r3⟩ r3 s) N : Nat) : Int) :: c10 :: c11 :: c12 :: Value.slice (some ⟨bx, ox, none⟩) BN cX :: c14 :: c15 :: Value.int .i64 (en : Int) :: Value.slice (some ⟨gs, 0, none⟩) N N :: c18 :: Value.slice (some ⟨bb, ob, none⟩) NB cb :: c20 :: Value.int .i64 (iN : Int) :: u22 :: u23 :: u24 :: c25 :: c26 :: c27 :: c28 :: c29 :: c30 :: c31 :: c32 :: c33 :: c34 :: c35 :: c36 :: c37 :: c38 :: c39 :: c40 :: c41 :: c42 :: c43 :: c44 :: c45 :: c46 :: c47 :: c48 :: c49 :: c50 :: c51 :: c52 :: c53 :: c54 :: c55 :: c56 :: c57 :: c58 :: c59 :: c60 :: c61 :: c62 :: c63 :: c64 :: c65 :: c66 :: c67 :: c68 :: c69 :: c70 :: c71 :: c72 :: c73 :: c74 :: c75 :: c76 :: c77 :: c78 :: c79 :: c80 :: c81 :: c82 :: c83 :: c84 :: c85 :: c86 :: c87 :: c88 :: c89 :: c90 :: c91 :: c92 :: c93 :: c94 :: c95 :: c96 :: c97 :: c98 :: c99 :: c100 :: c101 :: c102 :: c103 :: c104 :: c105 :: c106 :: c107 :: c108 :: c109 :: c110 :: c111 :: c112 :: c113 :: c114 :: c115 :: c116 :: c117 :: c118 :: c119 :: c120 :: c121 :: c122 :: c123 :: c124 :: c125 :: c126 :: c127 :: c128 :: c129 :: c130 :: c131 :: c132 :: c133 :: c134 :: c135 :: c136 :: c137 :: c138 :: c139 :: c140 :: c141 :: c142 :: c143 :: c144 :: c145 :: c146 :: c147 :: c148 :: c149 :: c150 :: c151 :: c152 :: c153 :: c154 :: c155 :: c156 :: c157 :: c158 :: c159 :: c160 :: c161 :: c162 :: c163 :: c164 :: c165 :: c166 :: c167 :: c168 :: c169 :: c170 :: c171 :: c172 :: c173 :: c174 :: c175 :: c176 :: c177 :: c178 :: c179 :: c180 :: c181 :: c182 :: c183 :: c184 :: c185 :: c186 :: c187 :: u188 :: u189 :: u190 :: u191 :: u192 :: u193 :: u194 :: u195 :: u196 :: u197 :: u198 :: u199 :: u200 :: u201 :: u202 :: u203 :: u204 :: u205 :: u206 :: u207 :: u208 :: u209 :: u210 :: u211 :: u212 :: u213 :: u214 :: u215 :: u216 :: u217 :: u218 :: u219 :: u220 :: u221 :: u222 :: u223 :: u224 :: u225 :: u226 :: u227 :: u228 :: u229 :: u230 :: u231 :: u232 :: u233 :: u234 :: u235 :: u236 :: u237 :: u238 :: u239 :: u240 :: u241 :: u242 :: u243 :: u244 :: u245 :: u246 :: u247 :: u248 :: u249 :: u250 :: u251 :: u252 :: u253 :: u254 :: u255 :: u256 :: u257 :: u258 :: u259 :: u260 :: u261 :: u262 :: u263 :: u264 :: u265 :: u266 :: u267 :: u268 :: u269 :: u270 :: u271 :: u272 :: u273 :: u274 :: u275 :: u276 :: u277 :: u278 :: u279 :: u280 :: u281 :: u282 :: c283 :: c284 :: c285 :: c286 :: c287 :: c288 :: c289 :: c290 :: c291 :: c292 :: c293 :: c294 :: c295 :: c296 :: c297 :: []), []⟩ w') :
    Code.wp Try.prog (Code.loop cvY) QQ ⟨List.toArray (c0 :: c1 :: c2 :: c3 :: c4 :: c5 :: c6 :: c7 :: c8 :: Value.int .i64 ((a0 + cntB (s) N : Nat) : Int) :: c10 :: c11 :: c12 :: Value.slice (some ⟨bx, ox, none⟩) BN cX :: c14 :: c15 :: Value.int .i64 (en : Int) :: Value.slice (some ⟨gs, 0, none⟩) N N :: c18 :: Value.slice (some ⟨bb, ob, none⟩) NB cb :: c20 :: Value.int .i64 (iN : Int) :: Value.int .i64 r1 :: c23 :: c24 :: c25 :: c26 :: c27 :: c28 :: c29 :: c30 :: c31 :: c32 :: c33 :: c34 :: c35 :: c36 :: c37 :: c38 :: c39 :: c40 :: c41 :: c42 :: c43 :: c44 :: c45 :: c46 :: c47 :: c48 :: c49 :: c50 :: c51 :: c52 :: c53 :: c54 :: c55 :: c56 :: c57 :: c58 :: c59 :: c60 :: c61 :: c62 :: c63 :: c64 :: c65 :: c66 :: c67 :: c68 :: c69 :: c70 :: c71 :: c72 :: c73 :: c74 :: c75 :: c76 :: c77 :: c78 :: c79 :: c80 :: c81 :: c82 :: c83 :: c84 :: c85 :: c86 :: c87 :: c88 :: c89 :: c90 :: c91 :: c92 :: c93 :: c94 :: c95 :: c96 :: c97 :: c98 :: c99 :: c100 :: c101 :: c102 :: c103 :: c104 :: c105 :: c106 :: c107 :: c108 :: c109 :: c110 :: c111 :: c112 :: c113 :: c114 :: c115 :: c116 :: c117 :: c118 :: c119 :: c120 :: c121 :: c122 :: c123 :: c124 :: c125 :: c126 :: c127 :: c128 :: c129 :: c130 :: c131 :: c132 :: c133 :: c134 :: c135 :: c136 :: c137 :: c138 :: c139 :: c140 :: c141 :: c142 :: c143 :: c144 :: c145 :: c146 :: c147 :: c148 :: c149 :: c150 :: c151 :: c152 :: c153 :: c154 :: c155 :: c156 :: c157 :: c158 :: c159 :: c160 :: c161 :: c162 :: c163 :: c164 :: c165 :: c166 :: c167 :: c168 :: c169 :: c170 :: c171 :: c172 :: c173 :: c174 :: c175 :: c176 :: c177 :: c178 :: c179 :: c180 :: c181 :: c182 :: c183 :: c184 :: c185 :: c186 :: c187 :: c188 :: c189 :: c190 :: c191 :: c192 :: c193 :: c194 :: c195 :: c196 :: c197 :: c198 :: c199 :: c200 :: c201 :: c202 :: c203 :: c204 :: c205 :: c206 :: c207 :: c208 :: c209 :: c210 :: c211 :: c212 :: c213 :: c214 :: c215 :: c216 :: c217 :: c218 :: c219 :: c220 :: c221 :: c222 :: c223 :: c224 :: c225 :: c226 :: c227 :: c228 :: c229 :: c230 :: c231 :: c232 :: c233 :: c234 :: c235 :: c236 :: c237 :: c238 :: c239 :: c240 :: c241 :: c242 :: c243 :: c244 :: c245 :: c246 :: c247 :: c248 :: c249 :: c250 :: c251 :: c252 :: c253 :: c254 :: c255 :: c256 :: c257 :: c258 :: c259 :: c260 :: c261 :: c262 :: c263 :: c264 :: c265 :: c266 :: c267 :: c268 :: c269 :: c270 :: c271 :: c272 :: c273 :: c274 :: c275 :: c276 :: c277 :: c278 :: c279 :: c280 :: c281 :: c282 :: c283 :: c284 :: c285 :: c286 :: c287 :: c288 :: c289 :: c290 :: c291 :: c292 :: c293 :: c294 :: c295 :: c296 :: c297 :: []), []⟩ w := by
  have hsx0 : ∀ p, s p = sY ⟨d0, d1, d2, d3⟩ Wd ⟨r0, r1, r2, r3⟩ r1 s p := fun p => by unfold sY; rw [decide_eq_false (by simp only; omega), Bool.or_false]
  have HFR := Lib.hid hfree
  have HW := Lib.hid hWd
  have HH := Lib.hid hHd
  have HN := Lib.hid hN
  clear hfree
  conv => arg 2; arg 1; whnf
  go_loopw [9, 22] (fun al v wr => ∃ yv : Int, r1 ≤ yv ∧ yv ≤ r3 ∧ v = .int .i64 yv ∧ al = .int .i64 ((a0 + cntB (sY ⟨d0, d1, d2, d3⟩ Wd ⟨r0, r1, r2, r3⟩ yv s) N : Nat) : Int) ∧ SeenW w wr gs (csB (sY ⟨d0, d1, d2, d3⟩ Wd ⟨r0, r1, r2, r3⟩ yv s) N)) (fun _ v _ => (r3 - intOf v).toNat)
  case atStart => exact ⟨r1, Int.le_refl _, by omega, rfl, by rw [cntB_congr (fun p _ => hsx0 p)], by rw [← csB_congr (fun p _ => hsx0 p)]; exact SeenW.refl hseen⟩
  case round =>
    obtain ⟨yv, hy0, hy1, rfl, rfl, hsw⟩ := hrel
    obtain ⟨wa, hwa⟩ : ∃ wa, wa = wr := ⟨_, rfl⟩
    subst hwa
    have g3b := (hsw.cell hbb (ob + iN * 4 + 3)).trans f3
    by_cases hlt : yv < r3
    · have e0' := (hsw.cell hbx (ox + en * 4)).trans e0
      have e1' := (hsw.cell hbx (ox + en * 4 + 1)).trans e1
      have e2' := (hsw.cell hbx (ox + en * 4 + 2)).trans e2
      have e3' := (hsw.cell hbx (ox + en * 4 + 3)).trans e3
      have g0b := (hsw.cell hbb (ob + iN * 4)).trans f0
      have g2b := (hsw.cell hbb (ob + iN * 4 + 2)).trans f2
      have hseen' := hsw.1
      have k7 : IntKind.i64.wrap (yv + 1) = yv + 1 := wr (by omega)
      obtain ⟨sv, hsv⟩ : ∃ sv : Nat → Bool, sY ⟨d0, d1, d2, d3⟩ Wd ⟨r0, r1, r2, r3⟩ yv s = sv := ⟨_, rfl⟩
      have hfr : ∀ x, r0 ≤ x → x < r2 → sv (pN ⟨d0, d1, d2, d3⟩ Wd x yv) = false := fun x h1 h2 => by
        have hin : inR ⟨d0, d1, d2, d3⟩ x yv := ⟨by simp only; omega, by simp only; omega, by simp only; omega, by simp only; omega⟩
        obtain ⟨q1, q2, q3, q4⟩ := pN_law (d := ⟨d0, d1, d2, d3⟩) (W := Wd) (H := Hd) HW.out HH.out hin
        rw [← hsv]
        unfold sY
        rw [HFR.out x yv ⟨h1, h2, hy0, hlt⟩, q4]
        simp
      have hnx : ∀ q, q < N → sX ⟨d0, d1, d2, d3⟩ Wd yv r0 r2 sv q = sY ⟨d0, d1, d2, d3⟩ Wd ⟨r0, r1, r2, r3⟩ (yv + 1) s q := fun q hq => by
        rw [← hsv]
        unfold sX sY
        rw [Bool.or_assoc]
        congr 1
        rw [← Bool.decide_or]
        apply decide_eq_decide.2
        simp only
        constructor
        · rintro (⟨h1, h2, h3, h4⟩ | ⟨h1, h2, h3⟩)
          · exact ⟨h1, by omega, h3, h4⟩
          · exact ⟨by omega, by omega, h2, h3⟩
        · rintro ⟨h1, h2, h3, h4⟩
          rcases Int.lt_or_le (pY ⟨d0, d1, d2, d3⟩ Wd q) yv with h5 | h5
          · exact .inl ⟨h1, h5, h3, h4⟩
          · exact .inr ⟨by omega, h3, h4⟩
      have HNX := Lib.hid hnx
      have HSV := Lib.hid hsv
      have HY1 := Lib.hid (And.intro hy0 hlt)
      have HSW := Lib.hid (show SeenW w wa gs (csB sv N) by rw [← hsv]; exact hsw)
      rw [hsv] at hseen' ⊢
      clear hsw hnx hsv hsx0
      go_wp2_with fail
      refine cvX_any bx ox BN cX en gs bb ob NB cb iN a0 d0 d1 d2 d3 Wd Hd N yv r0 r2 sv wa hen hWd hHd hN hd ha0 e0' e1' e2' e3' hiN g2b hbx hbb hseen' ⟨by omega, by omega⟩ (by omega) ⟨by omega, by omega⟩ hfr _ ?_
      intro u2 u23 u24 u202 u203 u204 u205 u206 u207 u208 u209 u210 u211 u212 u213 u214 u215 u216 u217 u218 u219 u220 u221 u222 u223 u224 u225 u226 u227 u228 u229 u230 u231 u232 u233 u234 u235 u236 u237 u238 u239 u240 u241 u242 u243 u244 u245 u246 u247 u248 u249 u250 u251 u252 u253 u254 u255 u256 u257 u258 u259 u260 u261 u262 u263 u264 u265 u266 u267 u268 u269 u270 u271 u272 u273 u274 u275 u276 u277 u278 u279 u280 u281 u282 wz hz
      rw [cntB_congr HNX.out]
      have hzz := HSW.out.trans hz
      rw [csB_congr HNX.out] at hzz
      clear hz hseen' hfr e0' e1' e2' e3' g0b g2b g3b HSW
      go_wp2_with fail
      go_roundw
      case rel => exact ⟨yv + 1, by have := HY1.out; omega, by have := HY1.out; omega, rfl, rfl, hzz⟩
      case measure => have := HY1.out; simp [intOf]; omega
    · obtain rfl : yv = r3 := by omega
      clear HFR
      go_wp2_with fail
      all_goals first
        | exact hsw
        | (apply hexit; exact hsw)
end Go.Proofs.Ytmieoifagnpbiaa
