/- THE X LOOP of waveletlaw12.CanvasCovers: the places of a row of a block are marked. -/
import Derived.Test.YtmieoifagnpbiaaCovD
import Derived.Deep.CutBlock
import Derived.Deep.LoopGhost
namespace Go.Proofs.Ytmieoifagnpbiaa
open Go.RowKit
attribute [local go_sem] opv opnd
set_option maxHeartbeats 40000000
set_option linter.unusedVariables false
set_option linter.unusedSimpArgs false
set_option maxRecDepth 1000000

/-- marked so far in row y -/
def sX (d : Rc) (W : Nat) (y x0 x : Int) (s : Nat → Bool) (p : Nat) : Bool := s p || decide (pY d W p = y ∧ x0 ≤ pX d W p ∧ pX d W p < x)
theorem cvX_any {c0 c1 c2 c3 c4 c5 c6 c7 c8 c10 c11 c12 c14 c15 c18 c20 c24 c25 c26 c27 c28 c29 c30 c31 c32 c33 c34 c35 c36 c37 c38 c39 c40 c41 c42 c43 c44 c45 c46 c47 c48 c49 c50 c51 c52 c53 c54 c55 c56 c57 c58 c59 c60 c61 c62 c63 c64 c65 c66 c67 c68 c69 c70 c71 c72 c73 c74 c75 c76 c77 c78 c79 c80 c81 c82 c83 c84 c85 c86 c87 c88 c89 c90 c91 c92 c93 c94 c95 c96 c97 c98 c99 c100 c101 c102 c103 c104 c105 c106 c107 c108 c109 c110 c111 c112 c113 c114 c115 c116 c117 c118 c119 c120 c121 c122 c123 c124 c125 c126 c127 c128 c129 c130 c131 c132 c133 c134 c135 c136 c137 c138 c139 c140 c141 c142 c143 c144 c145 c146 c147 c148 c149 c150 c151 c152 c153 c154 c155 c156 c157 c158 c159 c160 c161 c162 c163 c164 c165 c166 c167 c168 c169 c170 c171 c172 c173 c174 c175 c176 c177 c178 c179 c180 c181 c182 c183 c184 c185 c186 c187 c188 c189 c190 c191 c192 c193 c194 c195 c196 c197 c198 c199 c200 c201 c202 c203 c204 c205 c206 c207 c208 c209 c210 c211 c212 c213 c214 c215 c216 c217 c218 c219 c220 c221 c222 c223 c224 c225 c226 c227 c228 c229 c230 c231 c232 c233 c234 c235 c236 c237 c238 c239 c240 c241 c242 c243 c244 c245 c246 c247 c248 c249 c250 c251 c252 c253 c254 c255 c256 c257 c258 c259 c260 c261 c262 c263 c264 c265 c266 c267 c268 c269 c270 c271 c272 c273 c274 c275 c276 c277 c278 c279 c280 c281 c282 c283 c284 c285 c286 c287 c288 c289 c290 c291 c292 c293 c294 c295 c296 c297 : Value} (bx ox BN cX en gs bb ob NB cb iN a0 : Nat) (d0 d1 d2 d3 : Int) (Wd Hd N : Nat) (y x0 x1 : Int) (s : Nat → Bool) (w : World) (hen : en < BN) (hWd : (Wd : Int) = d2 - d0) (hHd : (Hd : Int) = d3 - d1) (hN : Wd * Hd = N) (hd : (0 ≤ d0 ∧ d0 ≤ 64) ∧ (0 ≤ d1 ∧ d1 ≤ 64) ∧ (0 ≤ d2 ∧ d2 ≤ 64) ∧ (0 ≤ d3 ∧ d3 ≤ 64)) (ha0 : a0 ≤ 1099511627776) (e0 : w.cell? ⟨bx, ox + en * 4, none⟩ = some (.int .i64 d0)) (e1 : w.cell? ⟨bx, ox + en * 4 + 1, none⟩ = some (.int .i64 d1)) (e2 : w.cell? ⟨bx, ox + en * 4 + 2, none⟩ = some (.int .i64 d2)) (e3 : w.cell? ⟨bx, ox + en * 4 + 3, none⟩ = some (.int .i64 d3)) (hiN : iN < NB) (f2 : w.cell? ⟨bb, ob + iN * 4 + 2, none⟩ = some (.int .i64 x1)) (hbx : bx ≠ gs) (hbb : bb ≠ gs) (hseen : w.heap[gs]? = some (.cells (csB s N) 4 (0, 0))) (hy : d1 ≤ y ∧ y < d3) (hx : x0 ≤ x1) (hxd : d0 ≤ x0 ∧ x1 ≤ d2) (hfree : ∀ x, x0 ≤ x → x < x1 → s (pN ⟨d0, d1, d2, d3⟩ Wd x y) = false) (QQ : Exit → Act → World → Prop) (hexit : ∀ (u2 u23 u24 u202 u203 u204 u205 u206 u207 u208 u209 u210 u211 u212 u213 u214 u215 u216 u217 u218 u219 u220 u221 u222 u223 u224 u225 u226 u227 u228 u229 u230 u231 u232 u233 u234 u235 u236 u237 u238 u239 u240 u241 u242 u243 u244 u245 u246 u247 u248 u249 u250 u251 u252 u253 u254 u255 u256 u257 u258 u259 u260 u261 u262 u263 u264 u265 u266 u267 u268 u269 u270 u271 u272 u273 u274 u275 u276 u277 u278 u279 u280 u281 u282 : Value) (w' : World), SeenW w w' gs (csB (sX ⟨d0, d1, d2, d3⟩ Wd y x0 x1 s) N) → QQ (.exit 12) ⟨List.toArray (c0 :: c1 :: u2 :: c3 :: c4 :: c5 :: c6 :: c7 :: c8 :: Value.int .i64 ((a0 + cntB (sX ⟨d0, d1, d2, d3⟩ Wd y x0 x1 s) N : Nat) : Int) :: c10 :: c11 :: c12 :: Value.slice (some ⟨bx, ox, none⟩) BN cX :: c14 :: c15 :: Value.int .i64 (en : Int) :: Value.slice (some ⟨gs, 0, none⟩) N N :: c18 :: Value.slice (some ⟨bb, ob, none⟩) NB cb :: c20 :: Value.int .i64 (iN : Int) :: Value.int .i64 y :: u23 :: u24 :: c25 :: c26 :: c27 :: c28 :: c29 :: c30 :: c31 :: c32 :: c33 :: c34 :: c35 :: c36 :: c37 :: c38 :: c39 :: c40 :: c41 :: c42 :: c43 :: c44 :: c45 :: c46 :: c47 :: c48 :: c49 :: c50 :: c51 :: c52 :: c53 :: c54 :: c55 :: c56 :: c57 :: c58 :: c59 :: c60 :: c61 :: c62 :: c63 :: c64 :: c65 :: c66 :: c67 :: c68 :: c69 :: c70 :: c71 :: c72 :: c73 :: c74 :: c75 :: c76 :: c77 :: c78 :: c79 :: c80 :: c81 :: c82 :: c83 :: c84 :: c85 :: c86 :: c87 :: c88 :: c89 :: c90 :: c91 :: c92 :: c93 :: c94 :: c95 :: c96 :: c97 :: c98 :: c99 :: c100 :: c101 :: c102 :: c103 :: c104 :: c105 :: c106 :: c107 :: c108 :: c109 :: c110 :: c111 :: c112 :: c113 :: c114 :: c115 :: c116 :: c117 :: c118 :: c119 :: c120 :: c121 :: c122 :: c123 :: c124 :: c125 :: c126 :: c127 :: c128 :: c129 :: c130 :: c131 :: c132 :: c133 :: c134 :: c135 :: c136 :: c137 :: c138 :: c139 :: c140 :: c141 :: c142 :: c143 :: c144 :: c145 :: c146 :: c147 :: c148 :: c149 :: c150 :: c151 :: c152 :: c153 :: c154 :: c155 :: c156 :: c157 :: c158 :: c159 :: c160 :: c161 :: c162 :: c163 :: c164 :: c165 :: c166 :: c167 :: c168 :: c169 :: c170 :: c171 :: c172 :: c173 :: c174 :: c175 :: c176 :: c177 :: c178 :: c179 :: c180 :: c181 :: c182 :: c183 :: c184 :: c185 :: c186 :: c187 :: c188 :: c189 :: c190 :: c191 :: c192 :: c193 :: c194 :: c195 :: c196 :: c197 :: c198 :: c199 :: c200 :: c201 :: u202 :: u203 :: u204 :: u205 :: u206 :: u207 :: u208 :: u209 :: u210 :: u211 :: u212 :: u213 :: u214 :: u215 :: u216 :: u217 :: u218 :: u219 :: u220 :: u221 :: u222 :: u223 :: u224 :: u225 :: u226 :: u227 :: u228 :: u229 :: u230 :: u231 :: u232 :: u233 :: u234 :: u235 :: u236 :: u237 :: u238 :: u239 :: u240 :: u241 :: u242 :: u243 :: u244 :: u245 :: u246 :: u247 :: u248 :: u249 :: u250 :: u251 :: u252 :: u253 :: u254 :: u255 :: u256 :: u257 :: u258 :: u259 :: u260 :: u261 :: u262 :: u263 :: u264 :: u265 :: u266 :: u267 :: u268 :: u269 :: u270 :: u271 :: u272 :: u273 :: u274 :: u275 :: u276 :: u277 :: u278 :: u279 :: u280 :: u281 :: u282 :: c283 :: c284 :: c285 :: c286 :: c287 :: c288 :: c289 :: c290 :: c291 :: c292 :: c293 :: c294 :: c295 :: c296 :: c297 :: []), []⟩ w') :
    Code.wp Try.prog (Code.loop cvX) QQ ⟨List.toArray (c0 :: c1 :: c2 :: c3 :: c4 :: c5 :: c6 :: c7 :: c8 :: Value.int .i64 ((a0 + cntB (s) N : Nat) : Int) :: c10 :: c11 :: c12 :: Value.slice (some ⟨bx, ox, none⟩) BN cX :: c14 :: c15 :: Value.int .i64 (en : Int) :: Value.slice (some ⟨gs, 0, none⟩) N N :: c18 :: Value.slice (some ⟨bb, ob, none⟩) NB cb :: c20 :: Value.int .i64 (iN : Int) :: Value.int .i64 y :: Value.int .i64 x0 :: c24 :: c25 :: c26 :: c27 :: c28 :: c29 :: c30 :: c31 :: c32 :: c33 :: c34 :: c35 :: c36 :: c37 :: c38 :: c39 :: c40 :: c41 :: c42 :: c43 :: c44 :: c45 :: c46 :: c47 :: c48 :: c49 :: c50 :: c51 :: c52 :: c53 :: c54 :: c55 :: c56 :: c57 :: c58 :: c59 :: c60 :: c61 :: c62 :: c63 :: c64 :: c65 :: c66 :: c67 :: c68 :: c69 :: c70 :: c71 :: c72 :: c73 :: c74 :: c75 :: c76 :: c77 :: c78 :: c79 :: c80 :: c81 :: c82 :: c83 :: c84 :: c85 :: c86 :: c87 :: c88 :: c89 :: c90 :: c91 :: c92 :: c93 :: c94 :: c95 :: c96 :: c97 :: c98 :: c99 :: c100 :: c101 :: c102 :: c103 :: c104 :: c105 :: c106 :: c107 :: c108 :: c109 :: c110 :: c111 :: c112 :: c113 :: c114 :: c115 :: c116 :: c117 :: c118 :: c119 :: c120 :: c121 :: c122 :: c123 :: c124 :: c125 :: c126 :: c127 :: c128 :: c129 :: c130 :: c131 :: c132 :: c133 :: c134 :: c135 :: c136 :: c137 :: c138 :: c139 :: c140 :: c141 :: c142 :: c143 :: c144 :: c145 :: c146 :: c147 :: c148 :: c149 :: c150 :: c151 :: c152 :: c153 :: c154 :: c155 :: c156 :: c157 :: c158 :: c159 :: c160 :: c161 :: c162 :: c163 :: c164 :: c165 :: c166 :: c167 :: c168 :: c169 :: c170 :: c171 :: c172 :: c173 :: c174 :: c175 :: c176 :: c177 :: c178 :: c179 :: c180 :: c181 :: c182 :: c183 :: c184 :: c185 :: c186 :: c187 :: c188 :: c189 :: c190 :: c191 :: c192 :: c193 :: c194 :: c195 :: c196 :: c197 :: c198 :: c199 :: c200 :: c201 :: c202 :: c203 :: c204 :: c205 :: c206 :: c207 :: c208 :: c209 :: c210 :: c211 :: c212 :: c213 :: c214 :: c215 :: c216 :: c217 :: c218 :: c219 :: c220 :: c221 :: c222 :: c223 :: c224 :: c225 :: c226 :: c227 :: c228 :: c229 :: c230 :: c231 :: c232 :: c233 :: c234 :: c235 :: c236 :: c237 :: c238 :: c239 :: c240 :: c241 :: c242 :: c243 :: c244 :: c245 :: c246 :: c247 :: c248 :: c249 :: c250 :: c251 :: c252 :: c253 :: c254 :: c255 :: c256 :: c257 :: c258 :: c259 :: c260 :: c261 :: c262 :: c263 :: c264 :: c265 :: c266 :: c267 :: c268 :: c269 :: c270 :: c271 :: c272 :: c273 :: c274 :: c275 :: c276 :: c277 :: c278 :: c279 :: c280 :: c281 :: c282 :: c283 :: c284 :: c285 :: c286 :: c287 :: c288 :: c289 :: c290 :: c291 :: c292 :: c293 :: c294 :: c295 :: c296 :: c297 :: []), []⟩ w := by
  have hWd64 : Wd ≤ 64 := by omega
  have hHd64 : Hd ≤ 64 := by omega
  have hN64 : N ≤ 4096 := by rw [← hN]; exact Nat.mul_le_mul hWd64 hHd64
  have hsx0 : ∀ p, s p = sX ⟨d0, d1, d2, d3⟩ Wd y x0 x0 s p := fun p => by unfold sX; rw [decide_eq_false (by omega), Bool.or_false]
  have HN := Lib.hid hN
  have HFR := Lib.hid hfree
  have HW := Lib.hid hWd
  have HH := Lib.hid hHd
  clear hN hfree
  conv => arg 2; arg 1; whnf
  go_loopw [9, 23] (fun al v wr => ∃ xv : Int, x0 ≤ xv ∧ xv ≤ x1 ∧ v = .int .i64 xv ∧ al = .int .i64 ((a0 + cntB (sX ⟨d0, d1, d2, d3⟩ Wd y x0 xv s) N : Nat) : Int) ∧ SeenW w wr gs (csB (sX ⟨d0, d1, d2, d3⟩ Wd y x0 xv s) N)) (fun _ v _ => (x1 - intOf v).toNat)
  case atStart => exact ⟨x0, Int.le_refl _, hx, rfl, by rw [cntB_congr (fun p _ => hsx0 p)], by rw [← csB_congr (fun p _ => hsx0 p)]; exact SeenW.refl hseen⟩
  case round =>
    obtain ⟨xv, hx0, hx1, rfl, rfl, hsw⟩ := hrel
    obtain ⟨wa, hwa⟩ : ∃ wa, wa = wr := ⟨_, rfl⟩
    subst hwa
    have g2 := (hsw.cell hbb (ob + iN * 4 + 2)).trans f2
    obtain ⟨cn, hcn⟩ : ∃ z, a0 + cntB (sX ⟨d0, d1, d2, d3⟩ Wd y x0 xv s) N = z := ⟨_, rfl⟩
    have hcnb : cn ≤ 1099511627776 + 4096 := by have := cntB_le (sX ⟨d0, d1, d2, d3⟩ Wd y x0 xv s) N; omega
    by_cases hlt : xv < x1
    · have g0 := (hsw.cell hbx (ox + en * 4)).trans e0
      have g1 := (hsw.cell hbx (ox + en * 4 + 1)).trans e1
      have g2' := (hsw.cell hbx (ox + en * 4 + 2)).trans e2
      have g3 := (hsw.cell hbx (ox + en * 4 + 3)).trans e3
      have hin : inR ⟨d0, d1, d2, d3⟩ xv y := ⟨by simp only; omega, by simp only; omega, by simp only; omega, by simp only; omega⟩
      obtain ⟨q1, q2, q3, q4⟩ := pN_law (d := ⟨d0, d1, d2, d3⟩) (W := Wd) (H := Hd) HW.out HH.out hin
      obtain ⟨p, hp⟩ : ∃ p, pN ⟨d0, d1, d2, d3⟩ Wd xv y = p := ⟨_, rfl⟩
      have hfr : s p = false := by rw [← hp]; exact HFR.out xv hx0 hlt
      have hst : sX ⟨d0, d1, d2, d3⟩ Wd y x0 xv s p = false := by
        unfold sX; rw [hfr, ← hp, q3]; simp
      have hnx : ∀ q, q < N → sX ⟨d0, d1, d2, d3⟩ Wd y x0 (xv + 1) s q = ((sX ⟨d0, d1, d2, d3⟩ Wd y x0 xv s) q || decide (q = p)) := fun q hq => by
        have hpe := pN_eq (d := ⟨d0, d1, d2, d3⟩) (W := Wd) (H := Hd) HW.out HH.out (p := q) (by rw [HN.out]; exact hq) (x := xv) (y := y)
        rw [hp] at hpe
        unfold sX
        rw [Bool.or_assoc]
        congr 1
        rw [← Bool.decide_or]
        apply decide_eq_decide.2
        constructor
        · rintro ⟨h1, h2, h3⟩
          rcases Int.lt_or_le (pX ⟨d0, d1, d2, d3⟩ Wd q) xv with h4 | h4
          · exact .inl ⟨h1, h2, h4⟩
          · exact .inr (hpe.2 ⟨by omega, h1⟩).1
        · rintro (⟨h1, h2, h3⟩ | h1)
          · exact ⟨h1, h2, by omega⟩
          · obtain ⟨h4, h5⟩ := hpe.1 ⟨h1, hin⟩
            exact ⟨h5, by omega, by omega⟩
      simp only at q1
      rw [hp, HN.out] at q2
      rw [hp] at q1
      have hcell : wa.cell? ⟨gs, p, none⟩ = some (.bool false) := by rw [hsw.seen q2, hst]
      obtain ⟨yb, hyb⟩ : ∃ z, y - d1 = z := ⟨_, rfl⟩
      obtain ⟨wd, hwd⟩ : ∃ z, d2 - d0 = z := ⟨_, rfl⟩
      rw [hyb, hwd] at q1
      have hm := mul_bd (a := yb) (b := wd) (A := 64) (B := 64) (by omega) (by omega) (by omega) (by omega)
      obtain ⟨pm, hpm⟩ : ∃ z, yb * wd = z := ⟨_, rfl⟩
      rw [hpm] at q1 hm
      obtain ⟨pq, hpq⟩ : ∃ z, pm + xv = z := ⟨_, rfl⟩
      rw [hpq] at q1
      have k1 : IntKind.i64.wrap (y - d1) = yb := by rw [hyb]; exact wr (by omega)
      have k2 : IntKind.i64.wrap (d2 - d0) = wd := by rw [hwd]; exact wr (by omega)
      have k3 : IntKind.i64.wrap (yb * wd) = pm := by rw [hpm]; exact wr (by omega)
      have k4 : IntKind.i64.wrap (pm + xv) = pq := by rw [hpq]; exact wr (by omega)
      have k5 : IntKind.i64.wrap (pq - d0) = (p : Int) := by rw [← q1]; exact wr (by omega)
      have k6 : IntKind.i64.wrap ((cn : Int) + 1) = ((cn + 1 : Nat) : Int) := by rw [show (cn : Int) + 1 = ((cn + 1 : Nat) : Int) by omega]; exact wr (by omega)
      have k7 : IntKind.i64.wrap (xv + 1) = xv + 1 := wr (by omega)
      have hc : cntB (sX ⟨d0, d1, d2, d3⟩ Wd y x0 (xv + 1) s) N = cntB (sX ⟨d0, d1, d2, d3⟩ Wd y x0 xv s) N + 1 := by rw [cntB_congr hnx, cntB_set q2 hst]
      have hcs : csB (sX ⟨d0, d1, d2, d3⟩ Wd y x0 (xv + 1) s) N = (csB (sX ⟨d0, d1, d2, d3⟩ Wd y x0 xv s) N).setIfInBounds p (.bool true) := by rw [csB_set q2, csB_congr hnx]
      have n1 : ¬ xv < d0 := by omega
      have n2 : ¬ d2 ≤ xv := by omega
      have n3 : ¬ y < d1 := by omega
      have n4 : ¬ d3 ≤ y := by omega
      have HSW := Lib.hid hsw
      have HC := Lib.hid hc
      have HCS := Lib.hid hcs
      have HCN := Lib.hid hcn
      have HX1 := Lib.hid (And.intro hx0 hlt)
      have hfz : ∀ i, wa.frozen? ⟨gs, i, none⟩ = false := fun i => hsw.free
      have hp' : p < N := q2
      rw [hcn]
      clear hsw hc hcs hcn hnx hst hfr hp q1 q2 q3 q4 hin hyb hwd hpm hpq hm hx0 hx1 hsx0
      go_wp2_with fail
      go_quiet (fail)
      generalize hwq : World.drewN wa _ = wq
      have h0 : SeenW w wq gs (csB (sX ⟨d0, d1, d2, d3⟩ Wd y x0 xv s) N) := by rw [← hwq]; exact HSW.out.drewN _
      have hcell : wq.cell? ⟨gs, p, none⟩ = some (.bool false) := by rw [← hwq]; exact hcell
      have hfz : ∀ i, wq.frozen? ⟨gs, i, none⟩ = false := fun i => h0.free
      have g0 : wq.cell? ⟨bx, ox + en * 4, none⟩ = some (.int .i64 d0) := by rw [← hwq]; exact g0
      have g1 : wq.cell? ⟨bx, ox + en * 4 + 1, none⟩ = some (.int .i64 d1) := by rw [← hwq]; exact g1
      have g2' : wq.cell? ⟨bx, ox + en * 4 + 2, none⟩ = some (.int .i64 d2) := by rw [← hwq]; exact g2'
      have g3 : wq.cell? ⟨bx, ox + en * 4 + 3, none⟩ = some (.int .i64 d3) := by rw [← hwq]; exact g3
      have HSW0 := Lib.hid h0
      clear hwq h0 HSW k1 k2 k3 k4 k5
      go_wp2_with fail
      go_roundw
      case rel => exact ⟨xv + 1, by have := HX1.out; omega, by have := HX1.out; omega, rfl, by rw [HC.out, ← HCN.out]; rfl, by rw [HCS.out]; exact HSW0.out.set _⟩
      case measure => have := HX1.out; simp [intOf]; omega
    · obtain rfl : xv = x1 := by omega
      clear HFR
      go_wp2_with fail
      all_goals first
        | exact hsw
        | (apply hexit; exact hsw)
end Go.Proofs.Ytmieoifagnpbiaa
