/- THE I LOOP of waveletlaw12.CanvasCovers: the blocks of a precinct are marked. -/
import Derived.Test.YtmieoifagnpbiaaCvY
import Derived.Deep.CutBlock
import Derived.Deep.LoopGhost
namespace Go.Proofs.Ytmieoifagnpbiaa
open Go.RowKit
attribute [local go_sem] opv opnd
set_option maxHeartbeats 40000000
set_option linter.unusedVariables false
set_option linter.unusedSimpArgs false
set_option maxRecDepth 1000000

/-- marked so far: precincts before k, of precinct k blocks before i -/
def sI (kf jf : Nat → Nat) (k i : Nat) (p : Nat) : Bool := decide (kf p < k ∨ (kf p = k ∧ jf p < i))
theorem cvI_any {c0 c1 c2 c3 c4 c5 c6 c7 c8 c10 c11 c12 c14 c15 c18 c20 c22 c23 c24 c25 c26 c27 c28 c29 c30 c31 c32 c33 c34 c35 c36 c37 c38 c39 c40 c41 c42 c43 c44 c45 c46 c47 c48 c49 c50 c51 c52 c53 c54 c55 c56 c57 c58 c59 c60 c61 c62 c63 c64 c65 c66 c67 c68 c69 c70 c71 c72 c73 c74 c75 c76 c77 c78 c79 c80 c81 c82 c83 c84 c85 c86 c87 c88 c89 c90 c91 c92 c93 c94 c95 c96 c97 c98 c99 c100 c101 c102 c103 c104 c105 c106 c107 c108 c109 c110 c111 c112 c113 c114 c115 c116 c117 c118 c119 c120 c121 c122 c123 c124 c125 c126 c127 c128 c129 c130 c131 c132 c133 c134 c135 c136 c137 c138 c139 c140 c141 c142 c143 c144 c145 c146 c147 c148 c149 c150 c151 c152 c153 c154 c155 c156 c157 c158 c159 c160 c161 c162 c163 c164 c165 c166 c167 c168 c169 c170 c171 c172 c173 c174 c175 c176 c177 c178 c179 c180 c181 c182 c183 c184 c185 c186 c187 c188 c189 c190 c191 c192 c193 c194 c195 c196 c197 c198 c199 c200 c201 c202 c203 c204 c205 c206 c207 c208 c209 c210 c211 c212 c213 c214 c215 c216 c217 c218 c219 c220 c221 c222 c223 c224 c225 c226 c227 c228 c229 c230 c231 c232 c233 c234 c235 c236 c237 c238 c239 c240 c241 c242 c243 c244 c245 c246 c247 c248 c249 c250 c251 c252 c253 c254 c255 c256 c257 c258 c259 c260 c261 c262 c263 c264 c265 c266 c267 c268 c269 c270 c271 c272 c273 c274 c275 c276 c277 c278 c279 c280 c281 c282 c283 c284 c285 c286 c287 c288 c289 c290 c291 c292 c293 c294 c295 c296 c297 : Value} (bx ox BN cX en gs : Nat) (A : Option Addr) (NB cb kn a0 : Nat) (d0 d1 d2 d3 : Int) (Wd Hd N : Nat) (blk : Nat → Rc) (kf jf : Nat → Nat) (w : World) (hen : en < BN) (hWd : (Wd : Int) = d2 - d0) (hHd : (Hd : Int) = d3 - d1) (hN : Wd * Hd = N) (hd : (0 ≤ d0 ∧ d0 ≤ 64) ∧ (0 ≤ d1 ∧ d1 ≤ 64) ∧ (0 ≤ d2 ∧ d2 ≤ 64) ∧ (0 ≤ d3 ∧ d3 ≤ 64)) (ha0 : a0 ≤ 1099511627776) (e0 : w.cell? ⟨bx, ox + en * 4, none⟩ = some (.int .i64 d0)) (e1 : w.cell? ⟨bx, ox + en * 4 + 1, none⟩ = some (.int .i64 d1)) (e2 : w.cell? ⟨bx, ox + en * 4 + 2, none⟩ = some (.int .i64 d2)) (e3 : w.cell? ⟨bx, ox + en * 4 + 3, none⟩ = some (.int .i64 d3)) (hNB : NB ≤ 1048576) (hbx : bx ≠ gs) (hseen : w.heap[gs]? = some (.cells (csB (sI kf jf kn 0) N) 4 (0, 0))) (hag : ∀ b o, A = some ⟨b, o, none⟩ → b ≠ gs) (hblk : CellsAt w w.heap.size A 4 NB (fun i => rcL (blk i))) (hne : ∀ i, i < NB → (blk i).x0 < (blk i).x1 ∧ (blk i).y0 < (blk i).y1) (hA : ∀ i, i < NB → ∀ x y, inR (blk i) x y → inR ⟨d0, d1, d2, d3⟩ x y ∧ kf (pN ⟨d0, d1, d2, d3⟩ Wd x y) = kn ∧ jf (pN ⟨d0, d1, d2, d3⟩ Wd x y) = i) (hB : ∀ p, p < N → kf p = kn → jf p < NB ∧ inR (blk (jf p)) (pX ⟨d0, d1, d2, d3⟩ Wd p) (pY ⟨d0, d1, d2, d3⟩ Wd p)) (QQ : Exit → Act → World → Prop) (hexit : ∀ (u2 u21 u22 u23 u24 u177 u178 u179 u180 u181 u182 u183 u184 u185 u186 u187 u188 u189 u190 u191 u192 u193 u194 u195 u196 u197 u198 u199 u200 u201 u202 u203 u204 u205 u206 u207 u208 u209 u210 u211 u212 u213 u214 u215 u216 u217 u218 u219 u220 u221 u222 u223 u224 u225 u226 u227 u228 u229 u230 u231 u232 u233 u234 u235 u236 u237 u238 u239 u240 u241 u242 u243 u244 u245 u246 u247 u248 u249 u250 u251 u252 u253 u254 u255 u256 u257 u258 u259 u260 u261 u262 u263 u264 u265 u266 u267 u268 u269 u270 u271 u272 u273 u274 u275 u276 u277 u278 u279 u280 u281 u282 : Value) (w' : World), SeenW w w' gs (csB (sI kf jf kn NB) N) → QQ (.exit 8) ⟨List.toArray (c0 :: c1 :: u2 :: c3 :: c4 :: c5 :: c6 :: c7 :: c8 :: Value.int .i64 ((a0 + cntB (sI kf jf kn NB) N : Nat) : Int) :: c10 :: c11 :: c12 :: Value.slice (some ⟨bx, ox, none⟩) BN cX :: c14 :: c15 :: Value.int .i64 (en : Int) :: Value.slice (some ⟨gs, 0, none⟩) N N :: c18 :: Value.slice A NB cb :: c20 :: u21 :: u22 :: u23 :: u24 :: c25 :: c26 :: c27 :: c28 :: c29 :: c30 :: c31 :: c32 :: c33 :: c34 :: c35 :: c36 :: c37 :: c38 :: c39 :: c40 :: c41 :: c42 :: c43 :: c44 :: c45 :: c46 :: c47 :: c48 :: c49 :: c50 :: c51 :: c52 :: c53 :: c54 :: c55 :: c56 :: c57 :: c58 :: c59 :: c60 :: c61 :: c62 :: c63 :: c64 :: c65 :: c66 :: c67 :: c68 :: c69 :: c70 :: c71 :: c72 :: c73 :: c74 :: c75 :: c76 :: c77 :: c78 :: c79 :: c80 :: c81 :: c82 :: c83 :: c84 :: c85 :: c86 :: c87 :: c88 :: c89 :: c90 :: c91 :: c92 :: c93 :: c94 :: c95 :: c96 :: c97 :: c98 :: c99 :: c100 :: c101 :: c102 :: c103 :: c104 :: c105 :: c106 :: c107 :: c108 :: c109 :: c110 :: c111 :: c112 :: c113 :: c114 :: c115 :: c116 :: c117 :: c118 :: c119 :: c120 :: c121 :: c122 :: c123 :: c124 :: c125 :: c126 :: c127 :: c128 :: c129 :: c130 :: c131 :: c132 :: c133 :: c134 :: c135 :: c136 :: c137 :: c138 :: c139 :: c140 :: c141 :: c142 :: c143 :: c144 :: c145 :: c146 :: c147 :: c148 :: c149 :: c150 :: c151 :: c152 :: c153 :: c154 :: c155 :: c156 :: c157 :: c158 :: c159 :: c160 :: c161 :: c162 :: c163 :: c164 :: c165 :: c166 :: c167 :: c168 :: c169 :: c170 :: c171 :: c172 :: c173 :: c174 :: c175 :: c176 :: u177 :: u178 :: u179 :: u180 :: u181 :: u182 :: u183 :: u184 :: u185 :: u186 :: u187 :: u188 :: u189 :: u190 :: u191 :: u192 :: u193 :: u194 :: u195 :: u196 :: u197 :: u198 :: u199 :: u200 :: u201 :: u202 :: u203 :: u204 :: u205 :: u206 :: u207 :: u208 :: u209 :: u210 :: u211 :: u212 :: u213 :: u214 :: u215 :: u216 :: u217 :: u218 :: u219 :: u220 :: u221 :: u222 :: u223 :: u224 :: u225 :: u226 :: u227 :: u228 :: u229 :: u230 :: u231 :: u232 :: u233 :: u234 :: u235 :: u236 :: u237 :: u238 :: u239 :: u240 :: u241 :: u242 :: u243 :: u244 :: u245 :: u246 :: u247 :: u248 :: u249 :: u250 :: u251 :: u252 :: u253 :: u254 :: u255 :: u256 :: u257 :: u258 :: u259 :: u260 :: u261 :: u262 :: u263 :: u264 :: u265 :: u266 :: u267 :: u268 :: u269 :: u270 :: u271 :: u272 :: u273 :: u274 :: u275 :: u276 :: u277 :: u278 :: u279 :: u280 :: u281 :: u282 :: c283 :: c284 :: c285 :: c286 :: c287 :: c288 :: c289 :: c290 :: c291 :: c292 :: c293 :: c294 :: c295 :: c296 :: c297 :: []), []⟩ w') :
    Code.wp Try.prog (Code.loop cvI) QQ ⟨List.toArray (c0 :: c1 :: c2 :: c3 :: c4 :: c5 :: c6 :: c7 :: c8 :: Value.int .i64 ((a0 + cntB (sI kf jf kn 0) N : Nat) : Int) :: c10 :: c11 :: c12 :: Value.slice (some ⟨bx, ox, none⟩) BN cX :: c14 :: c15 :: Value.int .i64 (en : Int) :: Value.slice (some ⟨gs, 0, none⟩) N N :: c18 :: Value.slice A NB cb :: c20 :: Value.int .i64 0 :: c22 :: c23 :: c24 :: c25 :: c26 :: c27 :: c28 :: c29 :: c30 :: c31 :: c32 :: c33 :: c34 :: c35 :: c36 :: c37 :: c38 :: c39 :: c40 :: c41 :: c42 :: c43 :: c44 :: c45 :: c46 :: c47 :: c48 :: c49 :: c50 :: c51 :: c52 :: c53 :: c54 :: c55 :: c56 :: c57 :: c58 :: c59 :: c60 :: c61 :: c62 :: c63 :: c64 :: c65 :: c66 :: c67 :: c68 :: c69 :: c70 :: c71 :: c72 :: c73 :: c74 :: c75 :: c76 :: c77 :: c78 :: c79 :: c80 :: c81 :: c82 :: c83 :: c84 :: c85 :: c86 :: c87 :: c88 :: c89 :: c90 :: c91 :: c92 :: c93 :: c94 :: c95 :: c96 :: c97 :: c98 :: c99 :: c100 :: c101 :: c102 :: c103 :: c104 :: c105 :: c106 :: c107 :: c108 :: c109 :: c110 :: c111 :: c112 :: c113 :: c114 :: c115 :: c116 :: c117 :: c118 :: c119 :: c120 :: c121 :: c122 :: c123 :: c124 :: c125 :: c126 :: c127 :: c128 :: c129 :: c130 :: c131 :: c132 :: c133 :: c134 :: c135 :: c136 :: c137 :: c138 :: c139 :: c140 :: c141 :: c142 :: c143 :: c144 :: c145 :: c146 :: c147 :: c148 :: c149 :: c150 :: c151 :: c152 :: c153 :: c154 :: c155 :: c156 :: c157 :: c158 :: c159 :: c160 :: c161 :: c162 :: c163 :: c164 :: c165 :: c166 :: c167 :: c168 :: c169 :: c170 :: c171 :: c172 :: c173 :: c174 :: c175 :: c176 :: c177 :: c178 :: c179 :: c180 :: c181 :: c182 :: c183 :: c184 :: c185 :: c186 :: c187 :: c188 :: c189 :: c190 :: c191 :: c192 :: c193 :: c194 :: c195 :: c196 :: c197 :: c198 :: c199 :: c200 :: c201 :: c202 :: c203 :: c204 :: c205 :: c206 :: c207 :: c208 :: c209 :: c210 :: c211 :: c212 :: c213 :: c214 :: c215 :: c216 :: c217 :: c218 :: c219 :: c220 :: c221 :: c222 :: c223 :: c224 :: c225 :: c226 :: c227 :: c228 :: c229 :: c230 :: c231 :: c232 :: c233 :: c234 :: c235 :: c236 :: c237 :: c238 :: c239 :: c240 :: c241 :: c242 :: c243 :: c244 :: c245 :: c246 :: c247 :: c248 :: c249 :: c250 :: c251 :: c252 :: c253 :: c254 :: c255 :: c256 :: c257 :: c258 :: c259 :: c260 :: c261 :: c262 :: c263 :: c264 :: c265 :: c266 :: c267 :: c268 :: c269 :: c270 :: c271 :: c272 :: c273 :: c274 :: c275 :: c276 :: c277 :: c278 :: c279 :: c280 :: c281 :: c282 :: c283 :: c284 :: c285 :: c286 :: c287 :: c288 :: c289 :: c290 :: c291 :: c292 :: c293 :: c294 :: c295 :: c296 :: c297 :: []), []⟩ w := by
  have HW := Lib.hid hWd
  have HH := Lib.hid hHd
  have HNN := Lib.hid hN
  have HBL := Lib.hid hblk
  have HA := Lib.hid hA
  have HB := Lib.hid hB
  have HNE := Lib.hid hne
  have HAG := Lib.hid hag
  clear hblk hA hB hne hag
  conv => arg 2; arg 1; whnf
  go_loopw [9, 21] (fun al v wr => ∃ iN : Nat, iN ≤ NB ∧ v = .int .i64 (iN : Int) ∧ al = .int .i64 ((a0 + cntB (sI kf jf kn iN) N : Nat) : Int) ∧ SeenW w wr gs (csB (sI kf jf kn iN) N)) (fun _ v _ => NB - (intOf v).toNat)
  case atStart => exact ⟨0, Nat.zero_le _, rfl, rfl, SeenW.refl hseen⟩
  case round =>
    obtain ⟨iN, hi, rfl, rfl, hsw⟩ := hrel
    obtain ⟨wa, hwa⟩ : ∃ wa, wa = wr := ⟨_, rfl⟩
    subst hwa
    by_cases hlt : iN < NB
    · obtain ⟨bb, ob, hAe, hbl, hbc⟩ := HBL.out.at_ (k := iN) hlt
      have hbb := HAG.out bb ob hAe
      subst hAe
      obtain ⟨r0, r1, r2, r3, hR⟩ : ∃ r0 r1 r2 r3 : Int, blk iN = ⟨r0, r1, r2, r3⟩ := ⟨_, _, _, _, rfl⟩
      have hne := HNE.out iN hlt
      rw [hR] at hne hbc
      simp only at hne
      have f0 : wa.cell? ⟨bb, ob + iN * 4, none⟩ = some (.int .i64 r0) := (hsw.cell hbb _).trans (by have := hbc 0 _ rfl; simpa using this)
      have f1 : wa.cell? ⟨bb, ob + iN * 4 + 1, none⟩ = some (.int .i64 r1) := (hsw.cell hbb _).trans (hbc 1 _ rfl)
      have f2 : wa.cell? ⟨bb, ob + iN * 4 + 2, none⟩ = some (.int .i64 r2) := (hsw.cell hbb _).trans (hbc 2 _ rfl)
      have f3 : wa.cell? ⟨bb, ob + iN * 4 + 3, none⟩ = some (.int .i64 r3) := (hsw.cell hbb _).trans (hbc 3 _ rfl)
      have e0' := (hsw.cell hbx (ox + en * 4)).trans e0
      have e1' := (hsw.cell hbx (ox + en * 4 + 1)).trans e1
      have e2' := (hsw.cell hbx (ox + en * 4 + 2)).trans e2
      have e3' := (hsw.cell hbx (ox + en * 4 + 3)).trans e3
      have hAi := HA.out iN hlt
      rw [hR] at hAi
      have c1 := (hAi r0 r1 ⟨by simp only; omega, by simp only; omega, by simp only; omega, by simp only; omega⟩).1
      have c2 := (hAi (r2 - 1) (r3 - 1) ⟨by simp only; omega, by simp only; omega, by simp only; omega, by simp only; omega⟩).1
      unfold inR at c1 c2
      simp only at c1 c2
      have hseen' := hsw.1
      obtain ⟨sv, hsv⟩ : ∃ sv : Nat → Bool, sI kf jf kn iN = sv := ⟨_, rfl⟩
      have hfr : ∀ x y, inR ⟨r0, r1, r2, r3⟩ x y → sv (pN ⟨d0, d1, d2, d3⟩ Wd x y) = false := fun x y h => by
        obtain ⟨h1, h2, h3⟩ := hAi x y h
        rw [← hsv]
        unfold sI
        rw [h2, h3]
        simp
      have hnx : ∀ q, q < N → sY ⟨d0, d1, d2, d3⟩ Wd ⟨r0, r1, r2, r3⟩ r3 sv q = sI kf jf kn (iN + 1) q := fun q hq => by
        rw [← hsv]
        unfold sY sI
        rw [← Bool.decide_or]
        apply decide_eq_decide.2
        simp only
        have hb := HB.out q hq
        have hpe := pN_eq (d := ⟨d0, d1, d2, d3⟩) (W := Wd) (H := Hd) HW.out HH.out (p := q) (by rw [HNN.out]; exact hq) (x := pX ⟨d0, d1, d2, d3⟩ Wd q) (y := pY ⟨d0, d1, d2, d3⟩ Wd q)
        have hpq := (hpe.2 ⟨rfl, rfl⟩).1
        constructor
        · rintro (h | ⟨h1, h2, h3, h4⟩)
          · omega
          · obtain ⟨_, g1, g2⟩ := hAi (pX ⟨d0, d1, d2, d3⟩ Wd q) (pY ⟨d0, d1, d2, d3⟩ Wd q) ⟨h3, h4, h1, h2⟩
            rw [← hpq] at g1 g2
            omega
        · intro h
          by_cases h5 : kf q = kn ∧ jf q = iN
          · have hb' := (hb h5.1).2
            rw [h5.2, hR] at hb'
            obtain ⟨g1, g2, g3, g4⟩ := hb'
            exact .inr ⟨g3, g4, g1, g2⟩
          · exact .inl (by omega)
      have k7 : IntKind.i64.wrap ((iN : Int) + 1) = ((iN + 1 : Nat) : Int) := by rw [show (iN : Int) + 1 = ((iN + 1 : Nat) : Int) by omega]; exact wr (by omega)
      have HNX := Lib.hid hnx
      have HSW := Lib.hid (show SeenW w wa gs (csB sv N) by rw [← hsv]; exact hsw)
      rw [hsv] at hseen' ⊢
      clear hsw hnx hsv hAi hbc hR
      go_wp2_with fail
      refine cvY_any bx ox BN cX en gs bb ob NB cb iN a0 d0 d1 d2 d3 Wd Hd N r0 r1 r2 r3 sv wa hen HW.out HH.out HNN.out hd ha0 e0' e1' e2' e3' hlt f0 f2 f3 hbx hbb hseen' ⟨⟨by omega, by omega, by omega⟩, by omega, by omega, by omega⟩ hfr _ ?_
      intro u2 u22 u23 u24 u188 u189 u190 u191 u192 u193 u194 u195 u196 u197 u198 u199 u200 u201 u202 u203 u204 u205 u206 u207 u208 u209 u210 u211 u212 u213 u214 u215 u216 u217 u218 u219 u220 u221 u222 u223 u224 u225 u226 u227 u228 u229 u230 u231 u232 u233 u234 u235 u236 u237 u238 u239 u240 u241 u242 u243 u244 u245 u246 u247 u248 u249 u250 u251 u252 u253 u254 u255 u256 u257 u258 u259 u260 u261 u262 u263 u264 u265 u266 u267 u268 u269 u270 u271 u272 u273 u274 u275 u276 u277 u278 u279 u280 u281 u282 wz hz
      rw [cntB_congr HNX.out]
      have hzz := HSW.out.trans hz
      rw [csB_congr HNX.out] at hzz
      clear hz hseen' hfr e0' e1' e2' e3' f0 f1 f2 f3 HSW c1 c2 hne
      go_wp2_with fail
      go_roundw
      case rel => exact ⟨iN + 1, by omega, rfl, rfl, hzz⟩
      case measure => simp [intOf]; omega
    · obtain rfl : iN = NB := by omega
      clear HA HB HNE HBL HAG
      go_wp2_with fail
      all_goals first
        | exact hsw
        | (apply hexit; exact hsw)
end Go.Proofs.Ytmieoifagnpbiaa
