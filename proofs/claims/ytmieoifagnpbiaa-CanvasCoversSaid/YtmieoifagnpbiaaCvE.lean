/- THE E LOOP of waveletlaw12.CanvasCovers: the bands of a resolution. -/
import Derived.Test.YtmieoifagnpbiaaCvK
import Derived.Test.YtmieoifagnpbiaaCvF
import Derived.Deep.CutBlock
import Derived.Deep.LoopGhost
namespace Go.Proofs.Ytmieoifagnpbiaa
open Go.RowKit
attribute [local go_sem] opv opnd
set_option maxHeartbeats 40000000
set_option linter.unusedVariables false
set_option linter.unusedSimpArgs false
set_option maxRecDepth 1000000

theorem cvE_any {c0 c1 c2 c3 c5 c6 c7 c8 c12 c17 c18 c19 c20 c21 c22 c23 c24 c25 c26 c27 c28 c29 c30 c31 c32 c33 c34 c35 c36 c37 c38 c39 c40 c41 c42 c43 c44 c45 c46 c47 c48 c49 c50 c51 c52 c53 c54 c55 c56 c57 c58 c59 c60 c61 c62 c63 c64 c65 c66 c67 c68 c69 c70 c71 c72 c73 c74 c75 c76 c77 c78 c79 c80 c81 c82 c83 c84 c85 c86 c87 c88 c89 c90 c91 c92 c93 c94 c95 c96 c97 c98 c99 c100 c101 c102 c103 c104 c105 c106 c107 c108 c109 c110 c111 c112 c113 c114 c115 c116 c117 c118 c119 c120 c121 c122 c123 c124 c125 c126 c127 c128 c129 c130 c131 c132 c133 c134 c135 c136 c137 c138 c139 c140 c141 c142 c143 c144 c145 c146 c147 c148 c149 c150 c151 c152 c153 c154 c155 c156 c157 c158 c159 c160 c161 c162 c163 c164 c165 c166 c167 c168 c169 c170 c171 c172 c173 c174 c175 c176 c177 c178 c179 c180 c181 c182 c183 c184 c185 c186 c187 c188 c189 c190 c191 c192 c193 c194 c195 c196 c197 c198 c199 c200 c201 c202 c203 c204 c205 c206 c207 c208 c209 c210 c211 c212 c213 c214 c215 c216 c217 c218 c219 c220 c221 c222 c223 c224 c225 c226 c227 c228 c229 c230 c231 c232 c233 c234 c235 c236 c237 c238 c239 c240 c241 c242 c243 c244 c245 c246 c247 c248 c249 c250 c251 c252 c253 c254 c255 c256 c257 c258 c259 c260 c261 c262 c263 c264 c265 c266 c267 c268 c269 c270 c271 c272 c273 c274 c275 c276 c277 c278 c279 c280 c281 c282 c283 c284 c285 c286 c287 c288 c289 c290 c291 c292 c293 c294 c295 c296 c297 : Value} (gp gz bx ox BN cX rn PW PH NK a0 : Nat) (Z0 Z1 Z2 Z3 : Int) (tx ty lv cw ch pr st od ly : Nat) (rct sop eph : Bool) (fb : Nat → Rc) (NBf WBf : Nat → Nat → Nat) (blk : Nat → Nat → Nat → Rc) (kf jf : Nat → Nat → Nat) (w : World) (hBN : BN ≤ 3) (ha0 : a0 ≤ 1073741824) (hNK : PW * PH = NK) (hPW : PW ≤ 1048576) (hPH : PH ≤ 1048576) (par : w.heap[gp]? = some (.cells #[.int .i64 (tx : Int), .int .i64 (ty : Int), .int .i64 (lv : Int), .int .i64 (cw : Int), .int .i64 (ch : Int), .int .i64 (pr : Int), .int .i64 (st : Int), .int .i64 (od : Int), .int .i64 (ly : Int), .bool rct, .bool sop, .bool eph] 27 (0, 0))) (rz : w.heap[gz]? = some (.cells #[.int .i64 Z0, .int .i64 Z1, .int .i64 Z2, .int .i64 Z3] 53 (0, 0))) (hX : CellsAt w w.heap.size (some ⟨bx, ox, none⟩) 4 BN (fun k => rcL (fb k))) (hfb : ∀ e, e < BN → ((0 ≤ (fb e).x0 ∧ (fb e).x0 ≤ 64) ∧ (0 ≤ (fb e).y0 ∧ (fb e).y0 ≤ 64) ∧ (0 ≤ (fb e).x1 ∧ (fb e).x1 ≤ 64) ∧ (0 ≤ (fb e).y1 ∧ (fb e).y1 ≤ 64)) ∧ (fb e).x0 ≤ (fb e).x1 ∧ (fb e).y0 ≤ (fb e).y1) (H1 : ∀ (en kn : Nat) (v : World), en < BN → kn < NK → Calls Try.prog 31 #[.agg #[.int .i64 (fb en).x0, .int .i64 (fb en).y0, .int .i64 (fb en).x1, .int .i64 (fb en).y1], .agg #[.int .i64 Z0, .int .i64 Z1, .int .i64 Z2, .int .i64 Z3], .agg #[.int .i64 (tx : Int), .int .i64 (ty : Int), .int .i64 (lv : Int), .int .i64 (cw : Int), .int .i64 (ch : Int), .int .i64 (pr : Int), .int .i64 (st : Int), .int .i64 (od : Int), .int .i64 (ly : Int), .bool rct, .bool sop, .bool eph], .int .i64 (rn : Int), .int .i64 (kn : Int)] v fun e' w' => ∃ A c, e' = .returned (.tuple #[.slice A (NBf en kn) c, .int .i64 ((WBf en kn : Nat) : Int)]) ∧ OwnC w' v.heap.size 53 4 (.slice A (NBf en kn) c) (NBf en kn) (fun i => rcL (blk en kn i)) ∧ Below v.heap.size v w') (hNBb : ∀ en k, en < BN → k < NK → NBf en k ≤ 1048576) (hne : ∀ en k i, en < BN → k < NK → i < NBf en k → (blk en k i).x0 < (blk en k i).x1 ∧ (blk en k i).y0 < (blk en k i).y1) (hA : ∀ en k i, en < BN → k < NK → i < NBf en k → ∀ x y, inR (blk en k i) x y → inR (fb en) x y ∧ kf en (pN (fb en) (((fb en).x1 - (fb en).x0).toNat) x y) = k ∧ jf en (pN (fb en) (((fb en).x1 - (fb en).x0).toNat) x y) = i) (hB : ∀ en p, en < BN → p < areaR (fb en) → kf en p < NK ∧ jf en p < NBf en (kf en p) ∧ inR (blk en (kf en p) (jf en p)) (pX (fb en) (((fb en).x1 - (fb en).x0).toNat) p) (pY (fb en) (((fb en).x1 - (fb en).x0).toNat) p)) (QQ : Exit → Act → World → Prop) (hexit : ∀ (u2 u16 u17 u18 u19 u20 u21 u22 u23 u24 u25 u146 u147 u148 u149 u150 u151 u152 u153 u154 u155 u156 u157 u158 u159 u160 u161 u162 u163 u164 u165 u166 u167 u168 u169 u170 u171 u172 u173 u174 u175 u176 u177 u178 u179 u180 u181 u182 u183 u184 u185 u186 u187 u188 u189 u190 u191 u192 u193 u194 u195 u196 u197 u198 u199 u200 u201 u202 u203 u204 u205 u206 u207 u208 u209 u210 u211 u212 u213 u214 u215 u216 u217 u218 u219 u220 u221 u222 u223 u224 u225 u226 u227 u228 u229 u230 u231 u232 u233 u234 u235 u236 u237 u238 u239 u240 u241 u242 u243 u244 u245 u246 u247 u248 u249 u250 u251 u252 u253 u254 u255 u256 u257 u258 u259 u260 u261 u262 u263 u264 u265 u266 u267 u268 u269 u270 u271 u272 u273 u274 u275 u276 u277 u278 u279 u280 u281 u282 u283 u284 u285 u286 u287 u288 u289 u290 u291 u292 u293 : Value) (w' : World), Below w.heap.size w w' → QQ (.exit 4) ⟨List.toArray (c0 :: c1 :: u2 :: c3 :: Value.pointer (some ⟨gp, 0, none⟩) :: c5 :: c6 :: c7 :: c8 :: Value.int .i64 ((a0 + ssum (fun j => areaR (fb j)) BN : Nat) : Int) :: Value.int .i64 (rn : Int) :: Value.pointer (some ⟨gz, 0, none⟩) :: c12 :: Value.slice (some ⟨bx, ox, none⟩) BN cX :: Value.int .i64 (PW : Int) :: Value.int .i64 (PH : Int) :: u16 :: u17 :: u18 :: u19 :: u20 :: u21 :: u22 :: u23 :: u24 :: u25 :: c26 :: c27 :: c28 :: c29 :: c30 :: c31 :: c32 :: c33 :: c34 :: c35 :: c36 :: c37 :: c38 :: c39 :: c40 :: c41 :: c42 :: c43 :: c44 :: c45 :: c46 :: c47 :: c48 :: c49 :: c50 :: c51 :: c52 :: c53 :: c54 :: c55 :: c56 :: c57 :: c58 :: c59 :: c60 :: c61 :: c62 :: c63 :: c64 :: c65 :: c66 :: c67 :: c68 :: c69 :: c70 :: c71 :: c72 :: c73 :: c74 :: c75 :: c76 :: c77 :: c78 :: c79 :: c80 :: c81 :: c82 :: c83 :: c84 :: c85 :: c86 :: c87 :: c88 :: c89 :: c90 :: c91 :: c92 :: c93 :: c94 :: c95 :: c96 :: c97 :: c98 :: c99 :: c100 :: c101 :: c102 :: c103 :: c104 :: c105 :: c106 :: c107 :: c108 :: c109 :: c110 :: c111 :: c112 :: c113 :: c114 :: c115 :: c116 :: c117 :: c118 :: c119 :: c120 :: c121 :: c122 :: c123 :: c124 :: c125 :: c126 :: c127 :: c128 :: c129 :: c130 :: c131 :: c132 :: c133 :: c134 :: c135 :: c136 :: c137 :: c138 :: c139 :: c140 :: c141 :: c142 :: c143 :: c144 :: c145 :: u146 :: u147 :: u148 :: u149 :: u150 :: u151 :: u152 :: u153 :: u154 :: u155 :: u156 :: u157 :: u158 :: u159 :: u160 :: u161 :: u162 :: u163 :: u164 :: u165 :: u166 :: u167 :: u168 :: u169 :: u170 :: u171 :: u172 :: u173 :: u174 :: u175 :: u176 :: u177 :: u178 :: u179 :: u180 :: u181 :: u182 :: u183 :: u184 :: u185 :: u186 :: u187 :: u188 :: u189 :: u190 :: u191 :: u192 :: u193 :: u194 :: u195 :: u196 :: u197 :: u198 :: u199 :: u200 :: u201 :: u202 :: u203 :: u204 :: u205 :: u206 :: u207 :: u208 :: u209 :: u210 :: u211 :: u212 :: u213 :: u214 :: u215 :: u216 :: u217 :: u218 :: u219 :: u220 :: u221 :: u222 :: u223 :: u224 :: u225 :: u226 :: u227 :: u228 :: u229 :: u230 :: u231 :: u232 :: u233 :: u234 :: u235 :: u236 :: u237 :: u238 :: u239 :: u240 :: u241 :: u242 :: u243 :: u244 :: u245 :: u246 :: u247 :: u248 :: u249 :: u250 :: u251 :: u252 :: u253 :: u254 :: u255 :: u256 :: u257 :: u258 :: u259 :: u260 :: u261 :: u262 :: u263 :: u264 :: u265 :: u266 :: u267 :: u268 :: u269 :: u270 :: u271 :: u272 :: u273 :: u274 :: u275 :: u276 :: u277 :: u278 :: u279 :: u280 :: u281 :: u282 :: u283 :: u284 :: u285 :: u286 :: u287 :: u288 :: u289 :: u290 :: u291 :: u292 :: u293 :: c294 :: c295 :: c296 :: c297 :: []), []⟩ w') :
    Code.wp Try.prog (Code.loop cvE) QQ ⟨List.toArray (c0 :: c1 :: c2 :: c3 :: Value.pointer (some ⟨gp, 0, none⟩) :: c5 :: c6 :: c7 :: c8 :: Value.int .i64 ((a0 + ssum (fun j => areaR (fb j)) 0 : Nat) : Int) :: Value.int .i64 (rn : Int) :: Value.pointer (some ⟨gz, 0, none⟩) :: c12 :: Value.slice (some ⟨bx, ox, none⟩) BN cX :: Value.int .i64 (PW : Int) :: Value.int .i64 (PH : Int) :: Value.int .i64 0 :: c17 :: c18 :: c19 :: c20 :: c21 :: c22 :: c23 :: c24 :: c25 :: c26 :: c27 :: c28 :: c29 :: c30 :: c31 :: c32 :: c33 :: c34 :: c35 :: c36 :: c37 :: c38 :: c39 :: c40 :: c41 :: c42 :: c43 :: c44 :: c45 :: c46 :: c47 :: c48 :: c49 :: c50 :: c51 :: c52 :: c53 :: c54 :: c55 :: c56 :: c57 :: c58 :: c59 :: c60 :: c61 :: c62 :: c63 :: c64 :: c65 :: c66 :: c67 :: c68 :: c69 :: c70 :: c71 :: c72 :: c73 :: c74 :: c75 :: c76 :: c77 :: c78 :: c79 :: c80 :: c81 :: c82 :: c83 :: c84 :: c85 :: c86 :: c87 :: c88 :: c89 :: c90 :: c91 :: c92 :: c93 :: c94 :: c95 :: c96 :: c97 :: c98 :: c99 :: c100 :: c101 :: c102 :: c103 :: c104 :: c105 :: c106 :: c107 :: c108 :: c109 :: c110 :: c111 :: c112 :: c113 :: c114 :: c115 :: c116 :: c117 :: c118 :: c119 :: c120 :: c121 :: c122 :: c123 :: c124 :: c125 :: c126 :: c127 :: c128 :: c129 :: c130 :: c131 :: c132 :: c133 :: c134 :: c135 :: c136 :: c137 :: c138 :: c139 :: c140 :: c141 :: c142 :: c143 :: c144 :: c145 :: c146 :: c147 :: c148 :: c149 :: c150 :: c151 :: c152 :: c153 :: c154 :: c155 :: c156 :: c157 :: c158 :: c159 :: c160 :: c161 :: c162 :: c163 :: c164 :: c165 :: c166 :: c167 :: c168 :: c169 :: c170 :: c171 :: c172 :: c173 :: c174 :: c175 :: c176 :: c177 :: c178 :: c179 :: c180 :: c181 :: c182 :: c183 :: c184 :: c185 :: c186 :: c187 :: c188 :: c189 :: c190 :: c191 :: c192 :: c193 :: c194 :: c195 :: c196 :: c197 :: c198 :: c199 :: c200 :: c201 :: c202 :: c203 :: c204 :: c205 :: c206 :: c207 :: c208 :: c209 :: c210 :: c211 :: c212 :: c213 :: c214 :: c215 :: c216 :: c217 :: c218 :: c219 :: c220 :: c221 :: c222 :: c223 :: c224 :: c225 :: c226 :: c227 :: c228 :: c229 :: c230 :: c231 :: c232 :: c233 :: c234 :: c235 :: c236 :: c237 :: c238 :: c239 :: c240 :: c241 :: c242 :: c243 :: c244 :: c245 :: c246 :: c247 :: c248 :: c249 :: c250 :: c251 :: c252 :: c253 :: c254 :: c255 :: c256 :: c257 :: c258 :: c259 :: c260 :: c261 :: c262 :: c263 :: c264 :: c265 :: c266 :: c267 :: c268 :: c269 :: c270 :: c271 :: c272 :: c273 :: c274 :: c275 :: c276 :: c277 :: c278 :: c279 :: c280 :: c281 :: c282 :: c283 :: c284 :: c285 :: c286 :: c287 :: c288 :: c289 :: c290 :: c291 :: c292 :: c293 :: c294 :: c295 :: c296 :: c297 :: []), []⟩ w := by
  have G1 := Lib.hid H1
  have HA := Lib.hid hA
  have HB := Lib.hid hB
  have HNE := Lib.hid hne
  have HNB := Lib.hid hNBb
  have HX := Lib.hid hX
  have HFB := Lib.hid hfb
  have HNK := Lib.hid hNK
  have lp : gp < w.heap.size := (Array.getElem?_eq_some_iff.1 par).1
  have lz : gz < w.heap.size := (Array.getElem?_eq_some_iff.1 rz).1
  clear H1 hA hB hne hNBb hX hfb hNK
  conv => arg 2; arg 1; whnf
  go_loopw [9, 16] (fun al v wr => ∃ en : Nat, en ≤ BN ∧ v = .int .i64 (en : Int) ∧ al = .int .i64 ((a0 + ssum (fun j => areaR (fb j)) en : Nat) : Int) ∧ a0 + ssum (fun j => areaR (fb j)) en ≤ 1073741824 + 4096 * en ∧ Below w.heap.size w wr) (fun _ v _ => BN - (intOf v).toNat)
  case atStart => exact ⟨0, Nat.zero_le _, rfl, rfl, by simp only [ssum]; omega, Below.refl _ _⟩
  case round =>
    obtain ⟨en, hen, rfl, rfl, han, hbe⟩ := hrel
    obtain ⟨wa, hwa⟩ : ∃ wa, wa = wr := ⟨_, rfl⟩
    subst hwa
    have hle := hbe.size
    by_cases hlt : en < BN
    · have par1 := (hbe.block gp lp).trans par
      have rz1 := (hbe.block gz lz).trans rz
      obtain ⟨b', o', eA, hbx, hcx⟩ := (HX.out.below hbe).at_ (k := en) hlt
      cases eA
      obtain ⟨d0, d1, d2, d3, hD⟩ : ∃ d0 d1 d2 d3 : Int, fb en = ⟨d0, d1, d2, d3⟩ := ⟨_, _, _, _, rfl⟩
      have hfe := HFB.out en hlt
      have h1 := fun (kn : Nat) (v : World) (hk : kn < NK) => G1.out en kn v hlt hk
      have hA' := fun (k i : Nat) (hk : k < NK) (hi : i < NBf en k) => HA.out en k i hlt hk hi
      have hB' := fun (p : Nat) (hp : p < areaR (fb en)) => HB.out en p hlt hp
      simp only [hD] at hfe h1 hA' hB' hcx
      have e0 : wa.cell? ⟨bx, ox + en * 4, none⟩ = some (.int .i64 d0) := by have := hcx 0 _ rfl; simpa using this
      have e1 : wa.cell? ⟨bx, ox + en * 4 + 1, none⟩ = some (.int .i64 d1) := hcx 1 _ rfl
      have e2 : wa.cell? ⟨bx, ox + en * 4 + 2, none⟩ = some (.int .i64 d2) := hcx 2 _ rfl
      have e3 : wa.cell? ⟨bx, ox + en * 4 + 3, none⟩ = some (.int .i64 d3) := hcx 3 _ rfl
      have HAr := Lib.hid (fun v => areaR_any ⟨d0, d1, d2, d3⟩ (by simp only; omega) (by simp only; omega) (by simp only; omega) (by simp only; omega) v)
      obtain ⟨N, hN⟩ : ∃ N, areaR ⟨d0, d1, d2, d3⟩ = N := ⟨_, rfl⟩
      have hs1 : ssum (fun j => areaR (fb j)) (en + 1) = ssum (fun j => areaR (fb j)) en + N := by
        rw [show ssum (fun j => areaR (fb j)) (en + 1) = ssum (fun j => areaR (fb j)) en + areaR (fb en) from rfl, hD, hN]
      rw [hN] at HAr hB'
      obtain ⟨Wd, hWd⟩ : ∃ z, (d2 - d0).toNat = z := ⟨_, rfl⟩
      obtain ⟨Hd, hHd⟩ : ∃ z, (d3 - d1).toNat = z := ⟨_, rfl⟩
      rw [hWd] at hA' hB'
      have hNW : Wd * Hd = N := by rw [← hN, ← hWd, ← hHd]; rfl
      have hWi : (Wd : Int) = d2 - d0 := by omega
      have hHi : (Hd : Int) = d3 - d1 := by omega
      have hN64 : N ≤ 4096 := by rw [← hNW]; exact Nat.mul_le_mul (show Wd ≤ 64 by omega) (show Hd ≤ 64 by omega)
      unfold rcV at HAr
      simp only at HAr
      obtain ⟨an, hane⟩ : ∃ z, a0 + ssum (fun j => areaR (fb j)) en = z := ⟨_, rfl⟩
      rw [hane] at han ⊢
      have HS1 := Lib.hid hs1
      have HAN := Lib.hid hane
      have HHA := Lib.hid hA'
      have HHB := Lib.hid hB'
      have HH1 := Lib.hid h1
      have HNW := Lib.hid hNW
      have HWi := Lib.hid hWi
      have HHi := Lib.hid hHi
      have hen3 : en < 3 := by omega
      have hdb : (0 ≤ d0 ∧ d0 ≤ 64) ∧ (0 ≤ d1 ∧ d1 ≤ 64) ∧ (0 ≤ d2 ∧ d2 ≤ 64) ∧ (0 ≤ d3 ∧ d3 ≤ 64) := by omega
      have lbx : bx < wa.heap.size := Nat.lt_of_lt_of_le hbx hle
      clear hs1 hane hA' hB' h1 hNW hN hWd hHd hWi hHi hD hcx hfe
      go_wp2_with fail
      refine (HAr.out _).mono ?_
      rintro e' V1 ⟨rfl, hv1⟩
      have par2 := (hv1.block gp (by omega)).trans par1
      have rz2 := (hv1.block gz (by omega)).trans rz1
      have e0' := (hv1.cell (p := ⟨bx, ox + en * 4, none⟩) lbx).trans e0
      have e1' := (hv1.cell (p := ⟨bx, ox + en * 4 + 1, none⟩) lbx).trans e1
      have e2' := (hv1.cell (p := ⟨bx, ox + en * 4 + 2, none⟩) lbx).trans e2
      have e3' := (hv1.cell (p := ⟨bx, ox + en * 4 + 3, none⟩) lbx).trans e3
      have b1 := hbe.trans (hv1.mono hle)
      have sz1 := b1.size
      have lbx1 : bx < V1.heap.size := Nat.lt_of_lt_of_le lbx hv1.size
      clear e0 e1 e2 e3 par1 rz1 hv1 HAr hbe
      have hmk := run_makeB N hN64 V1
      go_upto_region 26 with fail
      clear hmk
      obtain ⟨gs, hgs⟩ : ∃ g, V1.heap.size = g := ⟨_, rfl⟩
      generalize hV2 : World.alloc V1 _ = V2
      have sn2 : V2.heap[gs]? = some (.cells (csB (sI (kf en) (jf en) 0 0) N) 4 (0, 0)) := by
        rw [csB_congr (t := fun _ => false) (fun p _ => by unfold sI; simp), ← made_csB, ← hV2, ← hgs]; exact heap_alloc_new V1 _
      have h2 : Below gs V1 V2 := by rw [← hV2, ← hgs]; exact below_alloc (Below.refl _ _) _
      rw [hgs] at lbx1 sz1 ⊢
      have par3 := (h2.block gp (by omega)).trans par2
      have rz3 := (h2.block gz (by omega)).trans rz2
      have e0'' := (h2.cell (p := ⟨bx, ox + en * 4, none⟩) lbx1).trans e0'
      have e1'' := (h2.cell (p := ⟨bx, ox + en * 4 + 1, none⟩) lbx1).trans e1'
      have e2'' := (h2.cell (p := ⟨bx, ox + en * 4 + 2, none⟩) lbx1).trans e2'
      have e3'' := (h2.cell (p := ⟨bx, ox + en * 4 + 3, none⟩) lbx1).trans e3'
      have b2 := b1.trans (h2.mono sz1)
      have lp2 : gp < gs := by omega
      have lz2 : gz < gs := by omega
      clear hV2 hgs e0' e1' e2' e3' par2 rz2 h2 b1
      go_wp2_with fail
      rw [show (an : Int) = ((an + cntB (sI (kf en) (jf en) 0 0) N : Nat) : Int) by rw [cntB_none (fun p _ => by unfold sI; simp)]; rfl]
      refine cvK_any gp gz bx ox BN cX en gs rn PW PH NK an d0 d1 d2 d3 Wd Hd N Z0 Z1 Z2 Z3 tx ty lv cw ch pr st od ly rct sop eph (NBf en) (WBf en) (blk en) (kf en) (jf en) V2 hlt hBN HWi.out HHi.out HNW.out hdb (by omega) HNK.out hPW hPH lp2 lz2 lbx1 e0'' e1'' e2'' e3'' par3 rz3 sn2 HH1.out (fun k hk => HNB.out en k hlt hk) (fun k i hk hi => HNE.out en k i hlt hk hi) HHA.out HHB.out _ ?_
      intro u2 u18 u19 u20 u21 u22 u23 u24 u158 u159 u160 u161 u162 u163 u164 u165 u166 u167 u168 u169 u170 u171 u172 u173 u174 u175 u176 u177 u178 u179 u180 u181 u182 u183 u184 u185 u186 u187 u188 u189 u190 u191 u192 u193 u194 u195 u196 u197 u198 u199 u200 u201 u202 u203 u204 u205 u206 u207 u208 u209 u210 u211 u212 u213 u214 u215 u216 u217 u218 u219 u220 u221 u222 u223 u224 u225 u226 u227 u228 u229 u230 u231 u232 u233 u234 u235 u236 u237 u238 u239 u240 u241 u242 u243 u244 u245 u246 u247 u248 u249 u250 u251 u252 u253 u254 u255 u256 u257 u258 u259 u260 u261 u262 u263 u264 u265 u266 u267 u268 u269 u270 u271 u272 u273 u274 u275 u276 u277 u278 u279 u280 u281 u282 wz hz
      obtain ⟨hz1, hz2⟩ := hz
      have hall : ∀ p, p < N → sI (kf en) (jf en) NK 0 p = true := fun p hp => by unfold sI; exact decide_eq_true (.inl (HHB.out p hp).1)
      rw [cntB_all hall]
      have hbz := b2.trans (hz1.mono sz1)
      have HALL := Lib.hid hall
      clear hall hz1 b2 e0'' e1'' e2'' e3'' par3 rz3 sn2
      go_wp2_with fail
      refine cvF_any gs N (sI (kf en) (jf en) NK 0) wz hN64 hz2 HALL.out _ ?_
      intro u2 u25 u283 u284 u285 u286 u287 u288 u289 u290 u291 u292 u293 wy hw
      subst hw
      clear hz2
      go_wp2_with fail
      go_roundw
      case rel => exact ⟨en + 1, by omega, by go_num, by rw [HS1.out, ← Nat.add_assoc, HAN.out], by rw [HS1.out, ← Nat.add_assoc, HAN.out]; omega, hbz⟩
      case measure => simp [intOf]; omega
    · obtain rfl : en = BN := by omega
      clear HA HB HNE HNB G1 HFB HX
      go_wp2_with fail
      all_goals first
        | exact hbe
        | (apply hexit; exact hbe)
end Go.Proofs.Ytmieoifagnpbiaa
