/- THE R LOOP of waveletlaw12.CanvasCovers: the resolutions of a part. -/
import Derived.Test.YtmieoifagnpbiaaCvE
import Derived.Test.YtmieoifagnpbiaaCovE
import Derived.Deep.CutBlock
import Derived.Deep.LoopGhost
namespace Go.Proofs.Ytmieoifagnpbiaa
open Go.RowKit
attribute [local go_sem] opv opnd
set_option maxHeartbeats 40000000
set_option linter.unusedVariables false
set_option linter.unusedSimpArgs false
set_option maxRecDepth 1000000

theorem cvR_any {c0 c1 c2 c3 c5 c6 c7 c11 c12 c13 c14 c15 c16 c17 c18 c19 c20 c21 c22 c23 c24 c25 c26 c27 c28 c29 c30 c31 c32 c33 c34 c35 c36 c37 c38 c39 c40 c41 c42 c43 c44 c45 c46 c47 c48 c49 c50 c51 c52 c53 c54 c55 c56 c57 c58 c59 c60 c61 c62 c63 c64 c65 c66 c67 c68 c69 c70 c71 c72 c73 c74 c75 c76 c77 c78 c79 c80 c81 c82 c83 c84 c85 c86 c87 c88 c89 c90 c91 c92 c93 c94 c95 c96 c97 c98 c99 c100 c101 c102 c103 c104 c105 c106 c107 c108 c109 c110 c111 c112 c113 c114 c115 c116 c117 c118 c119 c120 c121 c122 c123 c124 c125 c126 c127 c128 c129 c130 c131 c132 c133 c134 c135 c136 c137 c138 c139 c140 c141 c142 c143 c144 c145 c146 c147 c148 c149 c150 c151 c152 c153 c154 c155 c156 c157 c158 c159 c160 c161 c162 c163 c164 c165 c166 c167 c168 c169 c170 c171 c172 c173 c174 c175 c176 c177 c178 c179 c180 c181 c182 c183 c184 c185 c186 c187 c188 c189 c190 c191 c192 c193 c194 c195 c196 c197 c198 c199 c200 c201 c202 c203 c204 c205 c206 c207 c208 c209 c210 c211 c212 c213 c214 c215 c216 c217 c218 c219 c220 c221 c222 c223 c224 c225 c226 c227 c228 c229 c230 c231 c232 c233 c234 c235 c236 c237 c238 c239 c240 c241 c242 c243 c244 c245 c246 c247 c248 c249 c250 c251 c252 c253 c254 c255 c256 c257 c258 c259 c260 c261 c262 c263 c264 c265 c266 c267 c268 c269 c270 c271 c272 c273 c274 c275 c276 c277 c278 c279 c280 c281 c282 c283 c284 c285 c286 c287 c288 c289 c290 c291 c292 c293 c294 c295 c296 c297 : Value} (gp gq : Nat) (Q0 Q1 Q2 Q3 : Nat) (tx ty lv cw ch pr st od ly : Nat) (rct sop eph : Bool) (w : World) (hQ : Q0 ≤ 64 ∧ Q1 ≤ 64 ∧ Q2 ≤ 64 ∧ Q3 ≤ 64) (hQo : Q0 ≤ Q2 ∧ Q1 ≤ Q3) (hlv : lv ≤ 18) (hcw : cw ≤ 6) (hch : ch ≤ 6) (hpr : 1 ≤ pr ∧ pr ≤ 15) (hway : waysB lv cw ch pr st od ly = true) (par : w.heap[gp]? = some (.cells #[.int .i64 (tx : Int), .int .i64 (ty : Int), .int .i64 (lv : Int), .int .i64 (cw : Int), .int .i64 (ch : Int), .int .i64 (pr : Int), .int .i64 (st : Int), .int .i64 (od : Int), .int .i64 (ly : Int), .bool rct, .bool sop, .bool eph] 27 (0, 0))) (rq : w.heap[gq]? = some (.cells #[.int .i64 (Q0 : Int), .int .i64 (Q1 : Int), .int .i64 (Q2 : Int), .int .i64 (Q3 : Int)] 53 (0, 0))) (QQ : Exit → Act → World → Prop) (hexit : ∀ (u2 u10 u11 u12 u13 u14 u15 u16 u17 u18 u19 u20 u21 u22 u23 u24 u25 u120 u121 u122 u123 u124 u125 u126 u127 u128 u129 u130 u131 u132 u133 u134 u135 u136 u137 u138 u139 u140 u141 u142 u143 u144 u145 u146 u147 u148 u149 u150 u151 u152 u153 u154 u155 u156 u157 u158 u159 u160 u161 u162 u163 u164 u165 u166 u167 u168 u169 u170 u171 u172 u173 u174 u175 u176 u177 u178 u179 u180 u181 u182 u183 u184 u185 u186 u187 u188 u189 u190 u191 u192 u193 u194 u195 u196 u197 u198 u199 u200 u201 u202 u203 u204 u205 u206 u207 u208 u209 u210 u211 u212 u213 u214 u215 u216 u217 u218 u219 u220 u221 u222 u223 u224 u225 u226 u227 u228 u229 u230 u231 u232 u233 u234 u235 u236 u237 u238 u239 u240 u241 u242 u243 u244 u245 u246 u247 u248 u249 u250 u251 u252 u253 u254 u255 u256 u257 u258 u259 u260 u261 u262 u263 u264 u265 u266 u267 u268 u269 u270 u271 u272 u273 u274 u275 u276 u277 u278 u279 u280 u281 u282 u283 u284 u285 u286 u287 u288 u289 u290 u291 u292 u293 : Value) (w' : World), Below w.heap.size w w' → QQ (.exit 2) ⟨List.toArray (c0 :: c1 :: u2 :: c3 :: Value.pointer (some ⟨gp, 0, none⟩) :: c5 :: c6 :: c7 :: Value.pointer (some ⟨gq, 0, none⟩) :: Value.int .i64 ((totR ⟨(Q0 : Int), (Q1 : Int), (Q2 : Int), (Q3 : Int)⟩ lv (lv + 1) : Nat) : Int) :: u10 :: u11 :: u12 :: u13 :: u14 :: u15 :: u16 :: u17 :: u18 :: u19 :: u20 :: u21 :: u22 :: u23 :: u24 :: u25 :: c26 :: c27 :: c28 :: c29 :: c30 :: c31 :: c32 :: c33 :: c34 :: c35 :: c36 :: c37 :: c38 :: c39 :: c40 :: c41 :: c42 :: c43 :: c44 :: c45 :: c46 :: c47 :: c48 :: c49 :: c50 :: c51 :: c52 :: c53 :: c54 :: c55 :: c56 :: c57 :: c58 :: c59 :: c60 :: c61 :: c62 :: c63 :: c64 :: c65 :: c66 :: c67 :: c68 :: c69 :: c70 :: c71 :: c72 :: c73 :: c74 :: c75 :: c76 :: c77 :: c78 :: c79 :: c80 :: c81 :: c82 :: c83 :: c84 :: c85 :: c86 :: c87 :: c88 :: c89 :: c90 :: c91 :: c92 :: c93 :: c94 :: c95 :: c96 :: c97 :: c98 :: c99 :: c100 :: c101 :: c102 :: c103 :: c104 :: c105 :: c106 :: c107 :: c108 :: c109 :: c110 :: c111 :: c112 :: c113 :: c114 :: c115 :: c116 :: c117 :: c118 :: c119 :: u120 :: u121 :: u122 :: u123 :: u124 :: u125 :: u126 :: u127 :: u128 :: u129 :: u130 :: u131 :: u132 :: u133 :: u134 :: u135 :: u136 :: u137 :: u138 :: u139 :: u140 :: u141 :: u142 :: u143 :: u144 :: u145 :: u146 :: u147 :: u148 :: u149 :: u150 :: u151 :: u152 :: u153 :: u154 :: u155 :: u156 :: u157 :: u158 :: u159 :: u160 :: u161 :: u162 :: u163 :: u164 :: u165 :: u166 :: u167 :: u168 :: u169 :: u170 :: u171 :: u172 :: u173 :: u174 :: u175 :: u176 :: u177 :: u178 :: u179 :: u180 :: u181 :: u182 :: u183 :: u184 :: u185 :: u186 :: u187 :: u188 :: u189 :: u190 :: u191 :: u192 :: u193 :: u194 :: u195 :: u196 :: u197 :: u198 :: u199 :: u200 :: u201 :: u202 :: u203 :: u204 :: u205 :: u206 :: u207 :: u208 :: u209 :: u210 :: u211 :: u212 :: u213 :: u214 :: u215 :: u216 :: u217 :: u218 :: u219 :: u220 :: u221 :: u222 :: u223 :: u224 :: u225 :: u226 :: u227 :: u228 :: u229 :: u230 :: u231 :: u232 :: u233 :: u234 :: u235 :: u236 :: u237 :: u238 :: u239 :: u240 :: u241 :: u242 :: u243 :: u244 :: u245 :: u246 :: u247 :: u248 :: u249 :: u250 :: u251 :: u252 :: u253 :: u254 :: u255 :: u256 :: u257 :: u258 :: u259 :: u260 :: u261 :: u262 :: u263 :: u264 :: u265 :: u266 :: u267 :: u268 :: u269 :: u270 :: u271 :: u272 :: u273 :: u274 :: u275 :: u276 :: u277 :: u278 :: u279 :: u280 :: u281 :: u282 :: u283 :: u284 :: u285 :: u286 :: u287 :: u288 :: u289 :: u290 :: u291 :: u292 :: u293 :: c294 :: c295 :: c296 :: c297 :: []), []⟩ w') :
    Code.wp Try.prog (Code.loop cvR) QQ ⟨List.toArray (c0 :: c1 :: c2 :: c3 :: Value.pointer (some ⟨gp, 0, none⟩) :: c5 :: c6 :: c7 :: Value.pointer (some ⟨gq, 0, none⟩) :: Value.int .i64 ((totR ⟨(Q0 : Int), (Q1 : Int), (Q2 : Int), (Q3 : Int)⟩ lv 0 : Nat) : Int) :: Value.int .i64 0 :: c11 :: c12 :: c13 :: c14 :: c15 :: c16 :: c17 :: c18 :: c19 :: c20 :: c21 :: c22 :: c23 :: c24 :: c25 :: c26 :: c27 :: c28 :: c29 :: c30 :: c31 :: c32 :: c33 :: c34 :: c35 :: c36 :: c37 :: c38 :: c39 :: c40 :: c41 :: c42 :: c43 :: c44 :: c45 :: c46 :: c47 :: c48 :: c49 :: c50 :: c51 :: c52 :: c53 :: c54 :: c55 :: c56 :: c57 :: c58 :: c59 :: c60 :: c61 :: c62 :: c63 :: c64 :: c65 :: c66 :: c67 :: c68 :: c69 :: c70 :: c71 :: c72 :: c73 :: c74 :: c75 :: c76 :: c77 :: c78 :: c79 :: c80 :: c81 :: c82 :: c83 :: c84 :: c85 :: c86 :: c87 :: c88 :: c89 :: c90 :: c91 :: c92 :: c93 :: c94 :: c95 :: c96 :: c97 :: c98 :: c99 :: c100 :: c101 :: c102 :: c103 :: c104 :: c105 :: c106 :: c107 :: c108 :: c109 :: c110 :: c111 :: c112 :: c113 :: c114 :: c115 :: c116 :: c117 :: c118 :: c119 :: c120 :: c121 :: c122 :: c123 :: c124 :: c125 :: c126 :: c127 :: c128 :: c129 :: c130 :: c131 :: c132 :: c133 :: c134 :: c135 :: c136 :: c137 :: c138 :: c139 :: c140 :: c141 :: c142 :: c143 :: c144 :: c145 :: c146 :: c147 :: c148 :: c149 :: c150 :: c151 :: c152 :: c153 :: c154 :: c155 :: c156 :: c157 :: c158 :: c159 :: c160 :: c161 :: c162 :: c163 :: c164 :: c165 :: c166 :: c167 :: c168 :: c169 :: c170 :: c171 :: c172 :: c173 :: c174 :: c175 :: c176 :: c177 :: c178 :: c179 :: c180 :: c181 :: c182 :: c183 :: c184 :: c185 :: c186 :: c187 :: c188 :: c189 :: c190 :: c191 :: c192 :: c193 :: c194 :: c195 :: c196 :: c197 :: c198 :: c199 :: c200 :: c201 :: c202 :: c203 :: c204 :: c205 :: c206 :: c207 :: c208 :: c209 :: c210 :: c211 :: c212 :: c213 :: c214 :: c215 :: c216 :: c217 :: c218 :: c219 :: c220 :: c221 :: c222 :: c223 :: c224 :: c225 :: c226 :: c227 :: c228 :: c229 :: c230 :: c231 :: c232 :: c233 :: c234 :: c235 :: c236 :: c237 :: c238 :: c239 :: c240 :: c241 :: c242 :: c243 :: c244 :: c245 :: c246 :: c247 :: c248 :: c249 :: c250 :: c251 :: c252 :: c253 :: c254 :: c255 :: c256 :: c257 :: c258 :: c259 :: c260 :: c261 :: c262 :: c263 :: c264 :: c265 :: c266 :: c267 :: c268 :: c269 :: c270 :: c271 :: c272 :: c273 :: c274 :: c275 :: c276 :: c277 :: c278 :: c279 :: c280 :: c281 :: c282 :: c283 :: c284 :: c285 :: c286 :: c287 :: c288 :: c289 :: c290 :: c291 :: c292 :: c293 :: c294 :: c295 :: c296 :: c297 :: []), []⟩ w := by
  have HWAY := Lib.hid hway
  have lp : gp < w.heap.size := (Array.getElem?_eq_some_iff.1 par).1
  have lq : gq < w.heap.size := (Array.getElem?_eq_some_iff.1 rq).1
  clear hway
  conv => arg 2; arg 1; whnf
  go_loopw [9, 10] (fun al v wr => ∃ rn : Nat, rn ≤ lv + 1 ∧ v = .int .i64 (rn : Int) ∧ al = .int .i64 ((totR ⟨(Q0 : Int), (Q1 : Int), (Q2 : Int), (Q3 : Int)⟩ lv rn : Nat) : Int) ∧ Below w.heap.size w wr) (fun _ v _ => lv + 1 - (intOf v).toNat)
  case atStart => exact ⟨0, Nat.zero_le _, rfl, rfl, Below.refl _ _⟩
  case round =>
    obtain ⟨rn, hrn, rfl, rfl, hbe⟩ := hrel
    obtain ⟨wa, hwa⟩ : ∃ wa, wa = wr := ⟨_, rfl⟩
    subst hwa
    have hle := hbe.size
    have par1 := (hbe.block gp lp).trans par
    have p_2 : wa.cell? ⟨gp, 2, none⟩ = some (.int .i64 (lv : Int)) := cell_of_row _ _ 2 _ _ (0, 0) par1
    by_cases hlt : rn ≤ lv
    · have rq1 := (hbe.block gq lq).trans rq
      have lp1 : gp < wa.heap.size := Nat.lt_of_lt_of_le lp hle
      have lq1 : gq < wa.heap.size := Nat.lt_of_lt_of_le lq hle
      have hCb : okR ⟨(Q0 : Int), (Q1 : Int), (Q2 : Int), (Q3 : Int)⟩ := by unfold okR; simp only; omega
      have hRes := fun v => resolution_any ⟨(Q0 : Int), (Q1 : Int), (Q2 : Int), (Q3 : Int)⟩ lv rn (lv - rn) (by omega) (by omega) (by omega) hCb v
      have hBnd := fun v => bands_any ⟨(Q0 : Int), (Q1 : Int), (Q2 : Int), (Q3 : Int)⟩ lv rn (by omega) (by omega) hCb v
      have hstep := tot_step ⟨(Q0 : Int), (Q1 : Int), (Q2 : Int), (Q3 : Int)⟩ hlt
      obtain ⟨Z, hZ⟩ : ∃ Z, resR ⟨(Q0 : Int), (Q1 : Int), (Q2 : Int), (Q3 : Int)⟩ (lv - rn) = Z := ⟨_, rfl⟩
      have hZb := res_bd (Q0 := Q0) (Q1 := Q1) (Q2 := Q2) (Q3 := Q3) (k := lv - rn) hQ (by omega)
      have hor := fun j => ofRes_band ⟨(Q0 : Int), (Q1 : Int), (Q2 : Int), (Q3 : Int)⟩ (pr := pr) j hlt hpr.1
      rw [hZ] at hRes hZb hor
      have hBb := fun j => band_bd (Q0 := Q0) (Q1 := Q1) (Q2 := Q2) (Q3 := Q3) (lv := lv) (r := rn) j hQ (by omega) (by omega)
      have hBa := fun j => band_all (Q0 := Q0) (Q1 := Q1) (Q2 := Q2) (Q3 := Q3) (lv := lv) (r := rn) j hQ hQo (by omega) (by omega)
      have htb : totR ⟨(Q0 : Int), (Q1 : Int), (Q2 : Int), (Q3 : Int)⟩ lv rn ≤ 4096 := by
        unfold totR
        split
        · omega
        · have a0 := ce_bd (x := Q0) (k := lv - (rn - 1)) (by omega) (by omega)
          have a1 := ce_bd (x := Q1) (k := lv - (rn - 1)) (by omega) (by omega)
          have a2 := ce_bd (x := Q2) (k := lv - (rn - 1)) (by omega) (by omega)
          have a3 := ce_bd (x := Q3) (k := lv - (rn - 1)) (by omega) (by omega)
          unfold resR areaR
          simp only
          exact Nat.mul_le_mul (show _ ≤ 64 by omega) (show _ ≤ 64 by omega)
      obtain ⟨BN, hBN⟩ : ∃ z, bandN rn = z := ⟨_, rfl⟩
      have hBN3 : 1 ≤ BN ∧ BN ≤ 3 := by rw [← hBN]; unfold bandN; split <;> omega
      obtain ⟨fb, hfb⟩ : ∃ B, bandA ⟨(Q0 : Int), (Q1 : Int), (Q2 : Int), (Q3 : Int)⟩ lv rn = B := ⟨_, rfl⟩
      have hst2 : totR ⟨(Q0 : Int), (Q1 : Int), (Q2 : Int), (Q3 : Int)⟩ lv rn + ssum (fun j => areaR (fb j)) BN = totR ⟨(Q0 : Int), (Q1 : Int), (Q2 : Int), (Q3 : Int)⟩ lv (rn + 1) := by rw [← hfb, ← hBN]; exact hstep
      rw [hBN, hfb] at hBnd
      rw [hfb] at hBb hBa hor
      have hPre := fun v => precincts_any Z pr (by omega) hZb.1 v
      have hpb := pre_bd (show pr ≤ 40 by omega) hZb.1 hZb.2
      obtain ⟨PW, hPW⟩ := Int.eq_ofNat_of_zero_le hpb.1
      obtain ⟨PH, hPH⟩ := Int.eq_ofNat_of_zero_le hpb.2.2.1
      have hpW : PW ≤ 1048576 ∧ PH ≤ 1048576 := by omega
      have hNKb : PW * PH ≤ 1048576 * 1048576 := Nat.mul_le_mul hpW.1 hpW.2
      rw [hPW, hPH] at hPre
      have hm15 : (min cw (blkS rn pr)) ≤ 15 ∧ (min ch (blkS rn pr)) ≤ 15 := by omega
      have hB1 := fun (en kn : Nat) (v : World) (he : en < BN) (hk : kn < PW * PH) => blocks_any (fb en) Z tx ty lv cw ch pr st od ly rct sop eph rn kn HWAY.out (hBb en).1 (hBb en).2 hZb.1 hZb.2 (by omega) (by omega) v _ rfl
      have hNB := fun (en k : Nat) (he : en < BN) (hk : k < PW * PH) => cov_nb (fb := fb) (Z := Z) (pr := pr) (sd := (blkS rn pr)) (mw := (min cw (blkS rn pr))) (mh := (min ch (blkS rn pr))) (en := en) (hBb en).2 hm15.1 hm15.2 k
      have hNE := fun (en k i : Nat) (he : en < BN) (hk : k < PW * PH) (hi : i < cNB fb Z pr (blkS rn pr) (min cw (blkS rn pr)) (min ch (blkS rn pr)) en k) => cov_ne (fb := fb) (Z := Z) (pr := pr) (sd := (blkS rn pr)) (mw := (min cw (blkS rn pr))) (mh := (min ch (blkS rn pr))) (en := en) (hBb en).2 hm15.1 hm15.2 hi
      have hAA := fun (en k i : Nat) (he : en < BN) (hk : k < PW * PH) (hi : i < cNB fb Z pr (blkS rn pr) (min cw (blkS rn pr)) (min ch (blkS rn pr)) en k) (x y : Int) (hin : inR (cBlk fb Z pr (blkS rn pr) (min cw (blkS rn pr)) (min ch (blkS rn pr)) en k i) x y) => cov_a (fb := fb) (Z := Z) (pr := pr) (sd := (blkS rn pr)) (mw := (min cw (blkS rn pr))) (mh := (min ch (blkS rn pr))) (en := en) hPW hPH (hBa en).2 hk x y hin
      have hBB := fun (en p : Nat) (he : en < BN) (hp : p < areaR (fb en)) => cov_b (fb := fb) (Z := Z) (pr := pr) (sd := (blkS rn pr)) (mw := (min cw (blkS rn pr))) (mh := (min ch (blkS rn pr))) (en := en) hPW hPH (hor en) (hBa en).2 hp
      obtain ⟨Z0, Z1, Z2, Z3⟩ := Z
      unfold rcV at hRes hBnd hPre
      simp only at hRes hBnd hPre
      have HRes := Lib.hid hRes
      have HBnd := Lib.hid hBnd
      have HPre := Lib.hid hPre
      have HB1 := Lib.hid hB1
      have HNB := Lib.hid hNB
      have HNE := Lib.hid hNE
      have HAA := Lib.hid hAA
      have HBB := Lib.hid hBB
      have HST := Lib.hid hst2
      have HFB := Lib.hid (fun e (_ : e < BN) => hBa e)
      obtain ⟨an, han⟩ : ∃ z, totR ⟨(Q0 : Int), (Q1 : Int), (Q2 : Int), (Q3 : Int)⟩ lv rn = z := ⟨_, rfl⟩
      rw [han] at htb ⊢
      have HAN := Lib.hid han
      clear hRes hBnd hPre hB1 hNB hNE hAA hBB hZ hBN hfb hPW hPH hpb hBb hBa hor hZb hCb hstep hst2 han hNKb hm15
      have q_0 : wa.cell? ⟨gq, 0, none⟩ = some (.int .i64 (Q0 : Int)) := cell_of_row _ _ 0 _ _ (0, 0) rq1
      have q_1 : wa.cell? ⟨gq, 1, none⟩ = some (.int .i64 (Q1 : Int)) := cell_of_row _ _ 1 _ _ (0, 0) rq1
      have q_2 : wa.cell? ⟨gq, 2, none⟩ = some (.int .i64 (Q2 : Int)) := cell_of_row _ _ 2 _ _ (0, 0) rq1
      have q_3 : wa.cell? ⟨gq, 3, none⟩ = some (.int .i64 (Q3 : Int)) := cell_of_row _ _ 3 _ _ (0, 0) rq1
      go_wp2_with fail
      refine (HRes.out _).mono ?_
      rintro e' V1 ⟨rfl, h1⟩
      have par2 := (h1.block gp lp1).trans par1
      have rq2 := (h1.block gq lq1).trans rq1
      have b1 := hbe.trans (h1.mono hle)
      clear q_0 q_1 q_2 q_3 p_2 par1 rq1 h1
      have sz1 := b1.size
      go_upto_region 20 with fail
      obtain ⟨gz, hgz⟩ : ∃ g, V1.heap.size = g := ⟨_, rfl⟩
      generalize hV2 : World.alloc V1 _ = V2
      have rz2 : V2.heap[gz]? = some (.cells #[.int .i64 Z0, .int .i64 Z1, .int .i64 Z2, .int .i64 Z3] 53 (0, 0)) := by rw [← hV2, ← hgz]; exact heap_alloc_new V1 _
      have h2 : Below gz V1 V2 := by rw [← hV2, ← hgz]; exact below_alloc (Below.refl _ _) _
      have sz2 : V2.heap.size = gz + 1 := by rw [← hV2, ← hgz]; simp
      rw [hgz] at sz1 ⊢
      clear hV2
      replace par2 := (h2.block gp (by omega)).trans par2
      replace rq2 := (h2.block gq (by omega)).trans rq2
      have b2 := b1.trans (h2.mono (by omega))
      clear h2 b1
      have q_0 : V2.cell? ⟨gq, 0, none⟩ = some (.int .i64 (Q0 : Int)) := cell_of_row _ _ 0 _ _ (0, 0) rq2
      have q_1 : V2.cell? ⟨gq, 1, none⟩ = some (.int .i64 (Q1 : Int)) := cell_of_row _ _ 1 _ _ (0, 0) rq2
      have q_2 : V2.cell? ⟨gq, 2, none⟩ = some (.int .i64 (Q2 : Int)) := cell_of_row _ _ 2 _ _ (0, 0) rq2
      have q_3 : V2.cell? ⟨gq, 3, none⟩ = some (.int .i64 (Q3 : Int)) := cell_of_row _ _ 3 _ _ (0, 0) rq2
      have p_2 : V2.cell? ⟨gp, 2, none⟩ = some (.int .i64 (lv : Int)) := cell_of_row _ _ 2 _ _ (0, 0) par2
      go_wp2_with fail
      refine (HBnd.out _).mono ?_
      rintro e' V3 ⟨KA, cK', XA, cX, rfl, oK, oX, h3⟩
      have par3 := (h3.block gp (by omega)).trans par2
      have rz3 := (h3.block gz (by omega)).trans rz2
      have b3 := b2.trans (h3.mono (by omega))
      have sz3 := h3.size
      obtain ⟨bx, ox, eX, hbx, _⟩ := oX.at_.at_ (k := 0) (by omega)
      subst eX
      have HX := Lib.hid oX.at_
      clear q_0 q_1 q_2 q_3 p_2 par2 rq2 rz2 h3 b2 oK oX
      have z_0 : V3.cell? ⟨gz, 0, none⟩ = some (.int .i64 Z0) := cell_of_row _ _ 0 _ _ (0, 0) rz3
      have z_1 : V3.cell? ⟨gz, 1, none⟩ = some (.int .i64 Z1) := cell_of_row _ _ 1 _ _ (0, 0) rz3
      have z_2 : V3.cell? ⟨gz, 2, none⟩ = some (.int .i64 Z2) := cell_of_row _ _ 2 _ _ (0, 0) rz3
      have z_3 : V3.cell? ⟨gz, 3, none⟩ = some (.int .i64 Z3) := cell_of_row _ _ 3 _ _ (0, 0) rz3
      have p_5 : V3.cell? ⟨gp, 5, none⟩ = some (.int .i64 (pr : Int)) := cell_of_row _ _ 5 _ _ (0, 0) par3
      go_wp2_with fail
      refine (HPre.out _).mono ?_
      rintro e' V4 ⟨rfl, h4⟩
      have par4 := (h4.block gp (by omega)).trans par3
      have rz4 := (h4.block gz (by omega)).trans rz3
      have b4 := b3.trans (h4.mono (by omega))
      have sz4 := h4.size
      have hX4 := (HX.out.below h4).more sz4
      clear z_0 z_1 z_2 z_3 p_5 par3 rz3 h4 b3 HX
      go_wp2_with fail
      refine cvE_any gp gz bx ox BN cX rn PW PH (PW * PH) an Z0 Z1 Z2 Z3 tx ty lv cw ch pr st od ly rct sop eph fb (cNB fb ⟨Z0, Z1, Z2, Z3⟩ pr (blkS rn pr) (min cw (blkS rn pr)) (min ch (blkS rn pr))) (cWB fb ⟨Z0, Z1, Z2, Z3⟩ pr (blkS rn pr) (min cw (blkS rn pr))) (cBlk fb ⟨Z0, Z1, Z2, Z3⟩ pr (blkS rn pr) (min cw (blkS rn pr)) (min ch (blkS rn pr))) (cK fb ⟨Z0, Z1, Z2, Z3⟩ pr (blkS rn pr) PW) (cJ fb ⟨Z0, Z1, Z2, Z3⟩ pr (blkS rn pr) (min cw (blkS rn pr)) (min ch (blkS rn pr)) PW) V4 hBN3.2 (by omega) rfl hpW.1 hpW.2 par4 rz4 hX4 HFB.out HB1.out HNB.out HNE.out HAA.out HBB.out _ ?_
      intro u2 u16 u17 u18 u19 u20 u21 u22 u23 u24 u25 u146 u147 u148 u149 u150 u151 u152 u153 u154 u155 u156 u157 u158 u159 u160 u161 u162 u163 u164 u165 u166 u167 u168 u169 u170 u171 u172 u173 u174 u175 u176 u177 u178 u179 u180 u181 u182 u183 u184 u185 u186 u187 u188 u189 u190 u191 u192 u193 u194 u195 u196 u197 u198 u199 u200 u201 u202 u203 u204 u205 u206 u207 u208 u209 u210 u211 u212 u213 u214 u215 u216 u217 u218 u219 u220 u221 u222 u223 u224 u225 u226 u227 u228 u229 u230 u231 u232 u233 u234 u235 u236 u237 u238 u239 u240 u241 u242 u243 u244 u245 u246 u247 u248 u249 u250 u251 u252 u253 u254 u255 u256 u257 u258 u259 u260 u261 u262 u263 u264 u265 u266 u267 u268 u269 u270 u271 u272 u273 u274 u275 u276 u277 u278 u279 u280 u281 u282 u283 u284 u285 u286 u287 u288 u289 u290 u291 u292 u293 wz hbi
      have hbz := b4.trans (hbi.mono (by omega))
      clear par4 rz4 hX4 hbi HB1 HNB HNE HAA HBB HRes HBnd HPre HFB b4
      go_wp2_with fail
      go_roundw
      case rel => exact ⟨rn + 1, by omega, by go_num, by rw [← HAN.out, HST.out], hbz⟩
      case measure => simp [intOf]; omega
    · obtain rfl : rn = lv + 1 := by omega
      go_wp2_with fail
      all_goals first
        | exact hbe
        | (apply hexit; exact hbe)
end Go.Proofs.Ytmieoifagnpbiaa
