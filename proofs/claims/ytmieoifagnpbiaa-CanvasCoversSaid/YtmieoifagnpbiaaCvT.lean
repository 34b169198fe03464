/- THE FIRST LOOP of waveletlaw12.CanvasCovers: the tiles. -/
import Derived.Test.YtmieoifagnpbiaaCovD
import Derived.Test.YtmieoifagnpbiaaRef12b
import Derived.Deep.CutBlock
import Derived.Deep.LoopGhost
namespace Go.Proofs.Ytmieoifagnpbiaa
open Go.RowKit
attribute [local go_sem] opv opnd
set_option maxHeartbeats 40000000
set_option linter.unusedVariables false
set_option linter.unusedSimpArgs false
set_option maxRecDepth 1000000

theorem cvT_any {c0 c1 c2 c4 c8 c9 c10 c11 c12 c13 c14 c15 c16 c17 c18 c19 c20 c21 c22 c23 c24 c25 c26 c27 c28 c29 c30 c31 c32 c33 c34 c35 c36 c37 c38 c39 c40 c41 c42 c43 c44 c45 c46 c47 c48 c49 c50 c51 c52 c53 c54 c55 c56 c57 c58 c59 c60 c61 c62 c63 c64 c65 c66 c67 c68 c69 c70 c71 c72 c73 c74 c75 c76 c77 c78 c79 c80 c81 c82 c83 c84 c85 c86 c87 c88 c89 c90 c91 c92 c93 c94 c95 c96 c97 c98 c99 c100 c101 c102 c103 c104 c105 c106 c107 c108 c109 c110 c111 c112 c113 c114 c115 c116 c117 c118 c119 c120 c121 c122 c123 c124 c125 c126 c127 c128 c129 c130 c131 c132 c133 c134 c135 c136 c137 c138 c139 c140 c141 c142 c143 c144 c145 c146 c147 c148 c149 c150 c151 c152 c153 c154 c155 c156 c157 c158 c159 c160 c161 c162 c163 c164 c165 c166 c167 c168 c169 c170 c171 c172 c173 c174 c175 c176 c177 c178 c179 c180 c181 c182 c183 c184 c185 c186 c187 c188 c189 c190 c191 c192 c193 c194 c195 c196 c197 c198 c199 c200 c201 c202 c203 c204 c205 c206 c207 c208 c209 c210 c211 c212 c213 c214 c215 c216 c217 c218 c219 c220 c221 c222 c223 c224 c225 c226 c227 c228 c229 c230 c231 c232 c233 c234 c235 c236 c237 c238 c239 c240 c241 c242 c243 c244 c245 c246 c247 c248 c249 c250 c251 c252 c253 c254 c255 c256 c257 c258 c259 c260 c261 c262 c263 c264 c265 c266 c267 c268 c269 c270 c271 c272 c273 c274 c275 c276 c277 c278 c279 c280 c281 c282 c283 c284 c285 c286 c287 c288 c289 c290 c291 c292 c293 c294 c295 c296 c297 : Value} (gi bt ot NT cT Xn Yn On Pn tx ty n c : Nat) (A : Option Addr) (w : World) (hX : Xn ≤ 64) (hY : Yn ≤ 64) (hO : On < Xn) (hP : Pn < Yn) (htx : On < tx) (hty : Pn < ty) (hNT : byN Xn tx * byN Yn ty = NT) (hNTb : NT ≤ 4096) (img : w.heap[gi]? = some (.cells #[.int .i64 (Xn : Int), .int .i64 (Yn : Int), .int .i64 (On : Int), .int .i64 (Pn : Int), .slice A n c] 25 (0, 0))) (hTT : CellsAt w w.heap.size (some ⟨bt, ot, none⟩) 4 NT (fun k => rcL (tileR Xn Yn On Pn tx ty (gridAt (byN Xn tx) k)))) (QQ : Exit → Act → World → Prop) (hexit : ∀ (u2 u7 u36 u37 u38 u39 u40 u41 u42 u43 u44 u45 u46 u47 u48 u49 u50 u51 u52 u53 u54 u55 u56 u57 u58 u59 u60 u61 u62 u63 u64 u65 u66 u67 u68 u69 u70 u71 u72 u73 u74 u75 u76 u77 u78 u79 u80 u81 u82 u83 u84 u85 u86 u87 u88 u89 u90 u91 u92 : Value) (w' : World), Below w.heap.size w w' → QQ (.exit 0) ⟨List.toArray (c0 :: c1 :: u2 :: Value.pointer (some ⟨gi, 0, none⟩) :: c4 :: Value.slice (some ⟨bt, ot, none⟩) NT cT :: Value.int .i64 ((ssum (fun k => areaR (tileR Xn Yn On Pn tx ty (gridAt (byN Xn tx) k))) NT : Nat) : Int) :: u7 :: c8 :: c9 :: c10 :: c11 :: c12 :: c13 :: c14 :: c15 :: c16 :: c17 :: c18 :: c19 :: c20 :: c21 :: c22 :: c23 :: c24 :: c25 :: c26 :: c27 :: c28 :: c29 :: c30 :: c31 :: c32 :: c33 :: c34 :: c35 :: u36 :: u37 :: u38 :: u39 :: u40 :: u41 :: u42 :: u43 :: u44 :: u45 :: u46 :: u47 :: u48 :: u49 :: u50 :: u51 :: u52 :: u53 :: u54 :: u55 :: u56 :: u57 :: u58 :: u59 :: u60 :: u61 :: u62 :: u63 :: u64 :: u65 :: u66 :: u67 :: u68 :: u69 :: u70 :: u71 :: u72 :: u73 :: u74 :: u75 :: u76 :: u77 :: u78 :: u79 :: u80 :: u81 :: u82 :: u83 :: u84 :: u85 :: u86 :: u87 :: u88 :: u89 :: u90 :: u91 :: u92 :: c93 :: c94 :: c95 :: c96 :: c97 :: c98 :: c99 :: c100 :: c101 :: c102 :: c103 :: c104 :: c105 :: c106 :: c107 :: c108 :: c109 :: c110 :: c111 :: c112 :: c113 :: c114 :: c115 :: c116 :: c117 :: c118 :: c119 :: c120 :: c121 :: c122 :: c123 :: c124 :: c125 :: c126 :: c127 :: c128 :: c129 :: c130 :: c131 :: c132 :: c133 :: c134 :: c135 :: c136 :: c137 :: c138 :: c139 :: c140 :: c141 :: c142 :: c143 :: c144 :: c145 :: c146 :: c147 :: c148 :: c149 :: c150 :: c151 :: c152 :: c153 :: c154 :: c155 :: c156 :: c157 :: c158 :: c159 :: c160 :: c161 :: c162 :: c163 :: c164 :: c165 :: c166 :: c167 :: c168 :: c169 :: c170 :: c171 :: c172 :: c173 :: c174 :: c175 :: c176 :: c177 :: c178 :: c179 :: c180 :: c181 :: c182 :: c183 :: c184 :: c185 :: c186 :: c187 :: c188 :: c189 :: c190 :: c191 :: c192 :: c193 :: c194 :: c195 :: c196 :: c197 :: c198 :: c199 :: c200 :: c201 :: c202 :: c203 :: c204 :: c205 :: c206 :: c207 :: c208 :: c209 :: c210 :: c211 :: c212 :: c213 :: c214 :: c215 :: c216 :: c217 :: c218 :: c219 :: c220 :: c221 :: c222 :: c223 :: c224 :: c225 :: c226 :: c227 :: c228 :: c229 :: c230 :: c231 :: c232 :: c233 :: c234 :: c235 :: c236 :: c237 :: c238 :: c239 :: c240 :: c241 :: c242 :: c243 :: c244 :: c245 :: c246 :: c247 :: c248 :: c249 :: c250 :: c251 :: c252 :: c253 :: c254 :: c255 :: c256 :: c257 :: c258 :: c259 :: c260 :: c261 :: c262 :: c263 :: c264 :: c265 :: c266 :: c267 :: c268 :: c269 :: c270 :: c271 :: c272 :: c273 :: c274 :: c275 :: c276 :: c277 :: c278 :: c279 :: c280 :: c281 :: c282 :: c283 :: c284 :: c285 :: c286 :: c287 :: c288 :: c289 :: c290 :: c291 :: c292 :: c293 :: c294 :: c295 :: c296 :: c297 :: []), []⟩ w') :
    Code.wp Try.prog (Code.loop cvT) QQ ⟨List.toArray (c0 :: c1 :: c2 :: Value.pointer (some ⟨gi, 0, none⟩) :: c4 :: Value.slice (some ⟨bt, ot, none⟩) NT cT :: Value.int .i64 ((ssum (fun k => areaR (tileR Xn Yn On Pn tx ty (gridAt (byN Xn tx) k))) 0 : Nat) : Int) :: Value.int .i64 0 :: c8 :: c9 :: c10 :: c11 :: c12 :: c13 :: c14 :: c15 :: c16 :: c17 :: c18 :: c19 :: c20 :: c21 :: c22 :: c23 :: c24 :: c25 :: c26 :: c27 :: c28 :: c29 :: c30 :: c31 :: c32 :: c33 :: c34 :: c35 :: c36 :: c37 :: c38 :: c39 :: c40 :: c41 :: c42 :: c43 :: c44 :: c45 :: c46 :: c47 :: c48 :: c49 :: c50 :: c51 :: c52 :: c53 :: c54 :: c55 :: c56 :: c57 :: c58 :: c59 :: c60 :: c61 :: c62 :: c63 :: c64 :: c65 :: c66 :: c67 :: c68 :: c69 :: c70 :: c71 :: c72 :: c73 :: c74 :: c75 :: c76 :: c77 :: c78 :: c79 :: c80 :: c81 :: c82 :: c83 :: c84 :: c85 :: c86 :: c87 :: c88 :: c89 :: c90 :: c91 :: c92 :: c93 :: c94 :: c95 :: c96 :: c97 :: c98 :: c99 :: c100 :: c101 :: c102 :: c103 :: c104 :: c105 :: c106 :: c107 :: c108 :: c109 :: c110 :: c111 :: c112 :: c113 :: c114 :: c115 :: c116 :: c117 :: c118 :: c119 :: c120 :: c121 :: c122 :: c123 :: c124 :: c125 :: c126 :: c127 :: c128 :: c129 :: c130 :: c131 :: c132 :: c133 :: c134 :: c135 :: c136 :: c137 :: c138 :: c139 :: c140 :: c141 :: c142 :: c143 :: c144 :: c145 :: c146 :: c147 :: c148 :: c149 :: c150 :: c151 :: c152 :: c153 :: c154 :: c155 :: c156 :: c157 :: c158 :: c159 :: c160 :: c161 :: c162 :: c163 :: c164 :: c165 :: c166 :: c167 :: c168 :: c169 :: c170 :: c171 :: c172 :: c173 :: c174 :: c175 :: c176 :: c177 :: c178 :: c179 :: c180 :: c181 :: c182 :: c183 :: c184 :: c185 :: c186 :: c187 :: c188 :: c189 :: c190 :: c191 :: c192 :: c193 :: c194 :: c195 :: c196 :: c197 :: c198 :: c199 :: c200 :: c201 :: c202 :: c203 :: c204 :: c205 :: c206 :: c207 :: c208 :: c209 :: c210 :: c211 :: c212 :: c213 :: c214 :: c215 :: c216 :: c217 :: c218 :: c219 :: c220 :: c221 :: c222 :: c223 :: c224 :: c225 :: c226 :: c227 :: c228 :: c229 :: c230 :: c231 :: c232 :: c233 :: c234 :: c235 :: c236 :: c237 :: c238 :: c239 :: c240 :: c241 :: c242 :: c243 :: c244 :: c245 :: c246 :: c247 :: c248 :: c249 :: c250 :: c251 :: c252 :: c253 :: c254 :: c255 :: c256 :: c257 :: c258 :: c259 :: c260 :: c261 :: c262 :: c263 :: c264 :: c265 :: c266 :: c267 :: c268 :: c269 :: c270 :: c271 :: c272 :: c273 :: c274 :: c275 :: c276 :: c277 :: c278 :: c279 :: c280 :: c281 :: c282 :: c283 :: c284 :: c285 :: c286 :: c287 :: c288 :: c289 :: c290 :: c291 :: c292 :: c293 :: c294 :: c295 :: c296 :: c297 :: []), []⟩ w := by
  have HTT := Lib.hid hTT
  have HNT := Lib.hid hNT
  have li : gi < w.heap.size := (Array.getElem?_eq_some_iff.1 img).1
  clear hTT hNT
  conv => arg 2; arg 1; whnf
  go_loopw [6, 7] (fun sm v wr => ∃ iN : Nat, iN ≤ NT ∧ v = .int .i64 (iN : Int) ∧ sm = .int .i64 ((ssum (fun k => areaR (tileR Xn Yn On Pn tx ty (gridAt (byN Xn tx) k))) iN : Nat) : Int) ∧ ssum (fun k => areaR (tileR Xn Yn On Pn tx ty (gridAt (byN Xn tx) k))) iN ≤ 4096 * iN ∧ Below w.heap.size w wr) (fun _ v _ => NT - (intOf v).toNat)
  case atStart => exact ⟨0, Nat.zero_le _, rfl, rfl, by simp only [ssum]; omega, Below.refl _ _⟩
  case round =>
    obtain ⟨iN, hiN, rfl, rfl, hsb, hbe⟩ := hrel
    obtain ⟨wa, hwa⟩ : ∃ wa, wa = wr := ⟨_, rfl⟩
    subst hwa
    have hle := hbe.size
    by_cases hlt : iN < NT
    · have img1 := (hbe.block gi li).trans img
      obtain ⟨b', o', eA, hbt, hct⟩ := (HTT.out.below hbe).at_ (k := iN) hlt
      cases eA
      obtain ⟨T0, T1, T2, T3, eT, hT, c1, c2, c3, c4⟩ := tile_nat2 (X := Xn) (Y := Yn) (O := On) (P := Pn) (tx := tx) (ty := ty) hX hY hO hP htx hty (i := iN) (by rw [HNT.out]; exact hlt)
      have hs1 : ssum (fun k => areaR (tileR Xn Yn On Pn tx ty (gridAt (byN Xn tx) k))) (iN + 1) = ssum (fun k => areaR (tileR Xn Yn On Pn tx ty (gridAt (byN Xn tx) k))) iN + areaR ⟨(T0 : Int), (T1 : Int), (T2 : Int), (T3 : Int)⟩ := by
        rw [← eT]; rfl
      have hct' := fun j u h => hct j u h
      simp only [eT] at hct'
      have t0 : wa.cell? ⟨bt, ot + iN * 4, none⟩ = some (.int .i64 (T0 : Int)) := by have := hct' 0 _ rfl; simpa using this
      have t1 : wa.cell? ⟨bt, ot + iN * 4 + 1, none⟩ = some (.int .i64 (T1 : Int)) := hct' 1 _ rfl
      have t2 : wa.cell? ⟨bt, ot + iN * 4 + 2, none⟩ = some (.int .i64 (T2 : Int)) := hct' 2 _ rfl
      have t3 : wa.cell? ⟨bt, ot + iN * 4 + 3, none⟩ = some (.int .i64 (T3 : Int)) := hct' 3 _ rfl
      have m_1 : wa.cell? ⟨gi, 1, none⟩ = some (.int .i64 (Yn : Int)) := cell_of_row _ _ 1 _ _ (0, 0) img1
      have m_2 : wa.cell? ⟨gi, 2, none⟩ = some (.int .i64 (On : Int)) := cell_of_row _ _ 2 _ _ (0, 0) img1
      have HAr := Lib.hid (fun v => areaR_any ⟨(T0 : Int), (T1 : Int), (T2 : Int), (T3 : Int)⟩ (by simp only; omega) (by simp only; omega) (by simp only; omega) (by simp only; omega) v)
      have hab : areaR ⟨(T0 : Int), (T1 : Int), (T2 : Int), (T3 : Int)⟩ ≤ 4096 := by
        unfold areaR; simp only; exact Nat.mul_le_mul (show _ ≤ 64 by omega) (show _ ≤ 64 by omega)
      obtain ⟨ar, har⟩ : ∃ z, areaR ⟨(T0 : Int), (T1 : Int), (T2 : Int), (T3 : Int)⟩ = z := ⟨_, rfl⟩
      obtain ⟨sn, hsn⟩ : ∃ z, ssum (fun k => areaR (tileR Xn Yn On Pn tx ty (gridAt (byN Xn tx) k))) iN = z := ⟨_, rfl⟩
      rw [har] at HAr hs1 hab
      rw [hsn] at hs1 hsb ⊢
      unfold rcV at HAr
      simp only at HAr
      obtain ⟨sa, hsa⟩ : ∃ z, sn + ar = z := ⟨_, rfl⟩
      rw [hsa] at hs1
      have k1 : IntKind.i64.wrap ((sn : Int) + (ar : Int)) = (sa : Int) := by rw [show (sn : Int) + (ar : Int) = (sa : Int) by omega]; exact wr (by omega)
      have hsab : sa ≤ 4096 * (iN + 1) := by omega
      have n1 : ¬ T2 ≤ T0 := by omega
      have n2 : ¬ T3 ≤ T1 := by omega
      have n3 : ¬ T0 < On := by omega
      have n4 : ¬ Yn < T3 := by omega
      have HS1 := Lib.hid hs1
      clear hct hct' eT hs1 har hsn hsa img1
      go_wp2_with fail
      go_quiet (fail)
      generalize hwq : World.drewN wa _ = wq
      have bq : Below w.heap.size w wq := by rw [← hwq]; exact below_drewN hbe _
      have t0 : wq.cell? ⟨bt, ot + iN * 4, none⟩ = some (.int .i64 (T0 : Int)) := by rw [← hwq]; exact t0
      have t1 : wq.cell? ⟨bt, ot + iN * 4 + 1, none⟩ = some (.int .i64 (T1 : Int)) := by rw [← hwq]; exact t1
      have t2 : wq.cell? ⟨bt, ot + iN * 4 + 2, none⟩ = some (.int .i64 (T2 : Int)) := by rw [← hwq]; exact t2
      have t3 : wq.cell? ⟨bt, ot + iN * 4 + 3, none⟩ = some (.int .i64 (T3 : Int)) := by rw [← hwq]; exact t3
      clear hwq m_1 m_2
      go_wp2_with fail
      refine (HAr.out _).mono ?_
      rintro e' V1 ⟨rfl, h1⟩
      have b1 := bq.trans (h1.mono bq.size)
      clear t0 t1 t2 t3 h1 bq HAr
      go_wp2_with fail
      go_roundw
      case rel => exact ⟨iN + 1, by omega, by go_num, by rw [HS1.out], by rw [HS1.out]; omega, b1⟩
      case measure => simp [intOf]; omega
    · obtain rfl : iN = NT := by omega
      go_wp2_with fail
      all_goals first
        | exact hbe
        | (apply hexit; exact hbe)
end Go.Proofs.Ytmieoifagnpbiaa
