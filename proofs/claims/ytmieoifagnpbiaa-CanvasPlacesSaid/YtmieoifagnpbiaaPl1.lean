/- LOOP 1 of waveletlaw12.CanvasPlaces: over the tiles of a picture. -/
import Derived.Test.YtmieoifagnpbiaaPl2
import Derived.Deep.CutBlock
import Derived.Deep.LoopGhost
namespace Go.Proofs.Ytmieoifagnpbiaa
open Go.RowKit
attribute [local go_sem] opv opnd
set_option maxHeartbeats 40000000
set_option linter.unusedVariables false
set_option linter.unusedSimpArgs false
set_option maxRecDepth 1000000

theorem pl1 {c0 c1 c2 c7 c8 c9 c10 c11 c12 c13 c14 c15 c16 c17 c18 c19 c20 c21 c22 c23 c24 c25 c26 c27 c28 c29 c30 c31 c32 c33 c34 c35 c36 c37 c38 c39 c40 c41 c42 c43 c44 c45 c46 c47 c48 c49 c50 c51 c52 c53 c54 c55 c56 c57 c58 c59 c60 c61 c62 c63 c64 c65 c66 c67 c68 c69 c70 c71 c72 c73 c74 c75 c76 c77 c78 c79 c80 c81 c82 c83 c84 c85 c86 c87 c88 c89 c90 c91 c92 c93 c94 c95 c96 c97 c98 c99 c100 c101 c102 c103 c104 c105 c106 c107 c108 c109 c110 c111 c112 c113 c114 c115 c116 c117 c118 c119 c120 c121 c122 c123 c124 c125 c126 c127 c128 c129 c130 c131 c132 c133 c134 c135 c136 c137 c138 c139 c140 c141 c142 c143 c144 c145 c146 c147 c148 c149 c150 c151 c152 c153 c154 c155 c156 c157 c158 c159 c160 c161 c162 c163 c164 c165 c166 c167 c168 c169 c170 c171 c172 c173 c174 c175 c176 c177 c178 c179 c180 c181 c182 c183 c184 c185 c186 c187 c188 c189 c190 c191 c192 c193 c194 c195 c196 c197 c198 c199 c200 c201 c202 c203 c204 c205 c206 c207 c208 c209 : Value} (gi gp bt ot NT cT : Nat) (Xn Yn On Pn : Nat) (A : Option Addr) (n c : Nat) (F : Nat → CompD) (tx ty lv cw ch pr st od ly : Nat) (rct sop eph : Bool) (w : World) (hX : Xn ≤ 64) (hY : Yn ≤ 64) (hO : On ≤ Xn) (hP : Pn ≤ Yn) (htx : 1 ≤ tx) (hty : 1 ≤ ty) (hNT : byN Xn tx * byN Yn ty = NT) (hNTb : NT ≤ 4096) (hlv : lv ≤ 18) (hcw : cw ≤ 6) (hch : ch ≤ 6) (hpr : 1 ≤ pr ∧ pr ≤ 15) (hway : waysB lv cw ch pr st od ly = true) (hn : n ≤ 16384) (hF : ∀ j, j < n → (1 ≤ (F j).dx ∧ (F j).dx ≤ 4) ∧ (1 ≤ (F j).dy ∧ (F j).dy ≤ 4)) (img : w.heap[gi]? = some (.cells #[.int .i64 (Xn : Int), .int .i64 (Yn : Int), .int .i64 (On : Int), .int .i64 (Pn : Int), .slice A n c] 25 (0, 0))) (par : w.heap[gp]? = some (.cells #[.int .i64 (tx : Int), .int .i64 (ty : Int), .int .i64 (lv : Int), .int .i64 (cw : Int), .int .i64 (ch : Int), .int .i64 (pr : Int), .int .i64 (st : Int), .int .i64 (od : Int), .int .i64 (ly : Int), .bool rct, .bool sop, .bool eph] 27 (0, 0))) (hTT : CellsAt w w.heap.size (some ⟨bt, ot, none⟩) 4 NT (fun k => rcL (tileR Xn Yn On Pn tx ty (gridAt (byN Xn tx) k)))) (hca : CompsAt w w.heap.size A n F) (QQ : Exit → Act → World → Prop) (hexit : ∀ (u2 u6 u7 u8 u9 u10 u11 u12 u13 u14 u15 u16 u17 u18 u19 u20 u21 u22 u23 u24 u41 u42 u43 u44 u45 u46 u47 u48 u49 u50 u51 u52 u53 u54 u55 u56 u57 u58 u59 u60 u61 u62 u63 u64 u65 u66 u67 u68 u69 u70 u71 u72 u73 u74 u75 u76 u77 u78 u79 u80 u81 u82 u83 u84 u85 u86 u87 u88 u89 u90 u91 u92 u93 u94 u95 u96 u97 u98 u99 u100 u101 u102 u103 u104 u105 u106 u107 u108 u109 u110 u111 u112 u113 u114 u115 u116 u117 u118 u119 u120 u121 u122 u123 u124 u125 u126 u127 u128 u129 u130 u131 u132 u133 u134 u135 u136 u137 u138 u139 u140 u141 u142 u143 u144 u145 u146 u147 u148 u149 u150 u151 u152 u153 u154 u155 u156 u157 u158 u159 u160 u161 u162 u163 u164 u165 u166 u167 u168 u169 u170 u171 u172 u173 u174 u175 u176 u177 u178 u179 u180 u181 u182 u183 u184 u185 u186 u187 u188 u189 u190 u191 u192 u193 u194 u195 u196 u197 u198 u199 u200 u201 u202 u203 u204 u205 u206 u207 u208 u209 : Value) (w' : World), Below w.heap.size w w' → QQ (.exit 0) ⟨List.toArray (c0 :: c1 :: u2 :: Value.pointer (some ⟨gi, 0, none⟩) :: Value.pointer (some ⟨gp, 0, none⟩) :: Value.slice (some ⟨bt, ot, none⟩) NT cT :: u6 :: u7 :: u8 :: u9 :: u10 :: u11 :: u12 :: u13 :: u14 :: u15 :: u16 :: u17 :: u18 :: u19 :: u20 :: u21 :: u22 :: u23 :: u24 :: c25 :: c26 :: c27 :: c28 :: c29 :: c30 :: c31 :: c32 :: c33 :: c34 :: c35 :: c36 :: c37 :: c38 :: c39 :: c40 :: u41 :: u42 :: u43 :: u44 :: u45 :: u46 :: u47 :: u48 :: u49 :: u50 :: u51 :: u52 :: u53 :: u54 :: u55 :: u56 :: u57 :: u58 :: u59 :: u60 :: u61 :: u62 :: u63 :: u64 :: u65 :: u66 :: u67 :: u68 :: u69 :: u70 :: u71 :: u72 :: u73 :: u74 :: u75 :: u76 :: u77 :: u78 :: u79 :: u80 :: u81 :: u82 :: u83 :: u84 :: u85 :: u86 :: u87 :: u88 :: u89 :: u90 :: u91 :: u92 :: u93 :: u94 :: u95 :: u96 :: u97 :: u98 :: u99 :: u100 :: u101 :: u102 :: u103 :: u104 :: u105 :: u106 :: u107 :: u108 :: u109 :: u110 :: u111 :: u112 :: u113 :: u114 :: u115 :: u116 :: u117 :: u118 :: u119 :: u120 :: u121 :: u122 :: u123 :: u124 :: u125 :: u126 :: u127 :: u128 :: u129 :: u130 :: u131 :: u132 :: u133 :: u134 :: u135 :: u136 :: u137 :: u138 :: u139 :: u140 :: u141 :: u142 :: u143 :: u144 :: u145 :: u146 :: u147 :: u148 :: u149 :: u150 :: u151 :: u152 :: u153 :: u154 :: u155 :: u156 :: u157 :: u158 :: u159 :: u160 :: u161 :: u162 :: u163 :: u164 :: u165 :: u166 :: u167 :: u168 :: u169 :: u170 :: u171 :: u172 :: u173 :: u174 :: u175 :: u176 :: u177 :: u178 :: u179 :: u180 :: u181 :: u182 :: u183 :: u184 :: u185 :: u186 :: u187 :: u188 :: u189 :: u190 :: u191 :: u192 :: u193 :: u194 :: u195 :: u196 :: u197 :: u198 :: u199 :: u200 :: u201 :: u202 :: u203 :: u204 :: u205 :: u206 :: u207 :: u208 :: u209 :: []), []⟩ w') :
    Code.wp Try.prog (Code.loop plC1) QQ ⟨List.toArray (c0 :: c1 :: c2 :: Value.pointer (some ⟨gi, 0, none⟩) :: Value.pointer (some ⟨gp, 0, none⟩) :: Value.slice (some ⟨bt, ot, none⟩) NT cT :: Value.int .i64 0 :: c7 :: c8 :: c9 :: c10 :: c11 :: c12 :: c13 :: c14 :: c15 :: c16 :: c17 :: c18 :: c19 :: c20 :: c21 :: c22 :: c23 :: c24 :: c25 :: c26 :: c27 :: c28 :: c29 :: c30 :: c31 :: c32 :: c33 :: c34 :: c35 :: c36 :: c37 :: c38 :: c39 :: c40 :: c41 :: c42 :: c43 :: c44 :: c45 :: c46 :: c47 :: c48 :: c49 :: c50 :: c51 :: c52 :: c53 :: c54 :: c55 :: c56 :: c57 :: c58 :: c59 :: c60 :: c61 :: c62 :: c63 :: c64 :: c65 :: c66 :: c67 :: c68 :: c69 :: c70 :: c71 :: c72 :: c73 :: c74 :: c75 :: c76 :: c77 :: c78 :: c79 :: c80 :: c81 :: c82 :: c83 :: c84 :: c85 :: c86 :: c87 :: c88 :: c89 :: c90 :: c91 :: c92 :: c93 :: c94 :: c95 :: c96 :: c97 :: c98 :: c99 :: c100 :: c101 :: c102 :: c103 :: c104 :: c105 :: c106 :: c107 :: c108 :: c109 :: c110 :: c111 :: c112 :: c113 :: c114 :: c115 :: c116 :: c117 :: c118 :: c119 :: c120 :: c121 :: c122 :: c123 :: c124 :: c125 :: c126 :: c127 :: c128 :: c129 :: c130 :: c131 :: c132 :: c133 :: c134 :: c135 :: c136 :: c137 :: c138 :: c139 :: c140 :: c141 :: c142 :: c143 :: c144 :: c145 :: c146 :: c147 :: c148 :: c149 :: c150 :: c151 :: c152 :: c153 :: c154 :: c155 :: c156 :: c157 :: c158 :: c159 :: c160 :: c161 :: c162 :: c163 :: c164 :: c165 :: c166 :: c167 :: c168 :: c169 :: c170 :: c171 :: c172 :: c173 :: c174 :: c175 :: c176 :: c177 :: c178 :: c179 :: c180 :: c181 :: c182 :: c183 :: c184 :: c185 :: c186 :: c187 :: c188 :: c189 :: c190 :: c191 :: c192 :: c193 :: c194 :: c195 :: c196 :: c197 :: c198 :: c199 :: c200 :: c201 :: c202 :: c203 :: c204 :: c205 :: c206 :: c207 :: c208 :: c209 :: []), []⟩ w := by
  have HWAY := Lib.hid hway
  have HFF := Lib.hid hF
  have HCA := Lib.hid hca
  have HTT := Lib.hid hTT
  have HNT := Lib.hid hNT
  have li : gi < w.heap.size := (Array.getElem?_eq_some_iff.1 img).1
  have lp : gp < w.heap.size := (Array.getElem?_eq_some_iff.1 par).1
  clear hway hF hca hTT hNT
  conv => arg 2; arg 1; whnf
  go_loopw [6] (fun v wr => ∃ iN : Nat, iN ≤ NT ∧ v = .int .i64 (iN : Int) ∧ Below w.heap.size w wr) (fun v _ => NT - (intOf v).toNat)
  case atStart => exact ⟨0, Nat.zero_le _, rfl, Below.refl _ _⟩
  case round =>
    obtain ⟨iN, hiN, rfl, hbe⟩ := hrel
    obtain ⟨wa, hwa⟩ : ∃ wa, wa = wr := ⟨_, rfl⟩
    subst hwa
    have hle := hbe.size
    by_cases hlt : iN < NT
    · have img1 := (hbe.block gi li).trans img
      have par1 := (hbe.block gp lp).trans par
      obtain ⟨b', o', eA, hbt, hct⟩ := (HTT.out.below hbe).at_ (k := iN) hlt
      cases eA
      obtain ⟨T0, T1, T2, T3, eT, hT⟩ := tile_nat (X := Xn) (Y := Yn) (O := On) (P := Pn) (tx := tx) (ty := ty) hX hY hO hP htx hty (i := iN) (by rw [HNT.out]; exact hlt)
      have hct' := fun j u h => hct j u h
      simp only [eT] at hct'
      have t0 : wa.cell? ⟨bt, ot + iN * 4, none⟩ = some (.int .i64 (T0 : Int)) := by have := hct' 0 _ rfl; simpa using this
      have t1 : wa.cell? ⟨bt, ot + iN * 4 + 1, none⟩ = some (.int .i64 (T1 : Int)) := hct' 1 _ rfl
      have t2 : wa.cell? ⟨bt, ot + iN * 4 + 2, none⟩ = some (.int .i64 (T2 : Int)) := hct' 2 _ rfl
      have t3 : wa.cell? ⟨bt, ot + iN * 4 + 3, none⟩ = some (.int .i64 (T3 : Int)) := hct' 3 _ rfl
      have hca1 := (HCA.out.below hbe).more hle
      clear hct hct' eT
      go_wp2_with fail
      refine pl2 gi gp bt ot NT cT iN T0 T1 T2 T3 Xn Yn On Pn A n c F tx ty lv cw ch pr st od ly rct sop eph wa hT hNTb hlt hlv hcw hch hpr HWAY.out hn HFF.out img1 par1 (Nat.lt_of_lt_of_le hbt hle) t0 t1 t2 t3 hca1 _ ?_
      intro u2 u7 u8 u9 u10 u11 u12 u13 u14 u15 u16 u17 u18 u19 u20 u21 u22 u23 u24 u47 u48 u49 u50 u51 u52 u53 u54 u55 u56 u57 u58 u59 u60 u61 u62 u63 u64 u65 u66 u67 u68 u69 u70 u71 u72 u73 u74 u75 u76 u77 u78 u79 u80 u81 u82 u83 u84 u85 u86 u87 u88 u89 u90 u91 u92 u93 u94 u95 u96 u97 u98 u99 u100 u101 u102 u103 u104 u105 u106 u107 u108 u109 u110 u111 u112 u113 u114 u115 u116 u117 u118 u119 u120 u121 u122 u123 u124 u125 u126 u127 u128 u129 u130 u131 u132 u133 u134 u135 u136 u137 u138 u139 u140 u141 u142 u143 u144 u145 u146 u147 u148 u149 u150 u151 u152 u153 u154 u155 u156 u157 u158 u159 u160 u161 u162 u163 u164 u165 u166 u167 u168 u169 u170 u171 u172 u173 u174 u175 u176 u177 u178 u179 u180 u181 u182 u183 u184 u185 u186 u187 u188 u189 u190 u191 u192 u193 u194 u195 u196 u197 u198 u199 u200 u201 u202 u203 u204 u205 u206 u207 u208 u209 wz hbi
      have hbz := hbe.trans (hbi.mono hle)
      clear img1 par1 t0 t1 t2 t3 hca1 hbi
      go_wp2_with fail
      go_roundw
      case rel => exact ⟨iN + 1, by omega, by go_num, hbz⟩
      case measure => simp [intOf]; omega
    · obtain rfl : iN = NT := by omega
      go_wp2_with fail
      first
        | exact hbe
        | (apply hexit; exact hbe)
end Go.Proofs.Ytmieoifagnpbiaa
