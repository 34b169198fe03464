/- LOOP 4 of waveletlaw12.CanvasPlaces: over the precincts of a resolution. -/
import Derived.Test.YtmieoifagnpbiaaPl5
import Derived.Deep.CutBlock
import Derived.Deep.LoopGhost
namespace Go.Proofs.Ytmieoifagnpbiaa
open Go.RowKit
attribute [local go_sem] opv opnd
set_option maxHeartbeats 40000000
set_option linter.unusedVariables false
set_option linter.unusedSimpArgs false
set_option maxRecDepth 1000000

theorem pl4 {c0 c1 c2 c3 c5 c6 c7 c8 c11 c13 c14 c17 c18 c20 c21 c22 c23 c24 c25 c26 c27 c28 c29 c30 c31 c32 c33 c34 c35 c36 c37 c38 c39 c40 c41 c42 c43 c44 c45 c46 c47 c48 c49 c50 c51 c52 c53 c54 c55 c56 c57 c58 c59 c60 c61 c62 c63 c64 c65 c66 c67 c68 c69 c70 c71 c72 c73 c74 c75 c76 c77 c78 c79 c80 c81 c82 c83 c84 c85 c86 c87 c88 c89 c90 c91 c92 c93 c94 c95 c96 c97 c98 c99 c100 c101 c102 c103 c104 c105 c106 c107 c108 c109 c110 c111 c112 c113 c114 c115 c116 c117 c118 c119 c120 c121 c122 c123 c124 c125 c126 c127 c128 c129 c130 c131 c132 c133 c134 c135 c136 c137 c138 c139 c140 c141 c142 c143 c144 c145 c146 c147 c148 c149 c150 c151 c152 c153 c154 c155 c156 c157 c158 c159 c160 c161 c162 c163 c164 c165 c166 c167 c168 c169 c170 c171 c172 c173 c174 c175 c176 c177 c178 c179 c180 c181 c182 c183 c184 c185 c186 c187 c188 c189 c190 c191 c192 c193 c194 c195 c196 c197 c198 c199 c200 c201 c202 c203 c204 c205 c206 c207 c208 c209 : Value} (gp gz bx ox BN cX rn PW PH : Nat) (Z0 Z1 Z2 Z3 : Int) (tx ty lv cw ch pr st od ly : Nat) (rct sop eph : Bool) (fb : Nat → Rc) (NBf WBf : Nat → Nat → Nat) (ff : Nat → Nat → Nat → Rc) (w : World) (hBN : 1 ≤ BN) (hBN3 : BN ≤ 3) (hPW : PW ≤ 1048576) (hPH : PH ≤ 1048576) (hNB : ∀ k e, e < BN → NBf k e ≤ 1152921504606846976) (par : w.heap[gp]? = some (.cells #[.int .i64 (tx : Int), .int .i64 (ty : Int), .int .i64 (lv : Int), .int .i64 (cw : Int), .int .i64 (ch : Int), .int .i64 (pr : Int), .int .i64 (st : Int), .int .i64 (od : Int), .int .i64 (ly : Int), .bool rct, .bool sop, .bool eph] 27 (0, 0))) (rz : w.heap[gz]? = some (.cells #[.int .i64 Z0, .int .i64 Z1, .int .i64 Z2, .int .i64 Z3] 53 (0, 0))) (hX : CellsAt w w.heap.size (some ⟨bx, ox, none⟩) 4 BN (fun k => rcL (fb k))) (H1 : ∀ (kn en : Nat) (v : World), kn < 40 → en < BN → Calls Try.prog 31 #[.agg #[.int .i64 (fb en).x0, .int .i64 (fb en).y0, .int .i64 (fb en).x1, .int .i64 (fb en).y1], .agg #[.int .i64 Z0, .int .i64 Z1, .int .i64 Z2, .int .i64 Z3], .agg #[.int .i64 (tx : Int), .int .i64 (ty : Int), .int .i64 (lv : Int), .int .i64 (cw : Int), .int .i64 (ch : Int), .int .i64 (pr : Int), .int .i64 (st : Int), .int .i64 (od : Int), .int .i64 (ly : Int), .bool rct, .bool sop, .bool eph], .int .i64 (rn : Int), .int .i64 (kn : Int)] v fun e' w' => ∃ A c, e' = .returned (.tuple #[.slice A (NBf kn en) c, .int .i64 ((WBf kn en : Nat) : Int)]) ∧ OwnC w' v.heap.size 53 4 (.slice A (NBf kn en) c) (NBf kn en) (fun i => rcL (ff kn en i)) ∧ Below v.heap.size v w') (H2 : ∀ (kn en : Nat) (v : World), kn < 40 → en < BN → Calls Try.prog 32 #[.agg #[.int .i64 (fb en).x0, .int .i64 (fb en).y0, .int .i64 (fb en).x1, .int .i64 (fb en).y1], .agg #[.int .i64 Z0, .int .i64 Z1, .int .i64 Z2, .int .i64 Z3], .agg #[.int .i64 (tx : Int), .int .i64 (ty : Int), .int .i64 (lv : Int), .int .i64 (cw : Int), .int .i64 (ch : Int), .int .i64 (pr : Int), .int .i64 (st : Int), .int .i64 (od : Int), .int .i64 (ly : Int), .bool rct, .bool sop, .bool eph], .int .i64 (rn : Int), .int .i64 (kn : Int)] v fun e' w' => ∃ A c, e' = .returned (.tuple #[.slice A (NBf kn en) c, .int .i64 ((WBf kn en : Nat) : Int)]) ∧ OwnC w' v.heap.size 53 4 (.slice A (NBf kn en) c) (NBf kn en) (fun i => rcL (ff kn en i)) ∧ Below v.heap.size v w') (QQ : Exit → Act → World → Prop) (hexit : ∀ (u2 u19 u20 u21 u22 u23 u24 u160 u161 u162 u163 u164 u165 u166 u167 u168 u169 u170 u171 u172 u173 u174 u175 u176 u177 u178 u179 u180 u181 u182 u183 u184 u185 u186 u187 u188 u189 u190 u191 u192 u193 u194 u195 u196 u197 u198 u199 u200 u201 u202 u203 u204 u205 u206 u207 u208 u209 : Value) (w' : World), Below w.heap.size w w' → QQ (.exit 6) ⟨List.toArray (c0 :: c1 :: u2 :: c3 :: Value.pointer (some ⟨gp, 0, none⟩) :: c5 :: c6 :: c7 :: c8 :: Value.int .i64 (rn : Int) :: Value.pointer (some ⟨gz, 0, none⟩) :: c11 :: Value.slice (some ⟨bx, ox, none⟩) BN cX :: c13 :: c14 :: Value.int .i64 (PW : Int) :: Value.int .i64 (PH : Int) :: c17 :: c18 :: u19 :: u20 :: u21 :: u22 :: u23 :: u24 :: c25 :: c26 :: c27 :: c28 :: c29 :: c30 :: c31 :: c32 :: c33 :: c34 :: c35 :: c36 :: c37 :: c38 :: c39 :: c40 :: c41 :: c42 :: c43 :: c44 :: c45 :: c46 :: c47 :: c48 :: c49 :: c50 :: c51 :: c52 :: c53 :: c54 :: c55 :: c56 :: c57 :: c58 :: c59 :: c60 :: c61 :: c62 :: c63 :: c64 :: c65 :: c66 :: c67 :: c68 :: c69 :: c70 :: c71 :: c72 :: c73 :: c74 :: c75 :: c76 :: c77 :: c78 :: c79 :: c80 :: c81 :: c82 :: c83 :: c84 :: c85 :: c86 :: c87 :: c88 :: c89 :: c90 :: c91 :: c92 :: c93 :: c94 :: c95 :: c96 :: c97 :: c98 :: c99 :: c100 :: c101 :: c102 :: c103 :: c104 :: c105 :: c106 :: c107 :: c108 :: c109 :: c110 :: c111 :: c112 :: c113 :: c114 :: c115 :: c116 :: c117 :: c118 :: c119 :: c120 :: c121 :: c122 :: c123 :: c124 :: c125 :: c126 :: c127 :: c128 :: c129 :: c130 :: c131 :: c132 :: c133 :: c134 :: c135 :: c136 :: c137 :: c138 :: c139 :: c140 :: c141 :: c142 :: c143 :: c144 :: c145 :: c146 :: c147 :: c148 :: c149 :: c150 :: c151 :: c152 :: c153 :: c154 :: c155 :: c156 :: c157 :: c158 :: c159 :: u160 :: u161 :: u162 :: u163 :: u164 :: u165 :: u166 :: u167 :: u168 :: u169 :: u170 :: u171 :: u172 :: u173 :: u174 :: u175 :: u176 :: u177 :: u178 :: u179 :: u180 :: u181 :: u182 :: u183 :: u184 :: u185 :: u186 :: u187 :: u188 :: u189 :: u190 :: u191 :: u192 :: u193 :: u194 :: u195 :: u196 :: u197 :: u198 :: u199 :: u200 :: u201 :: u202 :: u203 :: u204 :: u205 :: u206 :: u207 :: u208 :: u209 :: []), []⟩ w') :
    Code.wp Try.prog (Code.loop plC4) QQ ⟨List.toArray (c0 :: c1 :: c2 :: c3 :: Value.pointer (some ⟨gp, 0, none⟩) :: c5 :: c6 :: c7 :: c8 :: Value.int .i64 (rn : Int) :: Value.pointer (some ⟨gz, 0, none⟩) :: c11 :: Value.slice (some ⟨bx, ox, none⟩) BN cX :: c13 :: c14 :: Value.int .i64 (PW : Int) :: Value.int .i64 (PH : Int) :: c17 :: c18 :: Value.int .i64 0 :: c20 :: c21 :: c22 :: c23 :: c24 :: c25 :: c26 :: c27 :: c28 :: c29 :: c30 :: c31 :: c32 :: c33 :: c34 :: c35 :: c36 :: c37 :: c38 :: c39 :: c40 :: c41 :: c42 :: c43 :: c44 :: c45 :: c46 :: c47 :: c48 :: c49 :: c50 :: c51 :: c52 :: c53 :: c54 :: c55 :: c56 :: c57 :: c58 :: c59 :: c60 :: c61 :: c62 :: c63 :: c64 :: c65 :: c66 :: c67 :: c68 :: c69 :: c70 :: c71 :: c72 :: c73 :: c74 :: c75 :: c76 :: c77 :: c78 :: c79 :: c80 :: c81 :: c82 :: c83 :: c84 :: c85 :: c86 :: c87 :: c88 :: c89 :: c90 :: c91 :: c92 :: c93 :: c94 :: c95 :: c96 :: c97 :: c98 :: c99 :: c100 :: c101 :: c102 :: c103 :: c104 :: c105 :: c106 :: c107 :: c108 :: c109 :: c110 :: c111 :: c112 :: c113 :: c114 :: c115 :: c116 :: c117 :: c118 :: c119 :: c120 :: c121 :: c122 :: c123 :: c124 :: c125 :: c126 :: c127 :: c128 :: c129 :: c130 :: c131 :: c132 :: c133 :: c134 :: c135 :: c136 :: c137 :: c138 :: c139 :: c140 :: c141 :: c142 :: c143 :: c144 :: c145 :: c146 :: c147 :: c148 :: c149 :: c150 :: c151 :: c152 :: c153 :: c154 :: c155 :: c156 :: c157 :: c158 :: c159 :: c160 :: c161 :: c162 :: c163 :: c164 :: c165 :: c166 :: c167 :: c168 :: c169 :: c170 :: c171 :: c172 :: c173 :: c174 :: c175 :: c176 :: c177 :: c178 :: c179 :: c180 :: c181 :: c182 :: c183 :: c184 :: c185 :: c186 :: c187 :: c188 :: c189 :: c190 :: c191 :: c192 :: c193 :: c194 :: c195 :: c196 :: c197 :: c198 :: c199 :: c200 :: c201 :: c202 :: c203 :: c204 :: c205 :: c206 :: c207 :: c208 :: c209 :: []), []⟩ w := by
  obtain ⟨NK, hNK⟩ : ∃ z : Nat, PW * PH = z := ⟨_, rfl⟩
  have hNKb : NK ≤ 1099511627776 := by
    rw [← hNK]
    exact Nat.mul_le_mul hPW hPH
  have wNK : IntKind.i64.wrap ((PW : Int) * PH) = (NK : Int) := by rw [show (PW : Int) * PH = ((PW * PH : Nat) : Int) from (Int.natCast_mul _ _).symm, hNK]; exact wr (by omega)
  clear hNK
  have G1 := Lib.hid H1
  have G2 := Lib.hid H2
  have HX := Lib.hid hX
  have lp : gp < w.heap.size := (Array.getElem?_eq_some_iff.1 par).1
  have lz : gz < w.heap.size := (Array.getElem?_eq_some_iff.1 rz).1
  clear H1 H2 hX
  conv => arg 2; arg 1; whnf
  go_loopw [19] (fun v wr => ∃ kn : Nat, kn ≤ NK ∧ kn ≤ 40 ∧ v = .int .i64 (kn : Int) ∧ Below w.heap.size w wr) (fun v _ => NK - (intOf v).toNat)
  case atStart => exact ⟨0, Nat.zero_le _, Nat.zero_le _, rfl, Below.refl _ _⟩
  case round =>
    obtain ⟨kn, hkn, hkm, rfl, hbe⟩ := hrel
    obtain ⟨wa, hwa⟩ : ∃ wa, wa = wr := ⟨_, rfl⟩
    subst hwa
    have hle := hbe.size
    by_cases h1 : kn < NK
    · by_cases h2 : kn < 40
      · have par1 := (hbe.block gp lp).trans par
        have rz1 := (hbe.block gz lz).trans rz
        have hX1 := (HX.out.below hbe).more hle
        go_wp2_with fail
        refine pl5 gp gz bx ox BN cX rn kn Z0 Z1 Z2 Z3 tx ty lv cw ch pr st od ly rct sop eph fb (NBf kn) (WBf kn) (ff kn) wa hBN hBN3 (hNB kn) par1 rz1 hX1 (fun en v he => G1.out kn en v h2 he) (fun en v he => G2.out kn en v h2 he) _ ?_
        intro u2 u20 u21 u22 u23 u24 u171 u172 u173 u174 u175 u176 u177 u178 u179 u180 u181 u182 u183 u184 u185 u186 u187 u188 u189 u190 u191 u192 u193 u194 u195 u196 u197 u198 u199 u200 u201 u202 u203 u204 u205 u206 u207 u208 u209 wz hbi
        have hbz := hbe.trans (hbi.mono hle)
        clear par1 rz1 hX1 hbi
        go_wp2_with fail
        go_roundw
        case rel => exact ⟨kn + 1, by omega, by omega, by go_num, hbz⟩
        case measure => simp [intOf]; omega
      · clear G1 G2 HX
        go_wp2_with fail
        first
          | exact hbe
          | (apply hexit; exact hbe)
    · clear G1 G2 HX
      go_wp2_with fail
      first
        | exact hbe
        | (apply hexit; exact hbe)
end Go.Proofs.Ytmieoifagnpbiaa
