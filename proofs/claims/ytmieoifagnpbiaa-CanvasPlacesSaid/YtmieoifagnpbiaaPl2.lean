/- LOOP 2 of waveletlaw12.CanvasPlaces: over the components of a picture. -/
import Derived.Test.YtmieoifagnpbiaaPl3
import Derived.Test.YtmieoifagnpbiaaPart12
import Derived.Deep.CutBlock
import Derived.Deep.LoopGhost
namespace Go.Proofs.Ytmieoifagnpbiaa
open Go.RowKit
attribute [local go_sem] opv opnd
set_option maxHeartbeats 40000000
set_option linter.unusedVariables false
set_option linter.unusedSimpArgs false
set_option maxRecDepth 1000000

theorem pl2 {c0 c1 c2 c8 c9 c10 c11 c12 c13 c14 c15 c16 c17 c18 c19 c20 c21 c22 c23 c24 c25 c26 c27 c28 c29 c30 c31 c32 c33 c34 c35 c36 c37 c38 c39 c40 c41 c42 c43 c44 c45 c46 c47 c48 c49 c50 c51 c52 c53 c54 c55 c56 c57 c58 c59 c60 c61 c62 c63 c64 c65 c66 c67 c68 c69 c70 c71 c72 c73 c74 c75 c76 c77 c78 c79 c80 c81 c82 c83 c84 c85 c86 c87 c88 c89 c90 c91 c92 c93 c94 c95 c96 c97 c98 c99 c100 c101 c102 c103 c104 c105 c106 c107 c108 c109 c110 c111 c112 c113 c114 c115 c116 c117 c118 c119 c120 c121 c122 c123 c124 c125 c126 c127 c128 c129 c130 c131 c132 c133 c134 c135 c136 c137 c138 c139 c140 c141 c142 c143 c144 c145 c146 c147 c148 c149 c150 c151 c152 c153 c154 c155 c156 c157 c158 c159 c160 c161 c162 c163 c164 c165 c166 c167 c168 c169 c170 c171 c172 c173 c174 c175 c176 c177 c178 c179 c180 c181 c182 c183 c184 c185 c186 c187 c188 c189 c190 c191 c192 c193 c194 c195 c196 c197 c198 c199 c200 c201 c202 c203 c204 c205 c206 c207 c208 c209 : Value} (gi gp bt ot NT cT iN : Nat) (T0 T1 T2 T3 : Nat) (Xn Yn On Pn : Nat) (A : Option Addr) (n c : Nat) (F : Nat → CompD) (tx ty lv cw ch pr st od ly : Nat) (rct sop eph : Bool) (w : World) (hT : T0 ≤ 64 ∧ T1 ≤ 64 ∧ T2 ≤ 64 ∧ T3 ≤ 64) (hNT : NT ≤ 4096) (hiN : iN < NT) (hlv : lv ≤ 18) (hcw : cw ≤ 6) (hch : ch ≤ 6) (hpr : 1 ≤ pr ∧ pr ≤ 15) (hway : waysB lv cw ch pr st od ly = true) (hn : n ≤ 16384) (hF : ∀ j, j < n → (1 ≤ (F j).dx ∧ (F j).dx ≤ 4) ∧ (1 ≤ (F j).dy ∧ (F j).dy ≤ 4)) (img : w.heap[gi]? = some (.cells #[.int .i64 (Xn : Int), .int .i64 (Yn : Int), .int .i64 (On : Int), .int .i64 (Pn : Int), .slice A n c] 25 (0, 0))) (par : w.heap[gp]? = some (.cells #[.int .i64 (tx : Int), .int .i64 (ty : Int), .int .i64 (lv : Int), .int .i64 (cw : Int), .int .i64 (ch : Int), .int .i64 (pr : Int), .int .i64 (st : Int), .int .i64 (od : Int), .int .i64 (ly : Int), .bool rct, .bool sop, .bool eph] 27 (0, 0))) (hbt : bt < w.heap.size) (t0 : w.cell? ⟨bt, ot + iN * 4, none⟩ = some (.int .i64 (T0 : Int))) (t1 : w.cell? ⟨bt, ot + iN * 4 + 1, none⟩ = some (.int .i64 (T1 : Int))) (t2 : w.cell? ⟨bt, ot + iN * 4 + 2, none⟩ = some (.int .i64 (T2 : Int))) (t3 : w.cell? ⟨bt, ot + iN * 4 + 3, none⟩ = some (.int .i64 (T3 : Int))) (hca : CompsAt w w.heap.size A n F) (QQ : Exit → Act → World → Prop) (hexit : ∀ (u2 u7 u8 u9 u10 u11 u12 u13 u14 u15 u16 u17 u18 u19 u20 u21 u22 u23 u24 u47 u48 u49 u50 u51 u52 u53 u54 u55 u56 u57 u58 u59 u60 u61 u62 u63 u64 u65 u66 u67 u68 u69 u70 u71 u72 u73 u74 u75 u76 u77 u78 u79 u80 u81 u82 u83 u84 u85 u86 u87 u88 u89 u90 u91 u92 u93 u94 u95 u96 u97 u98 u99 u100 u101 u102 u103 u104 u105 u106 u107 u108 u109 u110 u111 u112 u113 u114 u115 u116 u117 u118 u119 u120 u121 u122 u123 u124 u125 u126 u127 u128 u129 u130 u131 u132 u133 u134 u135 u136 u137 u138 u139 u140 u141 u142 u143 u144 u145 u146 u147 u148 u149 u150 u151 u152 u153 u154 u155 u156 u157 u158 u159 u160 u161 u162 u163 u164 u165 u166 u167 u168 u169 u170 u171 u172 u173 u174 u175 u176 u177 u178 u179 u180 u181 u182 u183 u184 u185 u186 u187 u188 u189 u190 u191 u192 u193 u194 u195 u196 u197 u198 u199 u200 u201 u202 u203 u204 u205 u206 u207 u208 u209 : Value) (w' : World), Below w.heap.size w w' → QQ (.exit 2) ⟨List.toArray (c0 :: c1 :: u2 :: Value.pointer (some ⟨gi, 0, none⟩) :: Value.pointer (some ⟨gp, 0, none⟩) :: Value.slice (some ⟨bt, ot, none⟩) NT cT :: Value.int .i64 (iN : Int) :: u7 :: u8 :: u9 :: u10 :: u11 :: u12 :: u13 :: u14 :: u15 :: u16 :: u17 :: u18 :: u19 :: u20 :: u21 :: u22 :: u23 :: u24 :: c25 :: c26 :: c27 :: c28 :: c29 :: c30 :: c31 :: c32 :: c33 :: c34 :: c35 :: c36 :: c37 :: c38 :: c39 :: c40 :: c41 :: c42 :: c43 :: c44 :: c45 :: c46 :: u47 :: u48 :: u49 :: u50 :: u51 :: u52 :: u53 :: u54 :: u55 :: u56 :: u57 :: u58 :: u59 :: u60 :: u61 :: u62 :: u63 :: u64 :: u65 :: u66 :: u67 :: u68 :: u69 :: u70 :: u71 :: u72 :: u73 :: u74 :: u75 :: u76 :: u77 :: u78 :: u79 :: u80 :: u81 :: u82 :: u83 :: u84 :: u85 :: u86 :: u87 :: u88 :: u89 :: u90 :: u91 :: u92 :: u93 :: u94 :: u95 :: u96 :: u97 :: u98 :: u99 :: u100 :: u101 :: u102 :: u103 :: u104 :: u105 :: u106 :: u107 :: u108 :: u109 :: u110 :: u111 :: u112 :: u113 :: u114 :: u115 :: u116 :: u117 :: u118 :: u119 :: u120 :: u121 :: u122 :: u123 :: u124 :: u125 :: u126 :: u127 :: u128 :: u129 :: u130 :: u131 :: u132 :: u133 :: u134 :: u135 :: u136 :: u137 :: u138 :: u139 :: u140 :: u141 :: u142 :: u143 :: u144 :: u145 :: u146 :: u147 :: u148 :: u149 :: u150 :: u151 :: u152 :: u153 :: u154 :: u155 :: u156 :: u157 :: u158 :: u159 :: u160 :: u161 :: u162 :: u163 :: u164 :: u165 :: u166 :: u167 :: u168 :: u169 :: u170 :: u171 :: u172 :: u173 :: u174 :: u175 :: u176 :: u177 :: u178 :: u179 :: u180 :: u181 :: u182 :: u183 :: u184 :: u185 :: u186 :: u187 :: u188 :: u189 :: u190 :: u191 :: u192 :: u193 :: u194 :: u195 :: u196 :: u197 :: u198 :: u199 :: u200 :: u201 :: u202 :: u203 :: u204 :: u205 :: u206 :: u207 :: u208 :: u209 :: []), []⟩ w') :
    Code.wp Try.prog (Code.loop plC2) QQ ⟨List.toArray (c0 :: c1 :: c2 :: Value.pointer (some ⟨gi, 0, none⟩) :: Value.pointer (some ⟨gp, 0, none⟩) :: Value.slice (some ⟨bt, ot, none⟩) NT cT :: Value.int .i64 (iN : Int) :: Value.int .i64 0 :: c8 :: c9 :: c10 :: c11 :: c12 :: c13 :: c14 :: c15 :: c16 :: c17 :: c18 :: c19 :: c20 :: c21 :: c22 :: c23 :: c24 :: c25 :: c26 :: c27 :: c28 :: c29 :: c30 :: c31 :: c32 :: c33 :: c34 :: c35 :: c36 :: c37 :: c38 :: c39 :: c40 :: c41 :: c42 :: c43 :: c44 :: c45 :: c46 :: c47 :: c48 :: c49 :: c50 :: c51 :: c52 :: c53 :: c54 :: c55 :: c56 :: c57 :: c58 :: c59 :: c60 :: c61 :: c62 :: c63 :: c64 :: c65 :: c66 :: c67 :: c68 :: c69 :: c70 :: c71 :: c72 :: c73 :: c74 :: c75 :: c76 :: c77 :: c78 :: c79 :: c80 :: c81 :: c82 :: c83 :: c84 :: c85 :: c86 :: c87 :: c88 :: c89 :: c90 :: c91 :: c92 :: c93 :: c94 :: c95 :: c96 :: c97 :: c98 :: c99 :: c100 :: c101 :: c102 :: c103 :: c104 :: c105 :: c106 :: c107 :: c108 :: c109 :: c110 :: c111 :: c112 :: c113 :: c114 :: c115 :: c116 :: c117 :: c118 :: c119 :: c120 :: c121 :: c122 :: c123 :: c124 :: c125 :: c126 :: c127 :: c128 :: c129 :: c130 :: c131 :: c132 :: c133 :: c134 :: c135 :: c136 :: c137 :: c138 :: c139 :: c140 :: c141 :: c142 :: c143 :: c144 :: c145 :: c146 :: c147 :: c148 :: c149 :: c150 :: c151 :: c152 :: c153 :: c154 :: c155 :: c156 :: c157 :: c158 :: c159 :: c160 :: c161 :: c162 :: c163 :: c164 :: c165 :: c166 :: c167 :: c168 :: c169 :: c170 :: c171 :: c172 :: c173 :: c174 :: c175 :: c176 :: c177 :: c178 :: c179 :: c180 :: c181 :: c182 :: c183 :: c184 :: c185 :: c186 :: c187 :: c188 :: c189 :: c190 :: c191 :: c192 :: c193 :: c194 :: c195 :: c196 :: c197 :: c198 :: c199 :: c200 :: c201 :: c202 :: c203 :: c204 :: c205 :: c206 :: c207 :: c208 :: c209 :: []), []⟩ w := by
  have HWAY := Lib.hid hway
  have HFF := Lib.hid hF
  have HCA := Lib.hid hca
  have li : gi < w.heap.size := (Array.getElem?_eq_some_iff.1 img).1
  have lp : gp < w.heap.size := (Array.getElem?_eq_some_iff.1 par).1
  clear hway hF hca
  conv => arg 2; arg 1; whnf
  go_loopw [7] (fun v wr => ∃ cN : Nat, cN ≤ n ∧ v = .int .i64 (cN : Int) ∧ Below w.heap.size w wr) (fun v _ => n - (intOf v).toNat)
  case atStart => exact ⟨0, Nat.zero_le _, rfl, Below.refl _ _⟩
  case round =>
    obtain ⟨cN, hcN, rfl, hbe⟩ := hrel
    obtain ⟨wa, hwa⟩ : ∃ wa, wa = wr := ⟨_, rfl⟩
    subst hwa
    have hle := hbe.size
    have img1 := (hbe.block gi li).trans img
    have m_4 : wa.cell? ⟨gi, 4, none⟩ = some (.slice A n c) := cell_of_row _ _ 4 _ _ (0, 0) img1
    by_cases hlt : cN < n
    · have par1 := (hbe.block gp lp).trans par
      have t0' := (hbe.cell (p := ⟨bt, ot + iN * 4, none⟩) hbt).trans t0
      have t1' := (hbe.cell (p := ⟨bt, ot + iN * 4 + 1, none⟩) hbt).trans t1
      have t2' := (hbe.cell (p := ⟨bt, ot + iN * 4 + 2, none⟩) hbt).trans t2
      have t3' := (hbe.cell (p := ⟨bt, ot + iN * 4 + 3, none⟩) hbt).trans t3
      have li1 : gi < wa.heap.size := Nat.lt_of_lt_of_le li hle
      have lp1 : gp < wa.heap.size := Nat.lt_of_lt_of_le lp hle
      have lt1 : bt < wa.heap.size := Nat.lt_of_lt_of_le hbt hle
      obtain ⟨bc, oc, hAe, hbc, k0, k1, k2, k3, k4⟩ := (HCA.out.below hbe).at_ (k := cN) hlt
      have lc1 : bc < wa.heap.size := Nat.lt_of_lt_of_le hbc hle
      subst hAe
      obtain ⟨⟨d1, d2⟩, d3, d4⟩ := HFF.out cN hlt
      obtain ⟨dxn, hdx⟩ := Int.eq_ofNat_of_zero_le (show (0 : Int) ≤ (F cN).dx by omega)
      obtain ⟨dyn, hdy⟩ := Int.eq_ofNat_of_zero_le (show (0 : Int) ≤ (F cN).dy by omega)
      have e1 : 1 ≤ dxn ∧ dxn ≤ 4 := by omega
      have e2 : 1 ≤ dyn ∧ dyn ≤ 4 := by omega
      rw [hdx] at k2
      rw [hdy] at k3
      have HPt := Lib.hid (fun v => part_any T0 T1 T2 T3 dxn dyn (by omega) (by omega) (by omega) (by omega) (by omega) (by omega) (by omega) (by omega) v)
      have HPr := Lib.hid (fun v => by
        have := partR_any ⟨(T0 : Int), (T1 : Int), (T2 : Int), (T3 : Int)⟩ dxn dyn (by simp only; omega) (by simp only; omega) (by simp only; omega) (by simp only; omega) (by omega) (by omega) v
        simp only at this
        rw [clI_nat _ _ e1.1, clI_nat _ _ e2.1, clI_nat _ _ e1.1, clI_nat _ _ e2.1] at this
        exact this)
      obtain ⟨Q0, hQ0⟩ : ∃ z, byN T0 dxn = z := ⟨_, rfl⟩
      obtain ⟨Q1, hQ1⟩ : ∃ z, byN T1 dyn = z := ⟨_, rfl⟩
      obtain ⟨Q2, hQ2⟩ : ∃ z, byN T2 dxn = z := ⟨_, rfl⟩
      obtain ⟨Q3, hQ3⟩ : ∃ z, byN T3 dyn = z := ⟨_, rfl⟩
      have hQb : Q0 ≤ 64 ∧ Q1 ≤ 64 ∧ Q2 ≤ 64 ∧ Q3 ≤ 64 := by
        have := byN_le (n := T0) e1.1
        have := byN_le (n := T1) e2.1
        have := byN_le (n := T2) e1.1
        have := byN_le (n := T3) e2.1
        omega
      rw [hQ0, hQ1, hQ2, hQ3] at HPt HPr
      unfold rcV at HPt HPr
      clear hQ0 hQ1 hQ2 hQ3 hdx hdy d1 d2 d3 d4 k0 k1 k4
      have hc0 : ¬ n = 0 := by omega
      go_upto_region 13 with fail
      refine last_cut (by kernel_rfl) (fun U => U.heap[gi]? = some (.cells #[.int .i64 (Xn : Int), .int .i64 (Yn : Int), .int .i64 (On : Int), .int .i64 (Pn : Int), .slice (some ⟨bc, oc, none⟩) n c] 25 (0, 0)) ∧ U.cell? ⟨bt, ot + iN * 4, none⟩ = some (.int .i64 (T0 : Int)) ∧ U.cell? ⟨bt, ot + iN * 4 + 1, none⟩ = some (.int .i64 (T1 : Int)) ∧ U.cell? ⟨bt, ot + iN * 4 + 2, none⟩ = some (.int .i64 (T2 : Int)) ∧ U.cell? ⟨bt, ot + iN * 4 + 3, none⟩ = some (.int .i64 (T3 : Int)) ∧ U.cell? ⟨bc, oc + cN * 5 + 2, none⟩ = some (.int .i64 (dxn : Int)) ∧ U.cell? ⟨bc, oc + cN * 5 + 3, none⟩ = some (.int .i64 (dyn : Int))) (fun aF a' W' => ∃ gq, a' = ((((((((((((((((((aF.put (some 54) (.slice (some ⟨bt, ot, none⟩) NT cT)).put (some 55) (.int .i64 (iN : Int))).put (some 56) (.pointer (some ⟨bt, ot + iN * 4, none⟩))).put (some 57) (.agg #[.int .i64 (T0 : Int), .int .i64 (T1 : Int), .int .i64 (T2 : Int), .int .i64 (T3 : Int)])).put (some 58) (.pointer (some ⟨gi, 4, none⟩))).put (some 59) (.slice (some ⟨bc, oc, none⟩) n c)).put (some 60) (.int .i64 (cN : Int))).put (some 61) (.pointer (some ⟨bc, oc + cN * 5, none⟩))).put (some 62) (.pointer (some ⟨bc, oc + cN * 5 + 2, none⟩))).put (some 63) (.int .i64 (dxn : Int))).put (some 64) (.pointer (some ⟨gi, 4, none⟩))).put (some 65) (.slice (some ⟨bc, oc, none⟩) n c)).put (some 66) (.int .i64 (cN : Int))).put (some 67) (.pointer (some ⟨bc, oc + cN * 5, none⟩))).put (some 68) (.pointer (some ⟨bc, oc + cN * 5 + 3, none⟩))).put (some 69) (.int .i64 (dyn : Int))).put (some 70) (.agg #[.int .i64 (Q0 : Int), .int .i64 (Q1 : Int), .int .i64 (Q2 : Int), .int .i64 (Q3 : Int)])).put (some 8) (.pointer (some ⟨gq, 0, none⟩))) ∧ W'.heap[gq]? = some (.cells #[.int .i64 (Q0 : Int), .int .i64 (Q1 : Int), .int .i64 (Q2 : Int), .int .i64 (Q3 : Int)] 53 (0, 0)) ∧ wa.heap.size ≤ gq ∧ Below wa.heap.size wa W') ⟨img1, t0', t1', t2', t3', k2, k3⟩ (fun hS => ?_) ?_
      · skip
        have hSB : ∀ U : World, Below (wa.heap.size) wa U → U.heap[gi]? = some (.cells #[.int .i64 (Xn : Int), .int .i64 (Yn : Int), .int .i64 (On : Int), .int .i64 (Pn : Int), .slice (some ⟨bc, oc, none⟩) n c] 25 (0, 0)) ∧ U.cell? ⟨bt, ot + iN * 4, none⟩ = some (.int .i64 (T0 : Int)) ∧ U.cell? ⟨bt, ot + iN * 4 + 1, none⟩ = some (.int .i64 (T1 : Int)) ∧ U.cell? ⟨bt, ot + iN * 4 + 2, none⟩ = some (.int .i64 (T2 : Int)) ∧ U.cell? ⟨bt, ot + iN * 4 + 3, none⟩ = some (.int .i64 (T3 : Int)) ∧ U.cell? ⟨bc, oc + cN * 5 + 2, none⟩ = some (.int .i64 (dxn : Int)) ∧ U.cell? ⟨bc, oc + cN * 5 + 3, none⟩ = some (.int .i64 (dyn : Int)) := fun U h => ⟨(h.block (gi) (by omega)).trans (img1), (h.cell (p := ⟨bt, ot + iN * 4, none⟩) (by simp only; omega)).trans (t0'), (h.cell (p := ⟨bt, ot + iN * 4 + 1, none⟩) (by simp only; omega)).trans (t1'), (h.cell (p := ⟨bt, ot + iN * 4 + 2, none⟩) (by simp only; omega)).trans (t2'), (h.cell (p := ⟨bt, ot + iN * 4 + 3, none⟩) (by simp only; omega)).trans (t3'), (h.cell (p := ⟨bc, oc + cN * 5 + 2, none⟩) (by simp only; omega)).trans (k2), (h.cell (p := ⟨bc, oc + cN * 5 + 3, none⟩) (by simp only; omega)).trans (k3)⟩
        have bV : Below wa.heap.size wa wa.drew := (Below.refl _ _).drew
        generalize wa.drew = V0 at *
        change wpAnyL _ _ _ _ _ 19 #[false, false, false, false, false, false, false, false, false, false, false, false, false, false, false, false, false, false, false] _ _
        refine wpAnyL_take (i := 0) (v := .slice (some ⟨bt, ot, none⟩) NT cT) (by simp only [List.getElem?_toArray, List.getElem?_cons_succ, List.getElem?_cons_zero]; rfl) (by as_aux_lemma => kernel_rfl) (by as_aux_lemma => kernel_rfl) (by as_aux_lemma => kernel_rfl) (fun _ _ _ h => h) (Or.inl ⟨by rfl, ?_⟩) hS ?_
        · intro U hU
          obtain ⟨s0, s1, s2, s3, s4, s5, s6⟩ := hU
          kernel_rfl
        simp only [Act.put, List.setIfInBounds_toArray, List.set_cons_zero, List.set_cons_succ]
        refine wpAnyL_take (i := 1) (v := .int .i64 (iN : Int)) (by simp only [List.getElem?_toArray, List.getElem?_cons_succ, List.getElem?_cons_zero]; rfl) (by as_aux_lemma => kernel_rfl) (by as_aux_lemma => kernel_rfl) (by as_aux_lemma => kernel_rfl) (fun _ _ _ h => h) (Or.inl ⟨by rfl, ?_⟩) hS ?_
        · intro U hU
          obtain ⟨s0, s1, s2, s3, s4, s5, s6⟩ := hU
          kernel_rfl
        simp only [Act.put, List.setIfInBounds_toArray, List.set_cons_zero, List.set_cons_succ]
        refine wpAnyL_take (i := 2) (v := .pointer (some ⟨bt, ot + iN * 4, none⟩)) (by simp only [List.getElem?_toArray, List.getElem?_cons_succ, List.getElem?_cons_zero]; rfl) (by as_aux_lemma => kernel_rfl) (by as_aux_lemma => kernel_rfl) (by as_aux_lemma => kernel_rfl) (fun _ _ _ h => h) (Or.inl ⟨by rfl, ?_⟩) hS ?_
        · intro U hU
          obtain ⟨s0, s1, s2, s3, s4, s5, s6⟩ := hU
          go_simp
        simp only [Act.put, List.setIfInBounds_toArray, List.set_cons_zero, List.set_cons_succ]
        refine wpAnyL_take (i := 3) (v := .agg #[.int .i64 (T0 : Int), .int .i64 (T1 : Int), .int .i64 (T2 : Int), .int .i64 (T3 : Int)]) (by simp only [List.getElem?_toArray, List.getElem?_cons_succ, List.getElem?_cons_zero]; rfl) (by as_aux_lemma => kernel_rfl) (by as_aux_lemma => kernel_rfl) (by as_aux_lemma => kernel_rfl) (fun _ _ _ h => h) (Or.inl ⟨by rfl, ?_⟩) hS ?_
        · intro U hU
          obtain ⟨s0, s1, s2, s3, s4, s5, s6⟩ := hU
          go_simp
        simp only [Act.put, List.setIfInBounds_toArray, List.set_cons_zero, List.set_cons_succ]
        refine wpAnyL_take (i := 4) (v := .pointer (some ⟨gi, 4, none⟩)) (by simp only [List.getElem?_toArray, List.getElem?_cons_succ, List.getElem?_cons_zero]; rfl) (by as_aux_lemma => kernel_rfl) (by as_aux_lemma => kernel_rfl) (by as_aux_lemma => kernel_rfl) (fun _ _ _ h => h) (Or.inl ⟨by rfl, ?_⟩) hS ?_
        · intro U hU
          obtain ⟨s0, s1, s2, s3, s4, s5, s6⟩ := hU
          kernel_rfl
        simp only [Act.put, List.setIfInBounds_toArray, List.set_cons_zero, List.set_cons_succ]
        refine wpAnyL_take (i := 5) (v := .slice (some ⟨bc, oc, none⟩) n c) (by simp only [List.getElem?_toArray, List.getElem?_cons_succ, List.getElem?_cons_zero]; rfl) (by as_aux_lemma => kernel_rfl) (by as_aux_lemma => kernel_rfl) (by as_aux_lemma => kernel_rfl) (fun _ _ _ h => h) (Or.inl ⟨by rfl, ?_⟩) hS ?_
        · intro U hU
          obtain ⟨s0, s1, s2, s3, s4, s5, s6⟩ := hU
          have r0_4 : U.cell? ⟨gi, 4, none⟩ = some (.slice (some ⟨bc, oc, none⟩) n c) := cell_of_row _ _ 4 _ _ (0, 0) s0
          exact exec_loadCell rfl rfl r0_4 (by kernel_rfl)
        simp only [Act.put, List.setIfInBounds_toArray, List.set_cons_zero, List.set_cons_succ]
        refine wpAnyL_take (i := 6) (v := .int .i64 (cN : Int)) (by simp only [List.getElem?_toArray, List.getElem?_cons_succ, List.getElem?_cons_zero]; rfl) (by as_aux_lemma => kernel_rfl) (by as_aux_lemma => kernel_rfl) (by as_aux_lemma => kernel_rfl) (fun _ _ _ h => h) (Or.inl ⟨by rfl, ?_⟩) hS ?_
        · intro U hU
          obtain ⟨s0, s1, s2, s3, s4, s5, s6⟩ := hU
          kernel_rfl
        simp only [Act.put, List.setIfInBounds_toArray, List.set_cons_zero, List.set_cons_succ]
        refine wpAnyL_take (i := 7) (v := .pointer (some ⟨bc, oc + cN * 5, none⟩)) (by simp only [List.getElem?_toArray, List.getElem?_cons_succ, List.getElem?_cons_zero]; rfl) (by as_aux_lemma => kernel_rfl) (by as_aux_lemma => kernel_rfl) (by as_aux_lemma => kernel_rfl) (fun _ _ _ h => h) (Or.inl ⟨by rfl, ?_⟩) hS ?_
        · intro U hU
          obtain ⟨s0, s1, s2, s3, s4, s5, s6⟩ := hU
          go_simp
        simp only [Act.put, List.setIfInBounds_toArray, List.set_cons_zero, List.set_cons_succ]
        refine wpAnyL_take (i := 8) (v := .pointer (some ⟨bc, oc + cN * 5 + 2, none⟩)) (by simp only [List.getElem?_toArray, List.getElem?_cons_succ, List.getElem?_cons_zero]; rfl) (by as_aux_lemma => kernel_rfl) (by as_aux_lemma => kernel_rfl) (by as_aux_lemma => kernel_rfl) (fun _ _ _ h => h) (Or.inl ⟨by rfl, ?_⟩) hS ?_
        · intro U hU
          obtain ⟨s0, s1, s2, s3, s4, s5, s6⟩ := hU
          kernel_rfl
        simp only [Act.put, List.setIfInBounds_toArray, List.set_cons_zero, List.set_cons_succ]
        refine wpAnyL_take (i := 9) (v := .int .i64 (dxn : Int)) (by simp only [List.getElem?_toArray, List.getElem?_cons_succ, List.getElem?_cons_zero]; rfl) (by as_aux_lemma => kernel_rfl) (by as_aux_lemma => kernel_rfl) (by as_aux_lemma => kernel_rfl) (fun _ _ _ h => h) (Or.inl ⟨by rfl, ?_⟩) hS ?_
        · intro U hU
          obtain ⟨s0, s1, s2, s3, s4, s5, s6⟩ := hU
          exact exec_loadCell rfl rfl s5 (by kernel_rfl)
        simp only [Act.put, List.setIfInBounds_toArray, List.set_cons_zero, List.set_cons_succ]
        refine wpAnyL_take (i := 10) (v := .pointer (some ⟨gi, 4, none⟩)) (by simp only [List.getElem?_toArray, List.getElem?_cons_succ, List.getElem?_cons_zero]; rfl) (by as_aux_lemma => kernel_rfl) (by as_aux_lemma => kernel_rfl) (by as_aux_lemma => kernel_rfl) (fun _ _ _ h => h) (Or.inl ⟨by rfl, ?_⟩) hS ?_
        · intro U hU
          obtain ⟨s0, s1, s2, s3, s4, s5, s6⟩ := hU
          kernel_rfl
        simp only [Act.put, List.setIfInBounds_toArray, List.set_cons_zero, List.set_cons_succ]
        refine wpAnyL_take (i := 11) (v := .slice (some ⟨bc, oc, none⟩) n c) (by simp only [List.getElem?_toArray, List.getElem?_cons_succ, List.getElem?_cons_zero]; rfl) (by as_aux_lemma => kernel_rfl) (by as_aux_lemma => kernel_rfl) (by as_aux_lemma => kernel_rfl) (fun _ _ _ h => h) (Or.inl ⟨by rfl, ?_⟩) hS ?_
        · intro U hU
          obtain ⟨s0, s1, s2, s3, s4, s5, s6⟩ := hU
          have r0_4 : U.cell? ⟨gi, 4, none⟩ = some (.slice (some ⟨bc, oc, none⟩) n c) := cell_of_row _ _ 4 _ _ (0, 0) s0
          exact exec_loadCell rfl rfl r0_4 (by kernel_rfl)
        simp only [Act.put, List.setIfInBounds_toArray, List.set_cons_zero, List.set_cons_succ]
        refine wpAnyL_take (i := 12) (v := .int .i64 (cN : Int)) (by simp only [List.getElem?_toArray, List.getElem?_cons_succ, List.getElem?_cons_zero]; rfl) (by as_aux_lemma => kernel_rfl) (by as_aux_lemma => kernel_rfl) (by as_aux_lemma => kernel_rfl) (fun _ _ _ h => h) (Or.inl ⟨by rfl, ?_⟩) hS ?_
        · intro U hU
          obtain ⟨s0, s1, s2, s3, s4, s5, s6⟩ := hU
          kernel_rfl
        simp only [Act.put, List.setIfInBounds_toArray, List.set_cons_zero, List.set_cons_succ]
        refine wpAnyL_take (i := 13) (v := .pointer (some ⟨bc, oc + cN * 5, none⟩)) (by simp only [List.getElem?_toArray, List.getElem?_cons_succ, List.getElem?_cons_zero]; rfl) (by as_aux_lemma => kernel_rfl) (by as_aux_lemma => kernel_rfl) (by as_aux_lemma => kernel_rfl) (fun _ _ _ h => h) (Or.inl ⟨by rfl, ?_⟩) hS ?_
        · intro U hU
          obtain ⟨s0, s1, s2, s3, s4, s5, s6⟩ := hU
          go_simp
        simp only [Act.put, List.setIfInBounds_toArray, List.set_cons_zero, List.set_cons_succ]
        refine wpAnyL_take (i := 14) (v := .pointer (some ⟨bc, oc + cN * 5 + 3, none⟩)) (by simp only [List.getElem?_toArray, List.getElem?_cons_succ, List.getElem?_cons_zero]; rfl) (by as_aux_lemma => kernel_rfl) (by as_aux_lemma => kernel_rfl) (by as_aux_lemma => kernel_rfl) (fun _ _ _ h => h) (Or.inl ⟨by rfl, ?_⟩) hS ?_
        · intro U hU
          obtain ⟨s0, s1, s2, s3, s4, s5, s6⟩ := hU
          kernel_rfl
        simp only [Act.put, List.setIfInBounds_toArray, List.set_cons_zero, List.set_cons_succ]
        refine wpAnyL_take (i := 15) (v := .int .i64 (dyn : Int)) (by simp only [List.getElem?_toArray, List.getElem?_cons_succ, List.getElem?_cons_zero]; rfl) (by as_aux_lemma => kernel_rfl) (by as_aux_lemma => kernel_rfl) (by as_aux_lemma => kernel_rfl) (fun _ _ _ h => h) (Or.inl ⟨by rfl, ?_⟩) hS ?_
        · intro U hU
          obtain ⟨s0, s1, s2, s3, s4, s5, s6⟩ := hU
          exact exec_loadCell rfl rfl s6 (by kernel_rfl)
        simp only [Act.put, List.setIfInBounds_toArray, List.set_cons_zero, List.set_cons_succ]
        refine wpAnyL_ready (rs := [16, 17]) (by as_aux_lemma => kernel_rfl) (by simp) ?_
        refine AllReadyL.cons (by simp only [List.getElem?_toArray, List.getElem?_cons_succ, List.getElem?_cons_zero]; rfl) (fun K' hK' => ?_) (AllReadyL.cons (by simp only [List.getElem?_toArray, List.getElem?_cons_succ, List.getElem?_cons_zero]; rfl) (fun K' hK' => ?_) AllReadyL.nil)
        · go_simp
          go_at_call 22
          refine (HPt.out _).mono ?_
          rintro e' U16 ⟨rfl, hb16⟩
          have b16 := below_trans bV hb16
          have hS := hSB _ b16
          dsimp only
          refine hK'.out _ _ hS (fun _ => ?_)
          clear hb16
          clear hK' K'
          try simp only [Act.put, List.setIfInBounds_toArray, List.set_cons_zero, List.set_cons_succ]
          refine wpAnyL_ready (rs := [17]) (by as_aux_lemma => kernel_rfl) (by simp) ?_
          refine AllReadyL.cons (by simp only [List.getElem?_toArray, List.getElem?_cons_succ, List.getElem?_cons_zero]; rfl) (fun K' hK' => ?_) AllReadyL.nil
          go_simp
          obtain ⟨gq, hgq⟩ : ∃ g, U16.heap.size = g := ⟨_, rfl⟩
          have x9 := heap_alloc_new U16 (.cells #[.int .i64 0, .int .i64 0, .int .i64 0, .int .i64 0] 53)
          have l9 : U16.heap.size < (U16.alloc (.cells #[.int .i64 0, .int .i64 0, .int .i64 0, .int .i64 0] 53)).heap.size := by simp
          have y9 : wa.heap.size ≤ U16.heap.size := b16.size
          have b17 := below_alloc b16 (.cells #[.int .i64 0, .int .i64 0, .int .i64 0, .int .i64 0] 53)
          generalize U16.alloc (.cells #[.int .i64 0, .int .i64 0, .int .i64 0, .int .i64 0] 53) = U17 at *
          rw [hgq] at x9 l9 y9 ⊢
          clear hgq b16
          have hS := hSB _ b17
          refine hK'.out _ _ hS (fun _ => ?_)
          clear hK' K'
          try simp only [Act.put, List.setIfInBounds_toArray, List.set_cons_zero, List.set_cons_succ]
          refine wpAnyL_ready (rs := [18]) (by as_aux_lemma => kernel_rfl) (by simp) ?_
          refine AllReadyL.last (by simp only [List.getElem?_toArray, List.getElem?_cons_succ, List.getElem?_cons_zero]; rfl) (by as_aux_lemma => kernel_rfl) (fun K' hK' => ?_)
          have d0 : U17.cell? ⟨gq, 0, none⟩ = some (.int .i64 0) := cell_of_row _ _ 0 _ _ (0, 0) x9
          have d1 : U17.cell? ⟨gq, 1, none⟩ = some (.int .i64 0) := cell_of_row _ _ 1 _ _ (0, 0) x9
          have d2 : U17.cell? ⟨gq, 2, none⟩ = some (.int .i64 0) := cell_of_row _ _ 2 _ _ (0, 0) x9
          have d3 : U17.cell? ⟨gq, 3, none⟩ = some (.int .i64 0) := cell_of_row _ _ 3 _ _ (0, 0) x9
          have dz : ∀ i, U17.frozen? ⟨gq, i, none⟩ = false := fun i => frozen_of_row _ _ i _ _ x9
          go_simp
          obtain ⟨U18, hV, x9', b18⟩ : ∃ V, ((((U17.setCell ⟨gq, 0, none⟩ (.int .i64 (Q0 : Int))).setCell ⟨gq, 1, none⟩ (.int .i64 (Q1 : Int))).setCell ⟨gq, 2, none⟩ (.int .i64 (Q2 : Int))).setCell ⟨gq, 3, none⟩ (.int .i64 (Q3 : Int))) = V ∧ V.heap[gq]? = some (.cells #[.int .i64 (Q0 : Int), .int .i64 (Q1 : Int), .int .i64 (Q2 : Int), .int .i64 (Q3 : Int)] 53 (0, 0)) ∧ Below wa.heap.size wa V := ⟨_, rfl, setRow_at (old := [.int .i64 0, .int .i64 0, .int .i64 0, .int .i64 0]) [.int .i64 (Q0 : Int), .int .i64 (Q1 : Int), .int .i64 (Q2 : Int), .int .i64 (Q3 : Int)] rfl x9, setRow_below y9 [.int .i64 (Q0 : Int), .int .i64 (Q1 : Int), .int .i64 (Q2 : Int), .int .i64 (Q3 : Int)] 0 _ b17⟩
          rw [hV]
          clear hV
          refine hK'.out _ _ (?_)
          clear d0 d1 d2 d3 dz
          clear hK' K'
          try simp only [Act.put, List.setIfInBounds_toArray, List.set_cons_zero, List.set_cons_succ]
          refine wpAnyL_done (by as_aux_lemma => kernel_rfl) ?_ _
          simp only [OnlyN]
          refine ⟨gq, ?_, x9', y9, b18⟩
          (try simp only [Act.put, List.setIfInBounds_toArray, List.set_cons_zero, List.set_cons_succ])
        · go_simp
          obtain ⟨gq, hgq⟩ : ∃ g, V0.heap.size = g := ⟨_, rfl⟩
          have x9 := heap_alloc_new V0 (.cells #[.int .i64 0, .int .i64 0, .int .i64 0, .int .i64 0] 53)
          have l9 : V0.heap.size < (V0.alloc (.cells #[.int .i64 0, .int .i64 0, .int .i64 0, .int .i64 0] 53)).heap.size := by simp
          have y9 : wa.heap.size ≤ V0.heap.size := bV.size
          have b17 := below_alloc bV (.cells #[.int .i64 0, .int .i64 0, .int .i64 0, .int .i64 0] 53)
          generalize V0.alloc (.cells #[.int .i64 0, .int .i64 0, .int .i64 0, .int .i64 0] 53) = U17 at *
          rw [hgq] at x9 l9 y9 ⊢
          clear hgq bV
          have hS := hSB _ b17
          refine hK'.out _ _ hS (fun _ => ?_)
          clear hK' K'
          try simp only [Act.put, List.setIfInBounds_toArray, List.set_cons_zero, List.set_cons_succ]
          refine wpAnyL_ready (rs := [16]) (by as_aux_lemma => kernel_rfl) (by simp) ?_
          refine AllReadyL.cons (by simp only [List.getElem?_toArray, List.getElem?_cons_succ, List.getElem?_cons_zero]; rfl) (fun K' hK' => ?_) AllReadyL.nil
          go_simp
          go_at_call 22
          refine (HPt.out _).mono ?_
          rintro e' U16 ⟨rfl, hb16⟩
          replace x9 := (hb16.block gq l9).trans x9
          replace l9 := Nat.lt_of_lt_of_le l9 hb16.size
          have b16 := below_trans b17 hb16
          have hS := hSB _ b16
          dsimp only
          refine hK'.out _ _ hS (fun _ => ?_)
          clear hb16
          clear hK' K'
          try simp only [Act.put, List.setIfInBounds_toArray, List.set_cons_zero, List.set_cons_succ]
          refine wpAnyL_ready (rs := [18]) (by as_aux_lemma => kernel_rfl) (by simp) ?_
          refine AllReadyL.last (by simp only [List.getElem?_toArray, List.getElem?_cons_succ, List.getElem?_cons_zero]; rfl) (by as_aux_lemma => kernel_rfl) (fun K' hK' => ?_)
          have d0 : U16.cell? ⟨gq, 0, none⟩ = some (.int .i64 0) := cell_of_row _ _ 0 _ _ (0, 0) x9
          have d1 : U16.cell? ⟨gq, 1, none⟩ = some (.int .i64 0) := cell_of_row _ _ 1 _ _ (0, 0) x9
          have d2 : U16.cell? ⟨gq, 2, none⟩ = some (.int .i64 0) := cell_of_row _ _ 2 _ _ (0, 0) x9
          have d3 : U16.cell? ⟨gq, 3, none⟩ = some (.int .i64 0) := cell_of_row _ _ 3 _ _ (0, 0) x9
          have dz : ∀ i, U16.frozen? ⟨gq, i, none⟩ = false := fun i => frozen_of_row _ _ i _ _ x9
          go_simp
          obtain ⟨U18, hV, x9', b18⟩ : ∃ V, ((((U16.setCell ⟨gq, 0, none⟩ (.int .i64 (Q0 : Int))).setCell ⟨gq, 1, none⟩ (.int .i64 (Q1 : Int))).setCell ⟨gq, 2, none⟩ (.int .i64 (Q2 : Int))).setCell ⟨gq, 3, none⟩ (.int .i64 (Q3 : Int))) = V ∧ V.heap[gq]? = some (.cells #[.int .i64 (Q0 : Int), .int .i64 (Q1 : Int), .int .i64 (Q2 : Int), .int .i64 (Q3 : Int)] 53 (0, 0)) ∧ Below wa.heap.size wa V := ⟨_, rfl, setRow_at (old := [.int .i64 0, .int .i64 0, .int .i64 0, .int .i64 0]) [.int .i64 (Q0 : Int), .int .i64 (Q1 : Int), .int .i64 (Q2 : Int), .int .i64 (Q3 : Int)] rfl x9, setRow_below y9 [.int .i64 (Q0 : Int), .int .i64 (Q1 : Int), .int .i64 (Q2 : Int), .int .i64 (Q3 : Int)] 0 _ b16⟩
          rw [hV]
          clear hV
          refine hK'.out _ _ (?_)
          clear d0 d1 d2 d3 dz
          clear hK' K'
          try simp only [Act.put, List.setIfInBounds_toArray, List.set_cons_zero, List.set_cons_succ]
          refine wpAnyL_done (by as_aux_lemma => kernel_rfl) ?_ _
          simp only [OnlyN]
          refine ⟨gq, ?_, x9', y9, b18⟩
          (try simp only [Act.put, List.setIfInBounds_toArray, List.set_cons_zero, List.set_cons_succ])
      rintro a' Vb ⟨gq, rfl, rq2, y9, hb2⟩
      simp only [Act.put, List.setIfInBounds_toArray, List.set_cons_zero, List.set_cons_succ]
      have img2 := (hb2.block gi li1).trans img1
      have par2 := (hb2.block gp lp1).trans par1
      have t0'' := (hb2.cell (p := ⟨bt, ot + iN * 4, none⟩) lt1).trans t0'
      have t1'' := (hb2.cell (p := ⟨bt, ot + iN * 4 + 1, none⟩) lt1).trans t1'
      have t2'' := (hb2.cell (p := ⟨bt, ot + iN * 4 + 2, none⟩) lt1).trans t2'
      have t3'' := (hb2.cell (p := ⟨bt, ot + iN * 4 + 3, none⟩) lt1).trans t3'
      have k2' := (hb2.cell (p := ⟨bc, oc + cN * 5 + 2, none⟩) lc1).trans k2
      have k3' := (hb2.cell (p := ⟨bc, oc + cN * 5 + 3, none⟩) lc1).trans k3
      have b2 := hbe.trans (hb2.mono hle)
      have sz2 := hb2.size
      have lq2 : gq < Vb.heap.size := (Array.getElem?_eq_some_iff.1 rq2).1
      clear t0' t1' t2' t3' k2 k3 img1 par1 hb2 m_4 HPt
      have li2 : gi < Vb.heap.size := by omega
      have lp2 : gp < Vb.heap.size := by omega
      have lt2 : bt < Vb.heap.size := by omega
      have lc2 : bc < Vb.heap.size := by omega
      go_upto_region 14 with fail
      refine last_cut (by kernel_rfl) (fun U => U.heap[gi]? = some (.cells #[.int .i64 (Xn : Int), .int .i64 (Yn : Int), .int .i64 (On : Int), .int .i64 (Pn : Int), .slice (some ⟨bc, oc, none⟩) n c] 25 (0, 0)) ∧ U.heap[gq]? = some (.cells #[.int .i64 (Q0 : Int), .int .i64 (Q1 : Int), .int .i64 (Q2 : Int), .int .i64 (Q3 : Int)] 53 (0, 0)) ∧ U.cell? ⟨bt, ot + iN * 4, none⟩ = some (.int .i64 (T0 : Int)) ∧ U.cell? ⟨bt, ot + iN * 4 + 1, none⟩ = some (.int .i64 (T1 : Int)) ∧ U.cell? ⟨bt, ot + iN * 4 + 2, none⟩ = some (.int .i64 (T2 : Int)) ∧ U.cell? ⟨bt, ot + iN * 4 + 3, none⟩ = some (.int .i64 (T3 : Int)) ∧ U.cell? ⟨bc, oc + cN * 5 + 2, none⟩ = some (.int .i64 (dxn : Int)) ∧ U.cell? ⟨bc, oc + cN * 5 + 3, none⟩ = some (.int .i64 (dyn : Int))) (fun aF a' W' => a' = (((((((((((((((((((aF.put (some 71) (.agg #[.int .i64 (Q0 : Int), .int .i64 (Q1 : Int), .int .i64 (Q2 : Int), .int .i64 (Q3 : Int)])).put (some 72) (.slice (some ⟨bt, ot, none⟩) NT cT)).put (some 73) (.int .i64 (iN : Int))).put (some 74) (.pointer (some ⟨bt, ot + iN * 4, none⟩))).put (some 75) (.agg #[.int .i64 (T0 : Int), .int .i64 (T1 : Int), .int .i64 (T2 : Int), .int .i64 (T3 : Int)])).put (some 76) (.pointer (some ⟨gi, 4, none⟩))).put (some 77) (.slice (some ⟨bc, oc, none⟩) n c)).put (some 78) (.int .i64 (cN : Int))).put (some 79) (.pointer (some ⟨bc, oc + cN * 5, none⟩))).put (some 80) (.pointer (some ⟨bc, oc + cN * 5 + 2, none⟩))).put (some 81) (.int .i64 (dxn : Int))).put (some 82) (.pointer (some ⟨gi, 4, none⟩))).put (some 83) (.slice (some ⟨bc, oc, none⟩) n c)).put (some 84) (.int .i64 (cN : Int))).put (some 85) (.pointer (some ⟨bc, oc + cN * 5, none⟩))).put (some 86) (.pointer (some ⟨bc, oc + cN * 5 + 3, none⟩))).put (some 87) (.int .i64 (dyn : Int))).put (some 88) (.agg #[.int .i64 (Q0 : Int), .int .i64 (Q1 : Int), .int .i64 (Q2 : Int), .int .i64 (Q3 : Int)])).put (some 89) (.bool false)) ∧ Below Vb.heap.size Vb W') ⟨img2, rq2, t0'', t1'', t2'', t3'', k2', k3'⟩ (fun hS => ?_) ?_
      · skip
        have hSB : ∀ U : World, Below (Vb.heap.size) Vb U → U.heap[gi]? = some (.cells #[.int .i64 (Xn : Int), .int .i64 (Yn : Int), .int .i64 (On : Int), .int .i64 (Pn : Int), .slice (some ⟨bc, oc, none⟩) n c] 25 (0, 0)) ∧ U.heap[gq]? = some (.cells #[.int .i64 (Q0 : Int), .int .i64 (Q1 : Int), .int .i64 (Q2 : Int), .int .i64 (Q3 : Int)] 53 (0, 0)) ∧ U.cell? ⟨bt, ot + iN * 4, none⟩ = some (.int .i64 (T0 : Int)) ∧ U.cell? ⟨bt, ot + iN * 4 + 1, none⟩ = some (.int .i64 (T1 : Int)) ∧ U.cell? ⟨bt, ot + iN * 4 + 2, none⟩ = some (.int .i64 (T2 : Int)) ∧ U.cell? ⟨bt, ot + iN * 4 + 3, none⟩ = some (.int .i64 (T3 : Int)) ∧ U.cell? ⟨bc, oc + cN * 5 + 2, none⟩ = some (.int .i64 (dxn : Int)) ∧ U.cell? ⟨bc, oc + cN * 5 + 3, none⟩ = some (.int .i64 (dyn : Int)) := fun U h => ⟨(h.block (gi) (by omega)).trans (img2), (h.block (gq) (by omega)).trans (rq2), (h.cell (p := ⟨bt, ot + iN * 4, none⟩) (by simp only; omega)).trans (t0''), (h.cell (p := ⟨bt, ot + iN * 4 + 1, none⟩) (by simp only; omega)).trans (t1''), (h.cell (p := ⟨bt, ot + iN * 4 + 2, none⟩) (by simp only; omega)).trans (t2''), (h.cell (p := ⟨bt, ot + iN * 4 + 3, none⟩) (by simp only; omega)).trans (t3''), (h.cell (p := ⟨bc, oc + cN * 5 + 2, none⟩) (by simp only; omega)).trans (k2'), (h.cell (p := ⟨bc, oc + cN * 5 + 3, none⟩) (by simp only; omega)).trans (k3')⟩
        have bV : Below Vb.heap.size Vb Vb.drew := (Below.refl _ _).drew
        generalize Vb.drew = V0 at *
        change wpAnyL _ _ _ _ _ 19 #[false, false, false, false, false, false, false, false, false, false, false, false, false, false, false, false, false, false, false] _ _
        refine wpAnyL_take (i := 0) (v := .agg #[.int .i64 (Q0 : Int), .int .i64 (Q1 : Int), .int .i64 (Q2 : Int), .int .i64 (Q3 : Int)]) (by simp only [List.getElem?_toArray, List.getElem?_cons_succ, List.getElem?_cons_zero]; rfl) (by as_aux_lemma => kernel_rfl) (by as_aux_lemma => kernel_rfl) (by as_aux_lemma => kernel_rfl) (fun _ _ _ h => h) (Or.inl ⟨by rfl, ?_⟩) hS ?_
        · intro U hU
          obtain ⟨s0, s1, s2, s3, s4, s5, s6, s7⟩ := hU
          exact exec_loadRow (cs := [.int .i64 (Q0 : Int), .int .i64 (Q1 : Int), .int .i64 (Q2 : Int), .int .i64 (Q3 : Int)]) rfl rfl s1 (by kernel_rfl) (by kernel_rfl)
        simp only [Act.put, List.setIfInBounds_toArray, List.set_cons_zero, List.set_cons_succ]
        refine wpAnyL_take (i := 1) (v := .slice (some ⟨bt, ot, none⟩) NT cT) (by simp only [List.getElem?_toArray, List.getElem?_cons_succ, List.getElem?_cons_zero]; rfl) (by as_aux_lemma => kernel_rfl) (by as_aux_lemma => kernel_rfl) (by as_aux_lemma => kernel_rfl) (fun _ _ _ h => h) (Or.inl ⟨by rfl, ?_⟩) hS ?_
        · intro U hU
          obtain ⟨s0, s1, s2, s3, s4, s5, s6, s7⟩ := hU
          kernel_rfl
        simp only [Act.put, List.setIfInBounds_toArray, List.set_cons_zero, List.set_cons_succ]
        refine wpAnyL_take (i := 2) (v := .int .i64 (iN : Int)) (by simp only [List.getElem?_toArray, List.getElem?_cons_succ, List.getElem?_cons_zero]; rfl) (by as_aux_lemma => kernel_rfl) (by as_aux_lemma => kernel_rfl) (by as_aux_lemma => kernel_rfl) (fun _ _ _ h => h) (Or.inl ⟨by rfl, ?_⟩) hS ?_
        · intro U hU
          obtain ⟨s0, s1, s2, s3, s4, s5, s6, s7⟩ := hU
          kernel_rfl
        simp only [Act.put, List.setIfInBounds_toArray, List.set_cons_zero, List.set_cons_succ]
        refine wpAnyL_take (i := 3) (v := .pointer (some ⟨bt, ot + iN * 4, none⟩)) (by simp only [List.getElem?_toArray, List.getElem?_cons_succ, List.getElem?_cons_zero]; rfl) (by as_aux_lemma => kernel_rfl) (by as_aux_lemma => kernel_rfl) (by as_aux_lemma => kernel_rfl) (fun _ _ _ h => h) (Or.inl ⟨by rfl, ?_⟩) hS ?_
        · intro U hU
          obtain ⟨s0, s1, s2, s3, s4, s5, s6, s7⟩ := hU
          go_simp
        simp only [Act.put, List.setIfInBounds_toArray, List.set_cons_zero, List.set_cons_succ]
        refine wpAnyL_take (i := 4) (v := .agg #[.int .i64 (T0 : Int), .int .i64 (T1 : Int), .int .i64 (T2 : Int), .int .i64 (T3 : Int)]) (by simp only [List.getElem?_toArray, List.getElem?_cons_succ, List.getElem?_cons_zero]; rfl) (by as_aux_lemma => kernel_rfl) (by as_aux_lemma => kernel_rfl) (by as_aux_lemma => kernel_rfl) (fun _ _ _ h => h) (Or.inl ⟨by rfl, ?_⟩) hS ?_
        · intro U hU
          obtain ⟨s0, s1, s2, s3, s4, s5, s6, s7⟩ := hU
          go_simp
        simp only [Act.put, List.setIfInBounds_toArray, List.set_cons_zero, List.set_cons_succ]
        refine wpAnyL_take (i := 5) (v := .pointer (some ⟨gi, 4, none⟩)) (by simp only [List.getElem?_toArray, List.getElem?_cons_succ, List.getElem?_cons_zero]; rfl) (by as_aux_lemma => kernel_rfl) (by as_aux_lemma => kernel_rfl) (by as_aux_lemma => kernel_rfl) (fun _ _ _ h => h) (Or.inl ⟨by rfl, ?_⟩) hS ?_
        · intro U hU
          obtain ⟨s0, s1, s2, s3, s4, s5, s6, s7⟩ := hU
          kernel_rfl
        simp only [Act.put, List.setIfInBounds_toArray, List.set_cons_zero, List.set_cons_succ]
        refine wpAnyL_take (i := 6) (v := .slice (some ⟨bc, oc, none⟩) n c) (by simp only [List.getElem?_toArray, List.getElem?_cons_succ, List.getElem?_cons_zero]; rfl) (by as_aux_lemma => kernel_rfl) (by as_aux_lemma => kernel_rfl) (by as_aux_lemma => kernel_rfl) (fun _ _ _ h => h) (Or.inl ⟨by rfl, ?_⟩) hS ?_
        · intro U hU
          obtain ⟨s0, s1, s2, s3, s4, s5, s6, s7⟩ := hU
          have r0_4 : U.cell? ⟨gi, 4, none⟩ = some (.slice (some ⟨bc, oc, none⟩) n c) := cell_of_row _ _ 4 _ _ (0, 0) s0
          exact exec_loadCell rfl rfl r0_4 (by kernel_rfl)
        simp only [Act.put, List.setIfInBounds_toArray, List.set_cons_zero, List.set_cons_succ]
        refine wpAnyL_take (i := 7) (v := .int .i64 (cN : Int)) (by simp only [List.getElem?_toArray, List.getElem?_cons_succ, List.getElem?_cons_zero]; rfl) (by as_aux_lemma => kernel_rfl) (by as_aux_lemma => kernel_rfl) (by as_aux_lemma => kernel_rfl) (fun _ _ _ h => h) (Or.inl ⟨by rfl, ?_⟩) hS ?_
        · intro U hU
          obtain ⟨s0, s1, s2, s3, s4, s5, s6, s7⟩ := hU
          kernel_rfl
        simp only [Act.put, List.setIfInBounds_toArray, List.set_cons_zero, List.set_cons_succ]
        refine wpAnyL_take (i := 8) (v := .pointer (some ⟨bc, oc + cN * 5, none⟩)) (by simp only [List.getElem?_toArray, List.getElem?_cons_succ, List.getElem?_cons_zero]; rfl) (by as_aux_lemma => kernel_rfl) (by as_aux_lemma => kernel_rfl) (by as_aux_lemma => kernel_rfl) (fun _ _ _ h => h) (Or.inl ⟨by rfl, ?_⟩) hS ?_
        · intro U hU
          obtain ⟨s0, s1, s2, s3, s4, s5, s6, s7⟩ := hU
          go_simp
        simp only [Act.put, List.setIfInBounds_toArray, List.set_cons_zero, List.set_cons_succ]
        refine wpAnyL_take (i := 9) (v := .pointer (some ⟨bc, oc + cN * 5 + 2, none⟩)) (by simp only [List.getElem?_toArray, List.getElem?_cons_succ, List.getElem?_cons_zero]; rfl) (by as_aux_lemma => kernel_rfl) (by as_aux_lemma => kernel_rfl) (by as_aux_lemma => kernel_rfl) (fun _ _ _ h => h) (Or.inl ⟨by rfl, ?_⟩) hS ?_
        · intro U hU
          obtain ⟨s0, s1, s2, s3, s4, s5, s6, s7⟩ := hU
          kernel_rfl
        simp only [Act.put, List.setIfInBounds_toArray, List.set_cons_zero, List.set_cons_succ]
        refine wpAnyL_take (i := 10) (v := .int .i64 (dxn : Int)) (by simp only [List.getElem?_toArray, List.getElem?_cons_succ, List.getElem?_cons_zero]; rfl) (by as_aux_lemma => kernel_rfl) (by as_aux_lemma => kernel_rfl) (by as_aux_lemma => kernel_rfl) (fun _ _ _ h => h) (Or.inl ⟨by rfl, ?_⟩) hS ?_
        · intro U hU
          obtain ⟨s0, s1, s2, s3, s4, s5, s6, s7⟩ := hU
          exact exec_loadCell rfl rfl s6 (by kernel_rfl)
        simp only [Act.put, List.setIfInBounds_toArray, List.set_cons_zero, List.set_cons_succ]
        refine wpAnyL_take (i := 11) (v := .pointer (some ⟨gi, 4, none⟩)) (by simp only [List.getElem?_toArray, List.getElem?_cons_succ, List.getElem?_cons_zero]; rfl) (by as_aux_lemma => kernel_rfl) (by as_aux_lemma => kernel_rfl) (by as_aux_lemma => kernel_rfl) (fun _ _ _ h => h) (Or.inl ⟨by rfl, ?_⟩) hS ?_
        · intro U hU
          obtain ⟨s0, s1, s2, s3, s4, s5, s6, s7⟩ := hU
          kernel_rfl
        simp only [Act.put, List.setIfInBounds_toArray, List.set_cons_zero, List.set_cons_succ]
        refine wpAnyL_take (i := 12) (v := .slice (some ⟨bc, oc, none⟩) n c) (by simp only [List.getElem?_toArray, List.getElem?_cons_succ, List.getElem?_cons_zero]; rfl) (by as_aux_lemma => kernel_rfl) (by as_aux_lemma => kernel_rfl) (by as_aux_lemma => kernel_rfl) (fun _ _ _ h => h) (Or.inl ⟨by rfl, ?_⟩) hS ?_
        · intro U hU
          obtain ⟨s0, s1, s2, s3, s4, s5, s6, s7⟩ := hU
          have r0_4 : U.cell? ⟨gi, 4, none⟩ = some (.slice (some ⟨bc, oc, none⟩) n c) := cell_of_row _ _ 4 _ _ (0, 0) s0
          exact exec_loadCell rfl rfl r0_4 (by kernel_rfl)
        simp only [Act.put, List.setIfInBounds_toArray, List.set_cons_zero, List.set_cons_succ]
        refine wpAnyL_take (i := 13) (v := .int .i64 (cN : Int)) (by simp only [List.getElem?_toArray, List.getElem?_cons_succ, List.getElem?_cons_zero]; rfl) (by as_aux_lemma => kernel_rfl) (by as_aux_lemma => kernel_rfl) (by as_aux_lemma => kernel_rfl) (fun _ _ _ h => h) (Or.inl ⟨by rfl, ?_⟩) hS ?_
        · intro U hU
          obtain ⟨s0, s1, s2, s3, s4, s5, s6, s7⟩ := hU
          kernel_rfl
        simp only [Act.put, List.setIfInBounds_toArray, List.set_cons_zero, List.set_cons_succ]
        refine wpAnyL_take (i := 14) (v := .pointer (some ⟨bc, oc + cN * 5, none⟩)) (by simp only [List.getElem?_toArray, List.getElem?_cons_succ, List.getElem?_cons_zero]; rfl) (by as_aux_lemma => kernel_rfl) (by as_aux_lemma => kernel_rfl) (by as_aux_lemma => kernel_rfl) (fun _ _ _ h => h) (Or.inl ⟨by rfl, ?_⟩) hS ?_
        · intro U hU
          obtain ⟨s0, s1, s2, s3, s4, s5, s6, s7⟩ := hU
          go_simp
        simp only [Act.put, List.setIfInBounds_toArray, List.set_cons_zero, List.set_cons_succ]
        refine wpAnyL_take (i := 15) (v := .pointer (some ⟨bc, oc + cN * 5 + 3, none⟩)) (by simp only [List.getElem?_toArray, List.getElem?_cons_succ, List.getElem?_cons_zero]; rfl) (by as_aux_lemma => kernel_rfl) (by as_aux_lemma => kernel_rfl) (by as_aux_lemma => kernel_rfl) (fun _ _ _ h => h) (Or.inl ⟨by rfl, ?_⟩) hS ?_
        · intro U hU
          obtain ⟨s0, s1, s2, s3, s4, s5, s6, s7⟩ := hU
          kernel_rfl
        simp only [Act.put, List.setIfInBounds_toArray, List.set_cons_zero, List.set_cons_succ]
        refine wpAnyL_take (i := 16) (v := .int .i64 (dyn : Int)) (by simp only [List.getElem?_toArray, List.getElem?_cons_succ, List.getElem?_cons_zero]; rfl) (by as_aux_lemma => kernel_rfl) (by as_aux_lemma => kernel_rfl) (by as_aux_lemma => kernel_rfl) (fun _ _ _ h => h) (Or.inl ⟨by rfl, ?_⟩) hS ?_
        · intro U hU
          obtain ⟨s0, s1, s2, s3, s4, s5, s6, s7⟩ := hU
          exact exec_loadCell rfl rfl s7 (by kernel_rfl)
        simp only [Act.put, List.setIfInBounds_toArray, List.set_cons_zero, List.set_cons_succ]
        refine wpAnyL_ready (rs := [17]) (by as_aux_lemma => kernel_rfl) (by simp) ?_
        refine AllReadyL.cons (by simp only [List.getElem?_toArray, List.getElem?_cons_succ, List.getElem?_cons_zero]; rfl) (fun K' hK' => ?_) AllReadyL.nil
        go_simp
        go_at_call 23
        refine (HPr.out _).mono ?_
        rintro e' U17 ⟨rfl, hb17⟩
        have b17 := below_trans bV hb17
        have hS := hSB _ b17
        dsimp only
        refine hK'.out _ _ hS (fun _ => ?_)
        clear hb17
        clear hK' K'
        try simp only [Act.put, List.setIfInBounds_toArray, List.set_cons_zero, List.set_cons_succ]
        refine wpAnyL_take (i := 18) (v := .bool false) (by simp only [List.getElem?_toArray, List.getElem?_cons_succ, List.getElem?_cons_zero]; rfl) (by as_aux_lemma => kernel_rfl) (by as_aux_lemma => kernel_rfl) (by as_aux_lemma => kernel_rfl) (fun _ _ _ h => h) (Or.inl ⟨by rfl, ?_⟩) hS ?_
        · intro U hU
          obtain ⟨s0, s1, s2, s3, s4, s5, s6, s7⟩ := hU
          go_simp
        simp only [Act.put, List.setIfInBounds_toArray, List.set_cons_zero, List.set_cons_succ]
        refine wpAnyL_done (by as_aux_lemma => kernel_rfl) ?_ _
        simp only [OnlyN]
        refine ⟨?_, b17⟩
        (try simp only [Act.put, List.setIfInBounds_toArray, List.set_cons_zero, List.set_cons_succ])
      rintro a' Vd ⟨rfl, hb3⟩
      simp only [Act.put, List.setIfInBounds_toArray, List.set_cons_zero, List.set_cons_succ]
      have par3 := (hb3.block gp lp2).trans par2
      have rq3 := (hb3.block gq lq2).trans rq2
      have b3 := b2.trans (hb3.mono (by omega))
      have sz3 := hb3.size
      clear t0'' t1'' t2'' t3'' k2' k3' img2 par2 rq2 hb3 b2 HPr
      go_wp2_with fail
      refine pl3 gp gq Q0 Q1 Q2 Q3 tx ty lv cw ch pr st od ly rct sop eph Vd hQb hlv hcw hch hpr HWAY.out par3 rq3 _ ?_
      intro u2 u9 u10 u11 u12 u13 u14 u15 u16 u17 u18 u19 u20 u21 u22 u23 u24 u90 u91 u92 u93 u94 u95 u96 u97 u98 u99 u100 u101 u102 u103 u104 u105 u106 u107 u108 u109 u110 u111 u112 u113 u114 u115 u116 u117 u118 u119 u120 u121 u122 u123 u124 u125 u126 u127 u128 u129 u130 u131 u132 u133 u134 u135 u136 u137 u138 u139 u140 u141 u142 u143 u144 u145 u146 u147 u148 u149 u150 u151 u152 u153 u154 u155 u156 u157 u158 u159 u160 u161 u162 u163 u164 u165 u166 u167 u168 u169 u170 u171 u172 u173 u174 u175 u176 u177 u178 u179 u180 u181 u182 u183 u184 u185 u186 u187 u188 u189 u190 u191 u192 u193 u194 u195 u196 u197 u198 u199 u200 u201 u202 u203 u204 u205 u206 u207 u208 u209 wz hbi
      have hbz := b3.trans (hbi.mono (by omega))
      clear par3 rq3 hbi b3
      go_wp2_with fail
      go_roundw
      case rel => exact ⟨cN + 1, by omega, by go_num, hbz⟩
      case measure => simp [intOf]; omega
    · obtain rfl : cN = n := by omega
      go_wp2_with fail
      first
        | exact hbe
        | (apply hexit; exact hbe)
end Go.Proofs.Ytmieoifagnpbiaa
