/- LOOP 3 of waveletlaw12.CanvasPlaces: over the resolutions of a part. -/
import Derived.Test.YtmieoifagnpbiaaPl4
import Derived.Deep.CutBlock
import Derived.Deep.LoopGhost
namespace Go.Proofs.Ytmieoifagnpbiaa
open Go.RowKit
attribute [local go_sem] opv opnd
set_option maxHeartbeats 40000000
set_option linter.unusedVariables false
set_option linter.unusedSimpArgs false
set_option maxRecDepth 1000000

theorem pl3 {c0 c1 c2 c3 c5 c6 c7 c10 c11 c12 c13 c14 c15 c16 c17 c18 c19 c20 c21 c22 c23 c24 c25 c26 c27 c28 c29 c30 c31 c32 c33 c34 c35 c36 c37 c38 c39 c40 c41 c42 c43 c44 c45 c46 c47 c48 c49 c50 c51 c52 c53 c54 c55 c56 c57 c58 c59 c60 c61 c62 c63 c64 c65 c66 c67 c68 c69 c70 c71 c72 c73 c74 c75 c76 c77 c78 c79 c80 c81 c82 c83 c84 c85 c86 c87 c88 c89 c90 c91 c92 c93 c94 c95 c96 c97 c98 c99 c100 c101 c102 c103 c104 c105 c106 c107 c108 c109 c110 c111 c112 c113 c114 c115 c116 c117 c118 c119 c120 c121 c122 c123 c124 c125 c126 c127 c128 c129 c130 c131 c132 c133 c134 c135 c136 c137 c138 c139 c140 c141 c142 c143 c144 c145 c146 c147 c148 c149 c150 c151 c152 c153 c154 c155 c156 c157 c158 c159 c160 c161 c162 c163 c164 c165 c166 c167 c168 c169 c170 c171 c172 c173 c174 c175 c176 c177 c178 c179 c180 c181 c182 c183 c184 c185 c186 c187 c188 c189 c190 c191 c192 c193 c194 c195 c196 c197 c198 c199 c200 c201 c202 c203 c204 c205 c206 c207 c208 c209 : Value} (gp gq : Nat) (Q0 Q1 Q2 Q3 : Nat) (tx ty lv cw ch pr st od ly : Nat) (rct sop eph : Bool) (w : World) (hQ : Q0 ≤ 64 ∧ Q1 ≤ 64 ∧ Q2 ≤ 64 ∧ Q3 ≤ 64) (hlv : lv ≤ 18) (hcw : cw ≤ 6) (hch : ch ≤ 6) (hpr : 1 ≤ pr ∧ pr ≤ 15) (hway : waysB lv cw ch pr st od ly = true) (par : w.heap[gp]? = some (.cells #[.int .i64 (tx : Int), .int .i64 (ty : Int), .int .i64 (lv : Int), .int .i64 (cw : Int), .int .i64 (ch : Int), .int .i64 (pr : Int), .int .i64 (st : Int), .int .i64 (od : Int), .int .i64 (ly : Int), .bool rct, .bool sop, .bool eph] 27 (0, 0))) (rq : w.heap[gq]? = some (.cells #[.int .i64 (Q0 : Int), .int .i64 (Q1 : Int), .int .i64 (Q2 : Int), .int .i64 (Q3 : Int)] 53 (0, 0))) (QQ : Exit → Act → World → Prop) (hexit : ∀ (u2 u9 u10 u11 u12 u13 u14 u15 u16 u17 u18 u19 u20 u21 u22 u23 u24 u90 u91 u92 u93 u94 u95 u96 u97 u98 u99 u100 u101 u102 u103 u104 u105 u106 u107 u108 u109 u110 u111 u112 u113 u114 u115 u116 u117 u118 u119 u120 u121 u122 u123 u124 u125 u126 u127 u128 u129 u130 u131 u132 u133 u134 u135 u136 u137 u138 u139 u140 u141 u142 u143 u144 u145 u146 u147 u148 u149 u150 u151 u152 u153 u154 u155 u156 u157 u158 u159 u160 u161 u162 u163 u164 u165 u166 u167 u168 u169 u170 u171 u172 u173 u174 u175 u176 u177 u178 u179 u180 u181 u182 u183 u184 u185 u186 u187 u188 u189 u190 u191 u192 u193 u194 u195 u196 u197 u198 u199 u200 u201 u202 u203 u204 u205 u206 u207 u208 u209 : Value) (w' : World), Below w.heap.size w w' → QQ (.exit 4) ⟨List.toArray (c0 :: c1 :: u2 :: c3 :: Value.pointer (some ⟨gp, 0, none⟩) :: c5 :: c6 :: c7 :: Value.pointer (some ⟨gq, 0, none⟩) :: u9 :: u10 :: u11 :: u12 :: u13 :: u14 :: u15 :: u16 :: u17 :: u18 :: u19 :: u20 :: u21 :: u22 :: u23 :: u24 :: c25 :: c26 :: c27 :: c28 :: c29 :: c30 :: c31 :: c32 :: c33 :: c34 :: c35 :: c36 :: c37 :: c38 :: c39 :: c40 :: c41 :: c42 :: c43 :: c44 :: c45 :: c46 :: c47 :: c48 :: c49 :: c50 :: c51 :: c52 :: c53 :: c54 :: c55 :: c56 :: c57 :: c58 :: c59 :: c60 :: c61 :: c62 :: c63 :: c64 :: c65 :: c66 :: c67 :: c68 :: c69 :: c70 :: c71 :: c72 :: c73 :: c74 :: c75 :: c76 :: c77 :: c78 :: c79 :: c80 :: c81 :: c82 :: c83 :: c84 :: c85 :: c86 :: c87 :: c88 :: c89 :: u90 :: u91 :: u92 :: u93 :: u94 :: u95 :: u96 :: u97 :: u98 :: u99 :: u100 :: u101 :: u102 :: u103 :: u104 :: u105 :: u106 :: u107 :: u108 :: u109 :: u110 :: u111 :: u112 :: u113 :: u114 :: u115 :: u116 :: u117 :: u118 :: u119 :: u120 :: u121 :: u122 :: u123 :: u124 :: u125 :: u126 :: u127 :: u128 :: u129 :: u130 :: u131 :: u132 :: u133 :: u134 :: u135 :: u136 :: u137 :: u138 :: u139 :: u140 :: u141 :: u142 :: u143 :: u144 :: u145 :: u146 :: u147 :: u148 :: u149 :: u150 :: u151 :: u152 :: u153 :: u154 :: u155 :: u156 :: u157 :: u158 :: u159 :: u160 :: u161 :: u162 :: u163 :: u164 :: u165 :: u166 :: u167 :: u168 :: u169 :: u170 :: u171 :: u172 :: u173 :: u174 :: u175 :: u176 :: u177 :: u178 :: u179 :: u180 :: u181 :: u182 :: u183 :: u184 :: u185 :: u186 :: u187 :: u188 :: u189 :: u190 :: u191 :: u192 :: u193 :: u194 :: u195 :: u196 :: u197 :: u198 :: u199 :: u200 :: u201 :: u202 :: u203 :: u204 :: u205 :: u206 :: u207 :: u208 :: u209 :: []), []⟩ w') :
    Code.wp Try.prog (Code.loop plC3) QQ ⟨List.toArray (c0 :: c1 :: c2 :: c3 :: Value.pointer (some ⟨gp, 0, none⟩) :: c5 :: c6 :: c7 :: Value.pointer (some ⟨gq, 0, none⟩) :: Value.int .i64 0 :: c10 :: c11 :: c12 :: c13 :: c14 :: c15 :: c16 :: c17 :: c18 :: c19 :: c20 :: c21 :: c22 :: c23 :: c24 :: c25 :: c26 :: c27 :: c28 :: c29 :: c30 :: c31 :: c32 :: c33 :: c34 :: c35 :: c36 :: c37 :: c38 :: c39 :: c40 :: c41 :: c42 :: c43 :: c44 :: c45 :: c46 :: c47 :: c48 :: c49 :: c50 :: c51 :: c52 :: c53 :: c54 :: c55 :: c56 :: c57 :: c58 :: c59 :: c60 :: c61 :: c62 :: c63 :: c64 :: c65 :: c66 :: c67 :: c68 :: c69 :: c70 :: c71 :: c72 :: c73 :: c74 :: c75 :: c76 :: c77 :: c78 :: c79 :: c80 :: c81 :: c82 :: c83 :: c84 :: c85 :: c86 :: c87 :: c88 :: c89 :: c90 :: c91 :: c92 :: c93 :: c94 :: c95 :: c96 :: c97 :: c98 :: c99 :: c100 :: c101 :: c102 :: c103 :: c104 :: c105 :: c106 :: c107 :: c108 :: c109 :: c110 :: c111 :: c112 :: c113 :: c114 :: c115 :: c116 :: c117 :: c118 :: c119 :: c120 :: c121 :: c122 :: c123 :: c124 :: c125 :: c126 :: c127 :: c128 :: c129 :: c130 :: c131 :: c132 :: c133 :: c134 :: c135 :: c136 :: c137 :: c138 :: c139 :: c140 :: c141 :: c142 :: c143 :: c144 :: c145 :: c146 :: c147 :: c148 :: c149 :: c150 :: c151 :: c152 :: c153 :: c154 :: c155 :: c156 :: c157 :: c158 :: c159 :: c160 :: c161 :: c162 :: c163 :: c164 :: c165 :: c166 :: c167 :: c168 :: c169 :: c170 :: c171 :: c172 :: c173 :: c174 :: c175 :: c176 :: c177 :: c178 :: c179 :: c180 :: c181 :: c182 :: c183 :: c184 :: c185 :: c186 :: c187 :: c188 :: c189 :: c190 :: c191 :: c192 :: c193 :: c194 :: c195 :: c196 :: c197 :: c198 :: c199 :: c200 :: c201 :: c202 :: c203 :: c204 :: c205 :: c206 :: c207 :: c208 :: c209 :: []), []⟩ w := by
  have HWAY := Lib.hid hway
  have lp : gp < w.heap.size := (Array.getElem?_eq_some_iff.1 par).1
  have lq : gq < w.heap.size := (Array.getElem?_eq_some_iff.1 rq).1
  clear hway
  conv => arg 2; arg 1; whnf
  go_loopw [9] (fun v wr => ∃ rn : Nat, rn ≤ lv + 1 ∧ v = .int .i64 (rn : Int) ∧ Below w.heap.size w wr) (fun v _ => lv + 1 - (intOf v).toNat)
  case atStart => exact ⟨0, Nat.zero_le _, rfl, Below.refl _ _⟩
  case round =>
    obtain ⟨rn, hrn, rfl, hbe⟩ := hrel
    obtain ⟨wa, hwa⟩ : ∃ wa, wa = wr := ⟨_, rfl⟩
    subst hwa
    have hle := hbe.size
    have par1 := (hbe.block gp lp).trans par
    have p_2 : wa.cell? ⟨gp, 2, none⟩ = some (.int .i64 (lv : Int)) := cell_of_row _ _ 2 _ _ (0, 0) par1
    by_cases hlt : rn ≤ lv
    · have rq1 := (hbe.block gq lq).trans rq
      have lp1 : gp < wa.heap.size := Nat.lt_of_lt_of_le lp hle
      have lq1 : gq < wa.heap.size := Nat.lt_of_lt_of_le lq hle
      have hCb : okR ⟨(Q0 : Int), (Q1 : Int), (Q2 : Int), (Q3 : Int)⟩ := by unfold okR; simp only; omega
      have hRes := fun v => resolution_any ⟨(Q0 : Int), (Q1 : Int), (Q2 : Int), (Q3 : Int)⟩ lv rn (lv - rn) (by omega) (by omega) (by omega) hCb v
      have hRsR := fun v => resolutionR_any ⟨(Q0 : Int), (Q1 : Int), (Q2 : Int), (Q3 : Int)⟩ lv rn (lv - rn) (by omega) (by omega) (by omega) hCb v
      have hBnd := fun v => bands_any ⟨(Q0 : Int), (Q1 : Int), (Q2 : Int), (Q3 : Int)⟩ lv rn (by omega) (by omega) hCb v
      have hBnR := fun v => bandsR_any ⟨(Q0 : Int), (Q1 : Int), (Q2 : Int), (Q3 : Int)⟩ lv rn (by omega) (by omega) hCb v
      obtain ⟨Z, hZ⟩ : ∃ Z, resR ⟨(Q0 : Int), (Q1 : Int), (Q2 : Int), (Q3 : Int)⟩ (lv - rn) = Z := ⟨_, rfl⟩
      have hZb := res_bd (Q0 := Q0) (Q1 := Q1) (Q2 := Q2) (Q3 := Q3) (k := lv - rn) hQ (by omega)
      have hZm := res_mid (Q0 := Q0) (Q1 := Q1) (Q2 := Q2) (Q3 := Q3) (k := lv - rn) hQ (by omega)
      rw [hZ] at hRes hRsR hZb hZm
      have hBb := fun j => band_bd (Q0 := Q0) (Q1 := Q1) (Q2 := Q2) (Q3 := Q3) (lv := lv) (r := rn) j hQ (by omega) (by omega)
      have hBm := fun j => band_mid (Q0 := Q0) (Q1 := Q1) (Q2 := Q2) (Q3 := Q3) (lv := lv) (r := rn) j hQ (by omega) (by omega)
      obtain ⟨BN, hBN⟩ : ∃ z, bandN rn = z := ⟨_, rfl⟩
      have hBN3 : 1 ≤ BN ∧ BN ≤ 3 := by rw [← hBN]; unfold bandN; split <;> omega
      obtain ⟨fb, hfb⟩ : ∃ B, bandA ⟨(Q0 : Int), (Q1 : Int), (Q2 : Int), (Q3 : Int)⟩ lv rn = B := ⟨_, rfl⟩
      rw [hBN, hfb] at hBnd hBnR
      rw [hfb] at hBb hBm
      have hPre := fun v => precincts_any Z pr (by omega) hZb.1 v
      have hPrR := fun v => precinctsR_any Z pr (by omega) hZb.1 hZb.2 hZm v
      have hpb := pre_bd (show pr ≤ 40 by omega) hZb.1 hZb.2
      obtain ⟨PW, hPW⟩ := Int.eq_ofNat_of_zero_le hpb.1
      obtain ⟨PH, hPH⟩ := Int.eq_ofNat_of_zero_le hpb.2.2.1
      have hpW : PW ≤ 1048576 ∧ PH ≤ 1048576 := by omega
      rw [hPW, hPH] at hPre hPrR
      have hB1 := fun (kn en : Nat) (v : World) (hk : kn < 40) (he : en < BN) => blocks_any (fb en) Z tx ty lv cw ch pr st od ly rct sop eph rn kn HWAY.out (hBb en).1 (hBb en).2 hZb.1 hZb.2 (by omega) (by omega) v _ rfl
      have hB2 := fun (kn en : Nat) (v : World) (hk : kn < 40) (he : en < BN) => blocksR_any (fb en) Z tx ty lv cw ch pr st od ly rct sop eph rn kn hcw hch hpr (hBb en).2 (hBm en) hZb.1 hZb.2 hZm (by omega) (by omega) v _ rfl
      have hNB : ∀ k e, e < BN → blksN (partR (fb e) Z pr (blkS rn pr) k) (min cw (blkS rn pr)) (min ch (blkS rn pr)) ≤ 1152921504606846976 := fun k e he => Nat.le_trans (blksN_le (hBb e).2 (by omega) (by omega)) (by decide)
      obtain ⟨Z0, Z1, Z2, Z3⟩ := Z
      unfold rcV at hRes hRsR hBnd hBnR hPre hPrR
      simp only at hRes hRsR hBnd hBnR hPre hPrR
      have HRes := Lib.hid hRes
      have HRsR := Lib.hid hRsR
      have HBnd := Lib.hid hBnd
      have HBnR := Lib.hid hBnR
      have HPre := Lib.hid hPre
      have HPrR := Lib.hid hPrR
      have HB1 := Lib.hid hB1
      have HB2 := Lib.hid hB2
      have HNB := Lib.hid hNB
      clear hRes hRsR hBnd hBnR hPre hPrR hB1 hB2 hNB hZ hBN hfb hPW hPH hpb hBb hBm hZb hZm hCb
      have q_0 : wa.cell? ⟨gq, 0, none⟩ = some (.int .i64 (Q0 : Int)) := cell_of_row _ _ 0 _ _ (0, 0) rq1
      have q_1 : wa.cell? ⟨gq, 1, none⟩ = some (.int .i64 (Q1 : Int)) := cell_of_row _ _ 1 _ _ (0, 0) rq1
      have q_2 : wa.cell? ⟨gq, 2, none⟩ = some (.int .i64 (Q2 : Int)) := cell_of_row _ _ 2 _ _ (0, 0) rq1
      have q_3 : wa.cell? ⟨gq, 3, none⟩ = some (.int .i64 (Q3 : Int)) := cell_of_row _ _ 3 _ _ (0, 0) rq1
      go_wp2_with fail
      refine (HRes.out _).mono ?_
      rintro e' V1 ⟨rfl, h1⟩
      have par2 := (h1.block gp lp1).trans par1
      have rq2 := (h1.block gq lq1).trans rq1
      have b1 := hbe.trans (h1.mono hle)
      clear q_0 q_1 q_2 q_3 p_2 par1 rq1 h1
      have sz1 := b1.size
      go_upto_region 20 with fail
      obtain ⟨gz, hgz⟩ : ∃ g, V1.heap.size = g := ⟨_, rfl⟩
      generalize hV2 : World.alloc V1 _ = V2
      have rz2 : V2.heap[gz]? = some (.cells #[.int .i64 Z0, .int .i64 Z1, .int .i64 Z2, .int .i64 Z3] 53 (0, 0)) := by rw [← hV2, ← hgz]; exact heap_alloc_new V1 _
      have h2 : Below gz V1 V2 := by rw [← hV2, ← hgz]; exact below_alloc (Below.refl _ _) _
      have sz2 : V2.heap.size = gz + 1 := by rw [← hV2, ← hgz]; simp
      rw [hgz] at sz1 ⊢
      clear hV2
      replace par2 := (h2.block gp (by omega)).trans par2
      replace rq2 := (h2.block gq (by omega)).trans rq2
      have b2 := b1.trans (h2.mono (by omega))
      clear h2 b1
      have q_0 : V2.cell? ⟨gq, 0, none⟩ = some (.int .i64 (Q0 : Int)) := cell_of_row _ _ 0 _ _ (0, 0) rq2
      have q_1 : V2.cell? ⟨gq, 1, none⟩ = some (.int .i64 (Q1 : Int)) := cell_of_row _ _ 1 _ _ (0, 0) rq2
      have q_2 : V2.cell? ⟨gq, 2, none⟩ = some (.int .i64 (Q2 : Int)) := cell_of_row _ _ 2 _ _ (0, 0) rq2
      have q_3 : V2.cell? ⟨gq, 3, none⟩ = some (.int .i64 (Q3 : Int)) := cell_of_row _ _ 3 _ _ (0, 0) rq2
      have p_2 : V2.cell? ⟨gp, 2, none⟩ = some (.int .i64 (lv : Int)) := cell_of_row _ _ 2 _ _ (0, 0) par2
      go_wp2_with fail
      refine (HBnd.out _).mono ?_
      rintro e' V3 ⟨KA, cK, XA, cX, rfl, oK, oX, h3⟩
      have par3 := (h3.block gp (by omega)).trans par2
      have rq3 := (h3.block gq (by omega)).trans rq2
      have rz3 := (h3.block gz (by omega)).trans rz2
      have b3 := b2.trans (h3.mono (by omega))
      have sz3 := h3.size
      obtain ⟨bx, ox, eX, hbx, _⟩ := oX.at_.at_ (k := 0) (by omega)
      subst eX
      have HK := Lib.hid oK.ints
      have HX := Lib.hid oX.at_
      clear q_0 q_1 q_2 q_3 p_2 par2 rq2 rz2 h3 b2 oK oX
      have q_0 : V3.cell? ⟨gq, 0, none⟩ = some (.int .i64 (Q0 : Int)) := cell_of_row _ _ 0 _ _ (0, 0) rq3
      have q_1 : V3.cell? ⟨gq, 1, none⟩ = some (.int .i64 (Q1 : Int)) := cell_of_row _ _ 1 _ _ (0, 0) rq3
      have q_2 : V3.cell? ⟨gq, 2, none⟩ = some (.int .i64 (Q2 : Int)) := cell_of_row _ _ 2 _ _ (0, 0) rq3
      have q_3 : V3.cell? ⟨gq, 3, none⟩ = some (.int .i64 (Q3 : Int)) := cell_of_row _ _ 3 _ _ (0, 0) rq3
      have p_2 : V3.cell? ⟨gp, 2, none⟩ = some (.int .i64 (lv : Int)) := cell_of_row _ _ 2 _ _ (0, 0) par3
      go_wp2_with fail
      refine (HBnR.out _).mono ?_
      rintro e' V4 ⟨JA, cJ, YA, cY, rfl, oJ, oY, h4⟩
      have par4 := (h4.block gp (by omega)).trans par3
      have rq4 := (h4.block gq (by omega)).trans rq3
      have rz4 := (h4.block gz (by omega)).trans rz3
      have b4 := b3.trans (h4.mono (by omega))
      have sz4 := h4.size
      have HK4 := Lib.hid (HK.out.below h4)
      have HX4 := Lib.hid (HX.out.below h4)
      have HJ := Lib.hid oJ.ints
      have HY := Lib.hid oY.at_
      clear q_0 q_1 q_2 q_3 p_2 par3 rq3 rz3 h4 b3 oJ oY HK HX
      have z_0 : V4.cell? ⟨gz, 0, none⟩ = some (.int .i64 Z0) := cell_of_row _ _ 0 _ _ (0, 0) rz4
      have z_1 : V4.cell? ⟨gz, 1, none⟩ = some (.int .i64 Z1) := cell_of_row _ _ 1 _ _ (0, 0) rz4
      have z_2 : V4.cell? ⟨gz, 2, none⟩ = some (.int .i64 Z2) := cell_of_row _ _ 2 _ _ (0, 0) rz4
      have z_3 : V4.cell? ⟨gz, 3, none⟩ = some (.int .i64 Z3) := cell_of_row _ _ 3 _ _ (0, 0) rz4
      have p_5 : V4.cell? ⟨gp, 5, none⟩ = some (.int .i64 (pr : Int)) := cell_of_row _ _ 5 _ _ (0, 0) par4
      go_wp2_with fail
      refine (HPre.out _).mono ?_
      rintro e' V5 ⟨rfl, h5⟩
      have par5 := (h5.block gp (by omega)).trans par4
      have rq5 := (h5.block gq (by omega)).trans rq4
      have rz5 := (h5.block gz (by omega)).trans rz4
      have b5 := b4.trans (h5.mono (by omega))
      have sz5 := h5.size
      have HK5 := Lib.hid ((HK4.out.more sz4).below h5)
      have HX5 := Lib.hid ((HX4.out.more sz4).below h5)
      have HJ5 := Lib.hid (HJ.out.below h5)
      have HY5 := Lib.hid (HY.out.below h5)
      clear z_0 z_1 z_2 z_3 p_5 par4 rq4 rz4 h5 b4 HK4 HX4 HJ HY
      have z_0 : V5.cell? ⟨gz, 0, none⟩ = some (.int .i64 Z0) := cell_of_row _ _ 0 _ _ (0, 0) rz5
      have z_1 : V5.cell? ⟨gz, 1, none⟩ = some (.int .i64 Z1) := cell_of_row _ _ 1 _ _ (0, 0) rz5
      have z_2 : V5.cell? ⟨gz, 2, none⟩ = some (.int .i64 Z2) := cell_of_row _ _ 2 _ _ (0, 0) rz5
      have z_3 : V5.cell? ⟨gz, 3, none⟩ = some (.int .i64 Z3) := cell_of_row _ _ 3 _ _ (0, 0) rz5
      have p_5 : V5.cell? ⟨gp, 5, none⟩ = some (.int .i64 (pr : Int)) := cell_of_row _ _ 5 _ _ (0, 0) par5
      go_wp2_with fail
      refine (HPrR.out _).mono ?_
      rintro e' V6 ⟨rfl, h6⟩
      have par6 := (h6.block gp (by omega)).trans par5
      have rq6 := (h6.block gq (by omega)).trans rq5
      have rz6 := (h6.block gz (by omega)).trans rz5
      have b6 := b5.trans (h6.mono (by omega))
      have sz6 := h6.size
      have HK6 := Lib.hid ((HK5.out.more sz5).below h6)
      have HX6 := Lib.hid ((HX5.out.more sz5).below h6)
      have HJ6 := Lib.hid ((HJ5.out.more sz5).below h6)
      have HY6 := Lib.hid ((HY5.out.more sz5).below h6)
      clear z_0 z_1 z_2 z_3 p_5 par5 rq5 rz5 h6 b5 HK5 HX5 HJ5 HY5
      have lp6 : gp < V6.heap.size := by omega
      have lq6 : gq < V6.heap.size := by omega
      have lz6 : gz < V6.heap.size := by omega
      go_upto_region 24 with fail
      refine last_cut (by kernel_rfl) (fun U => U.heap[gp]? = some (.cells #[.int .i64 (tx : Int), .int .i64 (ty : Int), .int .i64 (lv : Int), .int .i64 (cw : Int), .int .i64 (ch : Int), .int .i64 (pr : Int), .int .i64 (st : Int), .int .i64 (od : Int), .int .i64 (ly : Int), .bool rct, .bool sop, .bool eph] 27 (0, 0)) ∧ U.heap[gq]? = some (.cells #[.int .i64 (Q0 : Int), .int .i64 (Q1 : Int), .int .i64 (Q2 : Int), .int .i64 (Q3 : Int)] 53 (0, 0)) ∧ U.heap[gz]? = some (.cells #[.int .i64 Z0, .int .i64 Z1, .int .i64 Z2, .int .i64 Z3] 53 (0, 0))) (fun aF a' W' => a' = (((((((((((((((((((((((((((((aF.put (some 131) (.agg #[.int .i64 Z0, .int .i64 Z1, .int .i64 Z2, .int .i64 Z3])).put (some 132) (.agg #[.int .i64 (Q0 : Int), .int .i64 (Q1 : Int), .int .i64 (Q2 : Int), .int .i64 (Q3 : Int)])).put (some 133) (.pointer (some ⟨gp, 2, none⟩))).put (some 134) (.int .i64 (lv : Int))).put (some 135) (.int .i64 (rn : Int))).put (some 136) (.agg #[.int .i64 Z0, .int .i64 Z1, .int .i64 Z2, .int .i64 Z3])).put (some 137) (.bool false)).put (some 138) (.bool false)).put (some 139) (.slice KA BN cK)).put (some 140) (.slice JA BN cJ)).put (some 141) (.bool true)).put (some 142) (.bool false)).put (some 143) (.bool false)).put (some 144) (.bool false)).put (some 145) (.slice (some ⟨bx, ox, none⟩) BN cX)).put (some 146) (.slice YA BN cY)).put (some 147) (.bool true)).put (some 148) (.bool false)).put (some 149) (.bool false)).put (some 150) (.bool false)).put (some 151) (.int .i64 (PW : Int))).put (some 152) (.int .i64 (PW : Int))).put (some 153) (.bool false)).put (some 154) (.bool false)).put (some 155) (.bool false)).put (some 156) (.int .i64 (PH : Int))).put (some 157) (.int .i64 (PH : Int))).put (some 158) (.bool false)).put (some 159) (.bool false)) ∧ Below V6.heap.size V6 W') ⟨par6, rq6, rz6⟩ (fun hS => ?_) ?_
      · skip
        have hSB : ∀ U : World, Below (V6.heap.size) V6 U → U.heap[gp]? = some (.cells #[.int .i64 (tx : Int), .int .i64 (ty : Int), .int .i64 (lv : Int), .int .i64 (cw : Int), .int .i64 (ch : Int), .int .i64 (pr : Int), .int .i64 (st : Int), .int .i64 (od : Int), .int .i64 (ly : Int), .bool rct, .bool sop, .bool eph] 27 (0, 0)) ∧ U.heap[gq]? = some (.cells #[.int .i64 (Q0 : Int), .int .i64 (Q1 : Int), .int .i64 (Q2 : Int), .int .i64 (Q3 : Int)] 53 (0, 0)) ∧ U.heap[gz]? = some (.cells #[.int .i64 Z0, .int .i64 Z1, .int .i64 Z2, .int .i64 Z3] 53 (0, 0)) := fun U h => ⟨(h.block (gp) (by omega)).trans (par6), (h.block (gq) (by omega)).trans (rq6), (h.block (gz) (by omega)).trans (rz6)⟩
        have bV : Below V6.heap.size V6 V6.drew := (Below.refl _ _).drew
        generalize V6.drew = V0 at *
        change wpAnyL _ _ _ _ _ 29 #[false, false, false, false, false, false, false, false, false, false, false, false, false, false, false, false, false, false, false, false, false, false, false, false, false, false, false, false, false] _ _
        refine wpAnyL_take (i := 0) (v := .agg #[.int .i64 Z0, .int .i64 Z1, .int .i64 Z2, .int .i64 Z3]) (by simp only [List.getElem?_toArray, List.getElem?_cons_succ, List.getElem?_cons_zero]; rfl) (by as_aux_lemma => kernel_rfl) (by as_aux_lemma => kernel_rfl) (by as_aux_lemma => kernel_rfl) (fun _ _ _ h => h) (Or.inl ⟨by rfl, ?_⟩) hS ?_
        · intro U hU
          obtain ⟨s0, s1, s2⟩ := hU
          exact exec_loadRow (cs := [.int .i64 Z0, .int .i64 Z1, .int .i64 Z2, .int .i64 Z3]) rfl rfl s2 (by kernel_rfl) (by kernel_rfl)
        simp only [Act.put, List.setIfInBounds_toArray, List.set_cons_zero, List.set_cons_succ]
        refine wpAnyL_take (i := 1) (v := .agg #[.int .i64 (Q0 : Int), .int .i64 (Q1 : Int), .int .i64 (Q2 : Int), .int .i64 (Q3 : Int)]) (by simp only [List.getElem?_toArray, List.getElem?_cons_succ, List.getElem?_cons_zero]; rfl) (by as_aux_lemma => kernel_rfl) (by as_aux_lemma => kernel_rfl) (by as_aux_lemma => kernel_rfl) (fun _ _ _ h => h) (Or.inl ⟨by rfl, ?_⟩) hS ?_
        · intro U hU
          obtain ⟨s0, s1, s2⟩ := hU
          exact exec_loadRow (cs := [.int .i64 (Q0 : Int), .int .i64 (Q1 : Int), .int .i64 (Q2 : Int), .int .i64 (Q3 : Int)]) rfl rfl s1 (by kernel_rfl) (by kernel_rfl)
        simp only [Act.put, List.setIfInBounds_toArray, List.set_cons_zero, List.set_cons_succ]
        refine wpAnyL_take (i := 2) (v := .pointer (some ⟨gp, 2, none⟩)) (by simp only [List.getElem?_toArray, List.getElem?_cons_succ, List.getElem?_cons_zero]; rfl) (by as_aux_lemma => kernel_rfl) (by as_aux_lemma => kernel_rfl) (by as_aux_lemma => kernel_rfl) (fun _ _ _ h => h) (Or.inl ⟨by rfl, ?_⟩) hS ?_
        · intro U hU
          obtain ⟨s0, s1, s2⟩ := hU
          kernel_rfl
        simp only [Act.put, List.setIfInBounds_toArray, List.set_cons_zero, List.set_cons_succ]
        refine wpAnyL_take (i := 3) (v := .int .i64 (lv : Int)) (by simp only [List.getElem?_toArray, List.getElem?_cons_succ, List.getElem?_cons_zero]; rfl) (by as_aux_lemma => kernel_rfl) (by as_aux_lemma => kernel_rfl) (by as_aux_lemma => kernel_rfl) (fun _ _ _ h => h) (Or.inl ⟨by rfl, ?_⟩) hS ?_
        · intro U hU
          obtain ⟨s0, s1, s2⟩ := hU
          have r0_2 : U.cell? ⟨gp, 2, none⟩ = some (.int .i64 (lv : Int)) := cell_of_row _ _ 2 _ _ (0, 0) s0
          exact exec_loadCell rfl rfl r0_2 (by kernel_rfl)
        simp only [Act.put, List.setIfInBounds_toArray, List.set_cons_zero, List.set_cons_succ]
        refine wpAnyL_take (i := 4) (v := .int .i64 (rn : Int)) (by simp only [List.getElem?_toArray, List.getElem?_cons_succ, List.getElem?_cons_zero]; rfl) (by as_aux_lemma => kernel_rfl) (by as_aux_lemma => kernel_rfl) (by as_aux_lemma => kernel_rfl) (fun _ _ _ h => h) (Or.inl ⟨by rfl, ?_⟩) hS ?_
        · intro U hU
          obtain ⟨s0, s1, s2⟩ := hU
          kernel_rfl
        simp only [Act.put, List.setIfInBounds_toArray, List.set_cons_zero, List.set_cons_succ]
        refine wpAnyL_ready (rs := [5]) (by as_aux_lemma => kernel_rfl) (by simp) ?_
        refine AllReadyL.cons (by simp only [List.getElem?_toArray, List.getElem?_cons_succ, List.getElem?_cons_zero]; rfl) (fun K' hK' => ?_) AllReadyL.nil
        go_simp
        go_at_call 29
        refine (HRsR.out _).mono ?_
        rintro e' U5 ⟨rfl, hb5⟩
        have b5 := below_trans bV hb5
        have hS := hSB _ b5
        dsimp only
        refine hK'.out _ _ hS (fun _ => ?_)
        clear hb5
        clear hK' K'
        try simp only [Act.put, List.setIfInBounds_toArray, List.set_cons_zero, List.set_cons_succ]
        refine wpAnyL_take (i := 6) (v := .bool false) (by simp only [List.getElem?_toArray, List.getElem?_cons_succ, List.getElem?_cons_zero]; rfl) (by as_aux_lemma => kernel_rfl) (by as_aux_lemma => kernel_rfl) (by as_aux_lemma => kernel_rfl) (fun _ _ _ h => h) (Or.inl ⟨by rfl, ?_⟩) hS ?_
        · intro U hU
          obtain ⟨s0, s1, s2⟩ := hU
          go_simp
        simp only [Act.put, List.setIfInBounds_toArray, List.set_cons_zero, List.set_cons_succ]
        refine wpAnyL_take (i := 7) (v := .bool false) (by simp only [List.getElem?_toArray, List.getElem?_cons_succ, List.getElem?_cons_zero]; rfl) (by as_aux_lemma => kernel_rfl) (by as_aux_lemma => kernel_rfl) (by as_aux_lemma => kernel_rfl) (fun _ _ _ h => h) (Or.inl ⟨by rfl, ?_⟩) hS ?_
        · intro U hU
          obtain ⟨s0, s1, s2⟩ := hU
          kernel_rfl
        simp only [Act.put, List.setIfInBounds_toArray, List.set_cons_zero, List.set_cons_succ]
        refine wpAnyL_take (i := 8) (v := .slice KA BN cK) (by simp only [List.getElem?_toArray, List.getElem?_cons_succ, List.getElem?_cons_zero]; rfl) (by as_aux_lemma => kernel_rfl) (by as_aux_lemma => kernel_rfl) (by as_aux_lemma => kernel_rfl) (fun _ _ _ h => h) (Or.inl ⟨by rfl, ?_⟩) hS ?_
        · intro U hU
          obtain ⟨s0, s1, s2⟩ := hU
          kernel_rfl
        simp only [Act.put, List.setIfInBounds_toArray, List.set_cons_zero, List.set_cons_succ]
        refine wpAnyL_take (i := 9) (v := .slice JA BN cJ) (by simp only [List.getElem?_toArray, List.getElem?_cons_succ, List.getElem?_cons_zero]; rfl) (by as_aux_lemma => kernel_rfl) (by as_aux_lemma => kernel_rfl) (by as_aux_lemma => kernel_rfl) (fun _ _ _ h => h) (Or.inl ⟨by rfl, ?_⟩) hS ?_
        · intro U hU
          obtain ⟨s0, s1, s2⟩ := hU
          kernel_rfl
        simp only [Act.put, List.setIfInBounds_toArray, List.set_cons_zero, List.set_cons_succ]
        refine wpAnyL_ready (rs := [10]) (by as_aux_lemma => kernel_rfl) (by simp) ?_
        refine AllReadyL.cons (by simp only [List.getElem?_toArray, List.getElem?_cons_succ, List.getElem?_cons_zero]; rfl) (fun K' hK' => ?_) AllReadyL.nil
        go_simp
        go_at_call 30
        refine (ints12 KA JA BN cK cJ (kindI rn) U5 _ _ ((HK6.out.more sz6).below b5) ((HJ6.out.more sz6).below b5) (by omega)).mono ?_
        rintro e' w'' ⟨rfl, q10, rfl⟩
        have b10 := below_drewN b5 q10
        generalize World.drewN U5 q10 = U10 at *
        have hS := hSB _ b10
        dsimp only
        refine hK'.out _ _ hS (fun _ => ?_)
        clear hK' K'
        try simp only [Act.put, List.setIfInBounds_toArray, List.set_cons_zero, List.set_cons_succ]
        refine wpAnyL_take (i := 11) (v := .bool false) (by simp only [List.getElem?_toArray, List.getElem?_cons_succ, List.getElem?_cons_zero]; rfl) (by as_aux_lemma => kernel_rfl) (by as_aux_lemma => kernel_rfl) (by as_aux_lemma => kernel_rfl) (fun _ _ _ h => h) (Or.inl ⟨by rfl, ?_⟩) hS ?_
        · intro U hU
          obtain ⟨s0, s1, s2⟩ := hU
          go_simp
        simp only [Act.put, List.setIfInBounds_toArray, List.set_cons_zero, List.set_cons_succ]
        refine wpAnyL_take (i := 12) (v := .bool false) (by simp only [List.getElem?_toArray, List.getElem?_cons_succ, List.getElem?_cons_zero]; rfl) (by as_aux_lemma => kernel_rfl) (by as_aux_lemma => kernel_rfl) (by as_aux_lemma => kernel_rfl) (fun _ _ _ h => h) (Or.inl ⟨by rfl, ?_⟩) hS ?_
        · intro U hU
          obtain ⟨s0, s1, s2⟩ := hU
          kernel_rfl
        simp only [Act.put, List.setIfInBounds_toArray, List.set_cons_zero, List.set_cons_succ]
        refine wpAnyL_take (i := 13) (v := .bool false) (by simp only [List.getElem?_toArray, List.getElem?_cons_succ, List.getElem?_cons_zero]; rfl) (by as_aux_lemma => kernel_rfl) (by as_aux_lemma => kernel_rfl) (by as_aux_lemma => kernel_rfl) (fun _ _ _ h => h) (Or.inl ⟨by rfl, ?_⟩) hS ?_
        · intro U hU
          obtain ⟨s0, s1, s2⟩ := hU
          kernel_rfl
        simp only [Act.put, List.setIfInBounds_toArray, List.set_cons_zero, List.set_cons_succ]
        refine wpAnyL_take (i := 14) (v := .slice (some ⟨bx, ox, none⟩) BN cX) (by simp only [List.getElem?_toArray, List.getElem?_cons_succ, List.getElem?_cons_zero]; rfl) (by as_aux_lemma => kernel_rfl) (by as_aux_lemma => kernel_rfl) (by as_aux_lemma => kernel_rfl) (fun _ _ _ h => h) (Or.inl ⟨by rfl, ?_⟩) hS ?_
        · intro U hU
          obtain ⟨s0, s1, s2⟩ := hU
          kernel_rfl
        simp only [Act.put, List.setIfInBounds_toArray, List.set_cons_zero, List.set_cons_succ]
        refine wpAnyL_take (i := 15) (v := .slice YA BN cY) (by simp only [List.getElem?_toArray, List.getElem?_cons_succ, List.getElem?_cons_zero]; rfl) (by as_aux_lemma => kernel_rfl) (by as_aux_lemma => kernel_rfl) (by as_aux_lemma => kernel_rfl) (fun _ _ _ h => h) (Or.inl ⟨by rfl, ?_⟩) hS ?_
        · intro U hU
          obtain ⟨s0, s1, s2⟩ := hU
          kernel_rfl
        simp only [Act.put, List.setIfInBounds_toArray, List.set_cons_zero, List.set_cons_succ]
        refine wpAnyL_ready (rs := [16]) (by as_aux_lemma => kernel_rfl) (by simp) ?_
        refine AllReadyL.cons (by simp only [List.getElem?_toArray, List.getElem?_cons_succ, List.getElem?_cons_zero]; rfl) (fun K' hK' => ?_) AllReadyL.nil
        go_simp
        go_at_call 20
        refine (rects12 (some ⟨bx, ox, none⟩) YA BN cX cY fb U10 _ _ ((HX6.out.more sz6).below b10) ((HY6.out.more sz6).below b10) (by omega)).mono ?_
        rintro e' w'' ⟨rfl, q16, rfl⟩
        have b16 := below_drewN b10 q16
        generalize World.drewN U10 q16 = U16 at *
        have hS := hSB _ b16
        dsimp only
        refine hK'.out _ _ hS (fun _ => ?_)
        clear hK' K'
        try simp only [Act.put, List.setIfInBounds_toArray, List.set_cons_zero, List.set_cons_succ]
        refine wpAnyL_take (i := 17) (v := .bool false) (by simp only [List.getElem?_toArray, List.getElem?_cons_succ, List.getElem?_cons_zero]; rfl) (by as_aux_lemma => kernel_rfl) (by as_aux_lemma => kernel_rfl) (by as_aux_lemma => kernel_rfl) (fun _ _ _ h => h) (Or.inl ⟨by rfl, ?_⟩) hS ?_
        · intro U hU
          obtain ⟨s0, s1, s2⟩ := hU
          go_simp
        simp only [Act.put, List.setIfInBounds_toArray, List.set_cons_zero, List.set_cons_succ]
        refine wpAnyL_take (i := 18) (v := .bool false) (by simp only [List.getElem?_toArray, List.getElem?_cons_succ, List.getElem?_cons_zero]; rfl) (by as_aux_lemma => kernel_rfl) (by as_aux_lemma => kernel_rfl) (by as_aux_lemma => kernel_rfl) (fun _ _ _ h => h) (Or.inl ⟨by rfl, ?_⟩) hS ?_
        · intro U hU
          obtain ⟨s0, s1, s2⟩ := hU
          kernel_rfl
        simp only [Act.put, List.setIfInBounds_toArray, List.set_cons_zero, List.set_cons_succ]
        refine wpAnyL_take (i := 19) (v := .bool false) (by simp only [List.getElem?_toArray, List.getElem?_cons_succ, List.getElem?_cons_zero]; rfl) (by as_aux_lemma => kernel_rfl) (by as_aux_lemma => kernel_rfl) (by as_aux_lemma => kernel_rfl) (fun _ _ _ h => h) (Or.inl ⟨by rfl, ?_⟩) hS ?_
        · intro U hU
          obtain ⟨s0, s1, s2⟩ := hU
          kernel_rfl
        simp only [Act.put, List.setIfInBounds_toArray, List.set_cons_zero, List.set_cons_succ]
        refine wpAnyL_take (i := 20) (v := .int .i64 (PW : Int)) (by simp only [List.getElem?_toArray, List.getElem?_cons_succ, List.getElem?_cons_zero]; rfl) (by as_aux_lemma => kernel_rfl) (by as_aux_lemma => kernel_rfl) (by as_aux_lemma => kernel_rfl) (fun _ _ _ h => h) (Or.inl ⟨by rfl, ?_⟩) hS ?_
        · intro U hU
          obtain ⟨s0, s1, s2⟩ := hU
          kernel_rfl
        simp only [Act.put, List.setIfInBounds_toArray, List.set_cons_zero, List.set_cons_succ]
        refine wpAnyL_take (i := 21) (v := .int .i64 (PW : Int)) (by simp only [List.getElem?_toArray, List.getElem?_cons_succ, List.getElem?_cons_zero]; rfl) (by as_aux_lemma => kernel_rfl) (by as_aux_lemma => kernel_rfl) (by as_aux_lemma => kernel_rfl) (fun _ _ _ h => h) (Or.inl ⟨by rfl, ?_⟩) hS ?_
        · intro U hU
          obtain ⟨s0, s1, s2⟩ := hU
          kernel_rfl
        simp only [Act.put, List.setIfInBounds_toArray, List.set_cons_zero, List.set_cons_succ]
        refine wpAnyL_take (i := 22) (v := .bool false) (by simp only [List.getElem?_toArray, List.getElem?_cons_succ, List.getElem?_cons_zero]; rfl) (by as_aux_lemma => kernel_rfl) (by as_aux_lemma => kernel_rfl) (by as_aux_lemma => kernel_rfl) (fun _ _ _ h => h) (Or.inl ⟨by rfl, ?_⟩) hS ?_
        · intro U hU
          obtain ⟨s0, s1, s2⟩ := hU
          go_simp
        simp only [Act.put, List.setIfInBounds_toArray, List.set_cons_zero, List.set_cons_succ]
        refine wpAnyL_take (i := 23) (v := .bool false) (by simp only [List.getElem?_toArray, List.getElem?_cons_succ, List.getElem?_cons_zero]; rfl) (by as_aux_lemma => kernel_rfl) (by as_aux_lemma => kernel_rfl) (by as_aux_lemma => kernel_rfl) (fun _ _ _ h => h) (Or.inl ⟨by rfl, ?_⟩) hS ?_
        · intro U hU
          obtain ⟨s0, s1, s2⟩ := hU
          kernel_rfl
        simp only [Act.put, List.setIfInBounds_toArray, List.set_cons_zero, List.set_cons_succ]
        refine wpAnyL_take (i := 24) (v := .bool false) (by simp only [List.getElem?_toArray, List.getElem?_cons_succ, List.getElem?_cons_zero]; rfl) (by as_aux_lemma => kernel_rfl) (by as_aux_lemma => kernel_rfl) (by as_aux_lemma => kernel_rfl) (fun _ _ _ h => h) (Or.inl ⟨by rfl, ?_⟩) hS ?_
        · intro U hU
          obtain ⟨s0, s1, s2⟩ := hU
          kernel_rfl
        simp only [Act.put, List.setIfInBounds_toArray, List.set_cons_zero, List.set_cons_succ]
        refine wpAnyL_take (i := 25) (v := .int .i64 (PH : Int)) (by simp only [List.getElem?_toArray, List.getElem?_cons_succ, List.getElem?_cons_zero]; rfl) (by as_aux_lemma => kernel_rfl) (by as_aux_lemma => kernel_rfl) (by as_aux_lemma => kernel_rfl) (fun _ _ _ h => h) (Or.inl ⟨by rfl, ?_⟩) hS ?_
        · intro U hU
          obtain ⟨s0, s1, s2⟩ := hU
          kernel_rfl
        simp only [Act.put, List.setIfInBounds_toArray, List.set_cons_zero, List.set_cons_succ]
        refine wpAnyL_take (i := 26) (v := .int .i64 (PH : Int)) (by simp only [List.getElem?_toArray, List.getElem?_cons_succ, List.getElem?_cons_zero]; rfl) (by as_aux_lemma => kernel_rfl) (by as_aux_lemma => kernel_rfl) (by as_aux_lemma => kernel_rfl) (fun _ _ _ h => h) (Or.inl ⟨by rfl, ?_⟩) hS ?_
        · intro U hU
          obtain ⟨s0, s1, s2⟩ := hU
          kernel_rfl
        simp only [Act.put, List.setIfInBounds_toArray, List.set_cons_zero, List.set_cons_succ]
        refine wpAnyL_take (i := 27) (v := .bool false) (by simp only [List.getElem?_toArray, List.getElem?_cons_succ, List.getElem?_cons_zero]; rfl) (by as_aux_lemma => kernel_rfl) (by as_aux_lemma => kernel_rfl) (by as_aux_lemma => kernel_rfl) (fun _ _ _ h => h) (Or.inl ⟨by rfl, ?_⟩) hS ?_
        · intro U hU
          obtain ⟨s0, s1, s2⟩ := hU
          go_simp
        simp only [Act.put, List.setIfInBounds_toArray, List.set_cons_zero, List.set_cons_succ]
        refine wpAnyL_take (i := 28) (v := .bool false) (by simp only [List.getElem?_toArray, List.getElem?_cons_succ, List.getElem?_cons_zero]; rfl) (by as_aux_lemma => kernel_rfl) (by as_aux_lemma => kernel_rfl) (by as_aux_lemma => kernel_rfl) (fun _ _ _ h => h) (Or.inl ⟨by rfl, ?_⟩) hS ?_
        · intro U hU
          obtain ⟨s0, s1, s2⟩ := hU
          kernel_rfl
        simp only [Act.put, List.setIfInBounds_toArray, List.set_cons_zero, List.set_cons_succ]
        refine wpAnyL_done (by as_aux_lemma => kernel_rfl) ?_ _
        simp only [OnlyN]
        refine ⟨?_, b16⟩
        (try simp only [Act.put, List.setIfInBounds_toArray, List.set_cons_zero, List.set_cons_succ])
      rintro a' V7 ⟨rfl, h7⟩
      simp only [Act.put, List.setIfInBounds_toArray, List.set_cons_zero, List.set_cons_succ]
      have par7 := (h7.block gp lp6).trans par6
      have rz7 := (h7.block gz lz6).trans rz6
      have b7 := b6.trans (h7.mono (by omega))
      have sz7 := h7.size
      have hX7 := (((HX6.out.more sz6).below h7).more sz7)
      clear par6 rq6 rz6 HK6 HJ6 HY6 HX6 h7 b6
      go_wp2_with fail
      refine pl4 gp gz bx ox BN cX rn PW PH Z0 Z1 Z2 Z3 tx ty lv cw ch pr st od ly rct sop eph fb (fun kn en => blksN (partR (fb en) ⟨Z0, Z1, Z2, Z3⟩ pr (blkS rn pr) kn) (min cw (blkS rn pr)) (min ch (blkS rn pr))) (fun kn en => blksW (partR (fb en) ⟨Z0, Z1, Z2, Z3⟩ pr (blkS rn pr) kn) (min cw (blkS rn pr))) (fun kn en i => blkR (partR (fb en) ⟨Z0, Z1, Z2, Z3⟩ pr (blkS rn pr) kn) (min cw (blkS rn pr)) (min ch (blkS rn pr)) (gridAt (blksW (partR (fb en) ⟨Z0, Z1, Z2, Z3⟩ pr (blkS rn pr) kn) (min cw (blkS rn pr))) i)) V7 hBN3.1 hBN3.2 hpW.1 hpW.2 HNB.out par7 rz7 hX7 HB1.out HB2.out _ ?_
      intro u2 u19 u20 u21 u22 u23 u24 u160 u161 u162 u163 u164 u165 u166 u167 u168 u169 u170 u171 u172 u173 u174 u175 u176 u177 u178 u179 u180 u181 u182 u183 u184 u185 u186 u187 u188 u189 u190 u191 u192 u193 u194 u195 u196 u197 u198 u199 u200 u201 u202 u203 u204 u205 u206 u207 u208 u209 wz hbi
      have hbz := b7.trans (hbi.mono (by omega))
      clear par7 rz7 hX7 hbi HB1 HB2 HNB HRes HRsR HBnd HBnR HPre HPrR
      go_wp2_with fail
      go_roundw
      case rel => exact ⟨rn + 1, by omega, by go_num, hbz⟩
      case measure => simp [intOf]; omega
    · obtain rfl : rn = lv + 1 := by omega
      go_wp2_with fail
      first
        | exact hbe
        | (apply hexit; exact hbe)
end Go.Proofs.Ytmieoifagnpbiaa
