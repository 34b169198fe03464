/- CONTRACT of waveletref12.Blocks: it answers what canvas.Blocks answers. -/
import Derived.Test.YtmieoifagnpbiaaPlaK0
import Derived.Test.YtmieoifagnpbiaaBlk12
import Derived.Test.YtmieoifagnpbiaaRTiles
import Derived.Test.YtmieoifagnpbiaaLoad
import Derived.Test.YtmieoifagnpbiaaBlkLaw
import Derived.Deep.CutBlock
namespace Go.Proofs.Ytmieoifagnpbiaa
open Go.RowKit
set_option maxHeartbeats 4000000
set_option linter.unusedVariables false
set_option linter.unusedSimpArgs false
set_option maxRecDepth 100000

theorem blocksR_any (band res : Rc) (tx ty lv : Int) (cw ch pr : Nat) (st od ly : Int) (rct sop eph : Bool) (r k : Nat) (hcw : cw ≤ 6) (hch : ch ≤ 6) (hpr : 1 ≤ pr ∧ pr ≤ 15) (hBs : smallR band) (hBm : midR band) (hR : okR res) (hP : placeR res) (hM : midR res) (hk : k ≤ 1048576) (hr : r ≤ 1024)
    (w0 : World) (aa : Rc) (haa : aa = partR band res pr (blkS r pr) k) :
    Calls Try.prog 32 #[rcV band, rcV res, parV tx ty lv cw ch pr st od ly rct sop eph, .int .i64 r, .int .i64 k] w0 fun e w' => ∃ A c, e = .returned (.tuple #[.slice A (blksN aa (min cw (blkS r pr)) (min ch (blkS r pr))) c, .int .i64 (blksW aa (min cw (blkS r pr)))]) ∧
      OwnC w' w0.heap.size 53 4 (.slice A (blksN aa (min cw (blkS r pr)) (min ch (blkS r pr))) c) (blksN aa (min cw (blkS r pr)) (min ch (blkS r pr))) (fun i => rcL (blkR aa (min cw (blkS r pr)) (min ch (blkS r pr)) (gridAt (blksW aa (min cw (blkS r pr))) i))) ∧ Below w0.heap.size w0 w' := by
  have hpb := pre_bd (show pr ≤ 40 by omega) hR hP
  obtain ⟨PW, hPW⟩ := Int.eq_ofNat_of_zero_le hpb.1
  obtain ⟨PH, hPH⟩ := Int.eq_ofNat_of_zero_le hpb.2.2.1
  have HPr := Lib.hid (fun v => by have := precinctsR_any res pr (by omega) hR hP hM v; rw [hPW, hPH] at this; exact this)
  have hpW : PW ≤ 1048576 ∧ PH ≤ 1048576 := by omega
  have hsdp : blkS r pr ≤ pr := by unfold blkS; split <;> omega
  have hAm : midR aa := by rw [haa]; exact part_mid hBm hsdp hpr.2 hR hP
  have hfl : emptyB aa = false → fullR aa := fun h => by
    have := part_bd (pr := pr) (sd := blkS r pr) (k := k) (res := res) hBs (by rw [← haa]; exact h)
    rw [← haa] at this; exact this
  obtain ⟨sd, hsd⟩ : ∃ z, blkS r pr = z := ⟨_, rfl⟩
  rw [hsd] at haa hsdp ⊢
  obtain ⟨NK, hNK⟩ : ∃ z, PW * PH = z := ⟨_, rfl⟩
  have hNKi : (PW : Int) * (PH : Int) = (NK : Int) := by rw [← hNK]; exact (Int.natCast_mul _ _).symm
  have hNKb : NK ≤ 1048576 * 1048576 := by rw [← hNK]; exact Nat.mul_le_mul hpW.1 hpW.2
  have haa' : aa = if (NK : Int) ≤ k then ⟨0, 0, 0, 0⟩ else bothR band (cutR (flI res.x0 pr + (k : Int) % PW) (flI res.y0 pr + (k : Int) / PW) sd) := by
    rw [haa]; unfold partR; rw [hPW, hPH, hNKi]
  have HSD := Lib.hid hsd
  have HE0 := Lib.hid (area0 aa)
  have HAr := Lib.hid (fun v => areaR_any aa hAm.1 hAm.2.1 hAm.2.2.1 hAm.2.2.2 v)
  have HFL := Lib.hid hfl
  obtain ⟨m, hm⟩ : ∃ z, 2 ^ pr = z := ⟨_, rfl⟩
  obtain ⟨ms, hms⟩ : ∃ z, 2 ^ sd = z := ⟨_, rfl⟩
  have m1 := pow_le15 hm hpr.2
  have ms1 := pow_le15 hms (by omega)
  have s1 := shl_nat hm hpr.2
  have s2 := shl_nat hms (by omega)
  have sd15 : sd ≤ 15 := by omega
  obtain ⟨g0, g1, g2, g3⟩ := hP
  have e1 := tdiv_fl hm g0
  have e2 := tdiv_fl hm g1
  have f0b := flI_nn g0 (show res.x0 ≤ 1048576 from hM.1.2) (show pr ≤ 40 by omega)
  have f1b := flI_nn g1 (show res.y0 ≤ 1048576 from hM.2.1.2) (show pr ≤ 40 by omega)
  obtain ⟨f0, hf0⟩ : ∃ z, flI res.x0 pr = z := ⟨_, rfl⟩
  obtain ⟨f1, hf1⟩ : ∃ z, flI res.y0 pr = z := ⟨_, rfl⟩
  rw [hf0] at e1 f0b haa'
  rw [hf1] at e2 f1b haa'
  have HMS := Lib.hid hms
  have HNK := Lib.hid hNK
  clear hpb hPW hPH hsd haa hAm hfl hm hms g0 g1 g2 g3 hf0 hf1 hBs hBm hR hM hNK
  obtain ⟨b0, b1, b2, b3⟩ := band
  obtain ⟨c0, c1, c2, c3⟩ := res
  simp only at e1 e2 haa'
  have HAA := Lib.hid haa'
  clear haa'
  unfold rcV at HPr HAr ⊢
  unfold parV
  simp only at HPr HAr ⊢
  have hz0 : ((m : Int) = 0) = False := eq_false (Int.ne_of_gt (Int.ofNat_lt.2 m1.1))
  have hz0' : ¬ m = 0 := Nat.ne_of_gt m1.1
  have hpn : ¬ ((pr : Int) < 0) := by omega
  have hsn : ¬ ((sd : Int) < 0) := by omega
  have hkn : ¬ ((k : Int) < 0) := by omega
  have HE1 := Lib.hid e1
  have HE2 := Lib.hid e2
  clear e1 e2
  go_enter Try.func32, Try.ntmps32
  go_wp2_with fail
  obtain ⟨q, hq⟩ : ∃ q, w0.heap.size = q := ⟨_, rfl⟩
  generalize hV1 : World.alloc (World.alloc (World.alloc w0 _) _) _ = V1
  have x0 : V1.heap[q]? = some (.cells #[.int .i64 b0, .int .i64 b1, .int .i64 b2, .int .i64 b3] 53 (0, 0)) := by rw [← hV1, ← hq]; exact (Below.heap_alloc _ _ _ (by simp; omega)).trans ((Below.heap_alloc _ _ _ (by simp)).trans (heap_alloc_new w0 _))
  have x1 : V1.heap[q + 1]? = some (.cells #[.int .i64 c0, .int .i64 c1, .int .i64 c2, .int .i64 c3] 53 (0, 0)) := by rw [← hV1, ← hq]; exact (Below.heap_alloc _ _ _ (by simp)).trans (heap_alloc_new2 w0 _ _)
  have x2 : V1.heap[q + 2]? = some (.cells #[.int .i64 tx, .int .i64 ty, .int .i64 lv, .int .i64 (cw : Int), .int .i64 (ch : Int), .int .i64 (pr : Int), .int .i64 st, .int .i64 od, .int .i64 ly, .bool rct, .bool sop, .bool eph] 27 (0, 0)) := by rw [← hV1, ← hq]; have := heap_alloc_new2 (w0.alloc (.cells #[.int .i64 b0, .int .i64 b1, .int .i64 b2, .int .i64 b3] 53)) (.cells #[.int .i64 c0, .int .i64 c1, .int .i64 c2, .int .i64 c3] 53) (.cells #[.int .i64 tx, .int .i64 ty, .int .i64 lv, .int .i64 (cw : Int), .int .i64 (ch : Int), .int .i64 (pr : Int), .int .i64 st, .int .i64 od, .int .i64 ly, .bool rct, .bool sop, .bool eph] 27); simpa using this
  have hs1 : V1.heap.size = q + 3 := by rw [← hV1, ← hq]; simp
  have hb1 : Below q w0 V1 := by rw [← hV1, ← hq]; exact below_alloc (below_alloc (below_alloc (Below.refl _ _) _) _) _
  clear hV1
  refine (HPr.out V1).mono ?_
  rintro e V2 ⟨rfl, h2⟩
  replace x0 := (h2.block q (by omega)).trans x0
  replace x1 := (h2.block (q + 1) (by omega)).trans x1
  replace x2 := (h2.block (q + 2) (by omega)).trans x2
  replace hb1 := hb1.trans (h2.mono (by omega))
  have hs2 : q + 3 ≤ V2.heap.size := by have := h2.size; omega
  clear h2 hs1
  have b_0 : V2.cell? ⟨q, 0, none⟩ = some (.int .i64 b0) := cell_of_row _ _ 0 _ _ (0, 0) x0
  have b_1 : V2.cell? ⟨q, 1, none⟩ = some (.int .i64 b1) := cell_of_row _ _ 1 _ _ (0, 0) x0
  have b_2 : V2.cell? ⟨q, 2, none⟩ = some (.int .i64 b2) := cell_of_row _ _ 2 _ _ (0, 0) x0
  have b_3 : V2.cell? ⟨q, 3, none⟩ = some (.int .i64 b3) := cell_of_row _ _ 3 _ _ (0, 0) x0
  have c_0 : V2.cell? ⟨q + 1, 0, none⟩ = some (.int .i64 c0) := cell_of_row _ _ 0 _ _ (0, 0) x1
  have c_1 : V2.cell? ⟨q + 1, 1, none⟩ = some (.int .i64 c1) := cell_of_row _ _ 1 _ _ (0, 0) x1
  have p_3 : V2.cell? ⟨q + 2, 3, none⟩ = some (.int .i64 (cw : Int)) := cell_of_row _ _ 3 _ _ (0, 0) x2
  have p_4 : V2.cell? ⟨q + 2, 4, none⟩ = some (.int .i64 (ch : Int)) := cell_of_row _ _ 4 _ _ (0, 0) x2
  have p_5 : V2.cell? ⟨q + 2, 5, none⟩ = some (.int .i64 (pr : Int)) := cell_of_row _ _ 5 _ _ (0, 0) x2
  have wNK : IntKind.i64.wrap ((PW : Int) * (PH : Int)) = (NK : Int) := by rw [hNKi]; exact wr (by omega)
  clear hNKi
  by_cases hkN : NK ≤ k
  · have haz := HAA.out
    rw [if_pos (by omega)] at haz
    have n0 : ∀ a b, blksN aa a b = 0 := fun a b => by rw [haz]; rfl
    have w_0 : ∀ a, blksW aa a = 0 := fun a => by rw [haz]; rfl
    have N0 := Lib.hid n0
    have W_0 := Lib.hid w_0
    clear haz n0 w_0 b_0 b_1 b_2 b_3 c_0 c_1 p_3 p_4 x0 x1 x2
    have hkI : (NK : Int) ≤ (k : Int) := by omega
    go_wp2_with fail
    refine bodyPost_ret (v := .tuple #[.slice none 0 0, .int .i64 0]) (by simp [results, Try.results32, go_sem]) rfl (by rw [N0.out, W_0.out]; exact ⟨none, 0, rfl, OwnC.nil_ _ _ _ _ _ (fun _ => rfl), by rw [hq]; exact hb1⟩)
  · have hPW1 : 1 ≤ PW ∧ 1 ≤ PH := by
      have h := HNK.out
      constructor
      · rcases Nat.eq_zero_or_pos PW with h0 | h0
        · rw [h0, Nat.zero_mul] at h; omega
        · exact h0
      · rcases Nat.eq_zero_or_pos PH with h0 | h0
        · rw [h0, Nat.mul_zero] at h; omega
        · exact h0
    have hzP : ((PW : Int) = 0) = False := eq_false (Int.ne_of_gt (Int.ofNat_lt.2 hPW1.1))
    have hzP' : ¬ PW = 0 := Nat.ne_of_gt hPW1.1
    obtain ⟨km, hkm⟩ : ∃ z, k % PW = z := ⟨_, rfl⟩
    obtain ⟨kd, hkd⟩ : ∃ z, k / PW = z := ⟨_, rfl⟩
    have kmb : km ≤ 1048576 := by rw [← hkm]; have := Nat.mod_lt k (show 0 < PW by omega); omega
    have kdb : kd ≤ 1048576 := by rw [← hkd]; exact Nat.le_trans (Nat.div_le_self _ _) hk
    have tm : (k : Int).tmod (PW : Int) = (km : Int) := by rw [Int.tmod_eq_emod_of_nonneg (by omega), ← hkm]; rfl
    have td : (k : Int).tdiv (PW : Int) = (kd : Int) := by rw [Int.tdiv_eq_ediv_of_nonneg (by omega), ← hkd]; rfl
    have haz := HAA.out
    rw [if_neg (by omega), show (k : Int) % (PW : Int) = (km : Int) by rw [← hkm]; rfl, show (k : Int) / (PW : Int) = (kd : Int) by rw [← hkd]; rfl] at haz
    obtain ⟨iI, hiI⟩ : ∃ z, f0 + (km : Int) = z := ⟨_, rfl⟩
    obtain ⟨jI, hjI⟩ : ∃ z, f1 + (kd : Int) = z := ⟨_, rfl⟩
    rw [hiI, hjI] at haz
    have iIb : 0 ≤ iI ∧ iI ≤ 2097152 := by omega
    have jIb : 0 ≤ jI ∧ jI ≤ 2097152 := by omega
    have w1 : IntKind.i64.wrap (f0 + (km : Int)) = iI := by rw [hiI]; exact wr (by omega)
    have w2 : IntKind.i64.wrap (f1 + (kd : Int)) = jI := by rw [hjI]; exact wr (by omega)
    have HAZ := Lib.hid haz
    clear haz hiI hjI hkm hkd HNK HAA
    have e1 := HE1.out
    have e2 := HE2.out
    have z0 : IntKind.i64.wrap f0 = f0 := wr (by omega)
    have z1 : IntKind.i64.wrap f1 = f1 := wr (by omega)
    have z2 : IntKind.i64.wrap (km : Int) = (km : Int) := wr (by omega)
    have z3 : IntKind.i64.wrap (kd : Int) = (kd : Int) := wr (by omega)
    have hkI : (k : Int) < (NK : Int) := by omega
    have hkI' : ¬ ((NK : Int) ≤ (k : Int)) := by omega
    go_wp2_with fail
    go_quiet (fail)
    clear z0 z1 z2 z3 e1 e2 tm td w1 w2 hzP hz0 hzP' hz0' wNK hkI hkI' c_0 c_1 HE1 HE2 f0b f1b
    generalize hV3 : World.drewN V2 _ = V3
    have x0 : V3.heap[q]? = some (.cells #[.int .i64 b0, .int .i64 b1, .int .i64 b2, .int .i64 b3] 53 (0, 0)) := by rw [← hV3]; exact x0
    have x2 : V3.heap[q + 2]? = some (.cells #[.int .i64 tx, .int .i64 ty, .int .i64 lv, .int .i64 (cw : Int), .int .i64 (ch : Int), .int .i64 (pr : Int), .int .i64 st, .int .i64 od, .int .i64 ly, .bool rct, .bool sop, .bool eph] 27 (0, 0)) := by rw [← hV3]; exact x2
    have hb3 : Below q w0 V3 := by rw [← hV3]; exact below_drewN hb1 _
    have hs3 : q + 3 ≤ V3.heap.size := by rw [← hV3]; exact hs2
    clear hV3 hb1 hs2 x1 b_0 b_1 b_2 b_3 p_3 p_4 p_5
    have p_5 : V3.cell? ⟨q + 2, 5, none⟩ = some (.int .i64 (pr : Int)) := cell_of_row _ _ 5 _ _ (0, 0) x2
    go_upto_if 64 with fail
    go_cut [17] from 63 (fun p wc' => p = .int .i64 (sd : Int) ∧ wc' = V3)
    case first =>
      rcases Nat.eq_zero_or_pos r with h0 | h0
      · have e1 : sd = pr := by rw [← HSD.out]; unfold blkS; rw [if_pos h0]
        have n0 : ¬ 0 < r := by omega
        go_wp2_with fail
        go_meet
        case rel => exact ⟨by rw [e1], rfl⟩
      · have e1 : sd = pr - 1 := by rw [← HSD.out]; unfold blkS; rw [if_neg (by omega)]
        have e2 : IntKind.i64.wrap ((pr : Int) - 1) = (sd : Int) := by rw [show (pr : Int) - 1 = (sd : Int) by omega]; exact wr (by omega)
        clear e1
        go_wp2_with fail
        go_meet
        case rel => exact ⟨rfl, rfl⟩
    case rest =>
    obtain ⟨rfl, rfl⟩ := hcut
    obtain ⟨V3, hV3⟩ : ∃ V3, V3 = wc := ⟨_, rfl⟩
    subst hV3
    have pc : (2 : Int) ^ sd = (ms : Int) := by rw [← pow_cast, HMS.out]
    obtain ⟨u1, u2, u3⟩ := mul_in iIb.1 iIb.2 (show (0 : Int) ≤ (ms : Int) from Int.natCast_nonneg _) (show (ms : Int) ≤ 32768 from Int.ofNat_le.2 ms1.2) (by decide)
    obtain ⟨u4, u5, u6⟩ := mul_in jIb.1 jIb.2 (show (0 : Int) ≤ (ms : Int) from Int.natCast_nonneg _) (show (ms : Int) ≤ 32768 from Int.ofNat_le.2 ms1.2) (by decide)
    obtain ⟨iJ, hiJ⟩ : ∃ z, iI + 1 = z := ⟨_, rfl⟩
    obtain ⟨jJ, hjJ⟩ : ∃ z, jI + 1 = z := ⟨_, rfl⟩
    have iJb : 0 ≤ iJ ∧ iJ ≤ 2097153 := by omega
    have jJb : 0 ≤ jJ ∧ jJ ≤ 2097153 := by omega
    have w1 : IntKind.i64.wrap (iI + 1) = iJ := by rw [hiJ]; exact wr (by omega)
    have w2 : IntKind.i64.wrap (jI + 1) = jJ := by rw [hjJ]; exact wr (by omega)
    obtain ⟨u7, u8, u9⟩ := mul_in iJb.1 iJb.2 (show (0 : Int) ≤ (ms : Int) from Int.natCast_nonneg _) (show (ms : Int) ≤ 32768 from Int.ofNat_le.2 ms1.2) (by decide)
    obtain ⟨v1, v2, v3⟩ := mul_in jJb.1 jJb.2 (show (0 : Int) ≤ (ms : Int) from Int.natCast_nonneg _) (show (ms : Int) ≤ 32768 from Int.ofNat_le.2 ms1.2) (by decide)
    have haz := HAZ.out
    unfold cutR at haz
    rw [pc, hiJ, hjJ] at haz
    obtain ⟨y0, hy0⟩ : ∃ z, iI * (ms : Int) = z := ⟨_, rfl⟩
    obtain ⟨y1, hy1⟩ : ∃ z, jI * (ms : Int) = z := ⟨_, rfl⟩
    obtain ⟨y2, hy2⟩ : ∃ z, iJ * (ms : Int) = z := ⟨_, rfl⟩
    obtain ⟨y3, hy3⟩ : ∃ z, jJ * (ms : Int) = z := ⟨_, rfl⟩
    rw [hy0, hy1, hy2, hy3] at haz
    rw [hy0] at u1
    rw [hy1] at u4
    rw [hy2] at u7
    rw [hy3] at v1
    have HMT := Lib.hid (fun v => by have := meetR_any ⟨b0, b1, b2, b3⟩ ⟨y0, y1, y2, y3⟩ v; rw [← haz] at this; exact this)
    have m0 : iI * (ms : Int) = y0 := hy0
    clear pc haz u2 u3 u5 u6 u8 u9 v2 v3 hiJ hjJ HAZ iIb jIb iJb jJb p_5
    obtain ⟨a0, a1, a2, a3⟩ := aa
    unfold rcV at HMT
    simp only at HMT HAr
    have b_0 : V3.cell? ⟨q, 0, none⟩ = some (.int .i64 b0) := cell_of_row _ _ 0 _ _ (0, 0) x0
    have b_1 : V3.cell? ⟨q, 1, none⟩ = some (.int .i64 b1) := cell_of_row _ _ 1 _ _ (0, 0) x0
    have b_2 : V3.cell? ⟨q, 2, none⟩ = some (.int .i64 b2) := cell_of_row _ _ 2 _ _ (0, 0) x0
    have b_3 : V3.cell? ⟨q, 3, none⟩ = some (.int .i64 b3) := cell_of_row _ _ 3 _ _ (0, 0) x0
    go_wp2_with fail
    refine (HMT.out _).mono ?_
    rintro e V4 ⟨rfl, h4⟩
    replace x2 := (h4.block (q + 2) (by omega)).trans x2
    have hb4 := hb3.trans (h4.mono (by omega))
    have hs4 : q + 3 ≤ V4.heap.size := by have := h4.size; omega
    clear b_0 b_1 b_2 b_3 x0 hb3 hs3 h4 HMT u1 u4 u7 v1 w1 w2 m0 hy0 hy1 hy2 hy3 s1 m1 hpn
    obtain ⟨AR, hAR⟩ : ∃ z, areaR ⟨a0, a1, a2, a3⟩ = z := ⟨_, rfl⟩
    have he0 := HE0.out
    rw [hAR] at HAr he0
    clear HE0 hAR
    go_wp2_with fail
    obtain ⟨D, hD⟩ : ∃ D, V4.heap.size = D := ⟨_, rfl⟩
    rw [hD]
    rw [hD] at hs4
    generalize hV5 : World.alloc V4 _ = V5
    have x9 : V5.heap[D]? = some (.cells #[.int .i64 a0, .int .i64 a1, .int .i64 a2, .int .i64 a3] 53 (0, 0)) := by rw [← hV5, ← hD]; exact heap_alloc_new V4 _
    have x2' := (Below.heap_alloc V4 (.cells #[.int .i64 a0, .int .i64 a1, .int .i64 a2, .int .i64 a3] 53) (q + 2) (by omega)).trans x2
    rw [hV5] at x2'
    have h5 : Below q w0 V5 := by rw [← hV5]; exact hb4.alloc (by omega) _
    have z5 : V5.heap.size = D + 1 := by rw [← hV5, World.size_alloc, hD]
    clear hV5 x2 hb4 hD
    refine (HAr.out V5).mono ?_
    rintro e V6 ⟨rfl, h6⟩
    replace x9 := (h6.block D (by omega)).trans x9
    replace x2' := (h6.block (q + 2) (by omega)).trans x2'
    have hb6 := h5.trans (h6.mono (by omega))
    have z6 : D + 1 ≤ V6.heap.size := by have := h6.size; omega
    clear h6 h5 z5 HAr
    have r_0 : V6.cell? ⟨D, 0, none⟩ = some (.int .i64 a0) := cell_of_row _ _ 0 _ _ (0, 0) x9
    have r_1 : V6.cell? ⟨D, 1, none⟩ = some (.int .i64 a1) := cell_of_row _ _ 1 _ _ (0, 0) x9
    have p_3 : V6.cell? ⟨q + 2, 3, none⟩ = some (.int .i64 (cw : Int)) := cell_of_row _ _ 3 _ _ (0, 0) x2'
    have p_4 : V6.cell? ⟨q + 2, 4, none⟩ = some (.int .i64 (ch : Int)) := cell_of_row _ _ 4 _ _ (0, 0) x2'
    obtain ⟨eb, heb⟩ : ∃ eb, emptyB ⟨a0, a1, a2, a3⟩ = eb := ⟨_, rfl⟩
    cases eb
    case true =>
      obtain rfl : AR = 0 := he0.2 heb
      have n0 : ∀ a b, blksN ⟨a0, a1, a2, a3⟩ a b = 0 := fun a b => by unfold blksN; rw [heb]; rfl
      have w_0 : ∀ a, blksW ⟨a0, a1, a2, a3⟩ a = 0 := fun a => by unfold blksW; rw [heb]; rfl
      have N0 := Lib.hid n0
      have W_0 := Lib.hid w_0
      clear n0 w_0 heb he0 HFL
      go_wp2_with fail
      refine bodyPost_ret (v := .tuple #[.slice none 0 0, .int .i64 0]) (by simp [results, Try.results32, go_sem]) rfl (by rw [N0.out, W_0.out]; exact ⟨none, 0, rfl, OwnC.nil_ _ _ _ _ _ (fun _ => rfl), by rw [hq]; exact hb6⟩)
    case false =>
    have hne : ¬ AR = 0 := fun h => by rw [he0.1 h] at heb; cases heb
    obtain ⟨F1, F2, F3, F4, F5, F6⟩ := HFL.out heb
    simp only at F1 F2 F3 F4 F5 F6
    obtain ⟨mw, hmw⟩ : ∃ m, min cw sd = m := ⟨_, rfl⟩
    obtain ⟨mh, hmh⟩ : ∃ m, min ch sd = m := ⟨_, rfl⟩
    have HMW := Lib.hid hmw
    have HMH := Lib.hid hmh
    have hm1 : (if sd < cw then (sd : Int) else (cw : Int)) = (mw : Int) := by split <;> omega
    have hm2 : (if sd < ch then (sd : Int) else (ch : Int)) = (mh : Int) := by split <;> omega
    have mw15 : mw ≤ 15 := by omega
    have mh15 : mh ≤ 15 := by omega
    obtain ⟨Mx, hMx⟩ : ∃ z, 2 ^ mw = z := ⟨_, rfl⟩
    obtain ⟨My, hMy⟩ : ∃ z, 2 ^ mh = z := ⟨_, rfl⟩
    have Mx1 := pow_le15 hMx mw15
    have My1 := pow_le15 hMy mh15
    have sx := shl_nat hMx mw15
    have sy := shl_nat hMy mh15
    have cx : IntKind.u64.wrap (mw : Int) = (mw : Int) := IntWalk.u64_in _ (by omega)
    have cy : IntKind.u64.wrap (mh : Int) = (mh : Int) := IntWalk.u64_in _ (by omega)
    have nx : min mw 64 = mw := by omega
    have ny : min mh 64 = mh := by omega
    have S1 := span_bd (k := mw) F1 F2 F3 (by omega)
    have S2 := span_bd (k := mh) F4 F5 F6 (by omega)
    have tx0 := tdiv_fl hMx F1
    have ty0 := tdiv_fl hMy F4
    have NN : blksN ⟨a0, a1, a2, a3⟩ mw mh = bW ⟨a0, a1, a2, a3⟩ mw * bH ⟨a0, a1, a2, a3⟩ mh := by unfold blksN; rw [heb]; rfl
    have WW : blksW ⟨a0, a1, a2, a3⟩ mw = bW ⟨a0, a1, a2, a3⟩ mw := by unfold blksW; rw [heb]; rfl
    obtain ⟨W, hW⟩ : ∃ z, bW ⟨a0, a1, a2, a3⟩ mw = z := ⟨_, rfl⟩
    obtain ⟨H, hH⟩ : ∃ z, bH ⟨a0, a1, a2, a3⟩ mh = z := ⟨_, rfl⟩
    rw [hW, hH] at NN
    rw [hW] at WW
    have LX : ∀ i : Nat, ((i : Int) + flI a0 mw) * (Mx : Int) < a2 ↔ i < W := fun i => by
      rw [← hMx, pow_cast, line_in, ← hW]; unfold bW; simp only; omega
    have LY : ∀ i : Nat, ((i : Int) + flI a1 mh) * (My : Int) < a3 ↔ i < H := fun i => by
      rw [← hMy, pow_cast, line_in, ← hH]; unfold bH; simp only; omega
    have W1 : 1 ≤ W ∧ W ≤ 1024 := by rw [← hW]; unfold bW; simp only; omega
    have H1 : 1 ≤ H ∧ H ≤ 1024 := by rw [← hH]; unfold bH; simp only; omega
    obtain ⟨X0, hX0⟩ : ∃ z, flI a0 mw = z := ⟨_, rfl⟩
    obtain ⟨Y0, hY0⟩ : ∃ z, flI a1 mh = z := ⟨_, rfl⟩
    have hf : ∀ (j i : Nat), i < W → rcL (blkR ⟨a0, a1, a2, a3⟩ mw mh (gridAt W (j * W + i))) = rcL (bothR ⟨a0, a1, a2, a3⟩ ⟨((i : Int) + X0) * (Mx : Int), ((j : Int) + Y0) * (My : Int), ((i : Int) + X0 + 1) * (Mx : Int), ((j : Int) + Y0 + 1) * (My : Int)⟩) := fun j i hi => by
      rw [gridAt_at hi]; unfold blkR; simp only; rw [hX0, hY0, ← pow_cast, ← pow_cast, hMx, hMy]
    rw [hX0] at LX tx0 S1
    rw [hY0] at LY ty0 S2
    obtain ⟨f, hff⟩ : ∃ f : Nat → List Value, (fun i => rcL (blkR ⟨a0, a1, a2, a3⟩ mw mh (gridAt W i))) = f := ⟨_, rfl⟩
    have hf' : ∀ (j i : Nat), i < W → f (j * W + i) = rcL (bothR ⟨a0, a1, a2, a3⟩ ⟨((i : Int) + X0) * (Mx : Int), ((j : Int) + Y0) * (My : Int), ((i : Int) + X0 + 1) * (Mx : Int), ((j : Int) + Y0 + 1) * (My : Int)⟩) := fun j i hi => by rw [← hff]; exact hf j i hi
    have hfl4 : ∀ k, (f k).length = 4 := fun k => by rw [← hff]; rfl
    have X0b : 0 ≤ X0 ∧ X0 ≤ 1024 := ⟨S1.1, S1.2.1⟩
    have Y0b : 0 ≤ Y0 ∧ Y0 ≤ 1024 := ⟨S2.1, S2.2.1⟩
    have HF := Lib.hid hf'
    have HFF := Lib.hid hff
    have HNN := Lib.hid NN
    have HWW := Lib.hid WW
    have HLX := Lib.hid LX
    have HLY := Lib.hid LY
    have HTX := Lib.hid tx0
    have HTY := Lib.hid ty0
    clear hf hf' hff NN WW LX LY hX0 hY0 hW hH hMx hMy heb he0 S1 S2 F1 F2 F3 F4 F5 F6 hmw hmh tx0 ty0 HFL
    go_wp2_with fail
    go_quiet (fail)
    try rw [sx]
    try rw [sy]
    generalize hV7 : World.drewN V6 _ = V7
    have x9 : V7.heap[D]? = some (.cells #[.int .i64 a0, .int .i64 a1, .int .i64 a2, .int .i64 a3] 53 (0, 0)) := by rw [← hV7]; exact x9
    have hb7 : Below q w0 V7 := by rw [← hV7]; exact below_drewN hb6 _
    have z7 : D + 1 ≤ V7.heap.size := by rw [← hV7]; exact z6
    have hqD : q ≤ D := by omega
    clear hV7 hb6 z6 r_0 r_1 p_3 p_4 x2' sx sy cx cy nx ny hm1 hm2 s2 ms1 hsn hcw hch hpr hk hr hkn hs4
    have HX9 := Lib.hid x9
    clear x9
    have r_1 : V7.cell? ⟨D, 1, none⟩ = some (.int .i64 a1) := cell_of_row _ _ 1 _ _ (0, 0) HX9.out
    have my0 : ¬ My = 0 := Nat.ne_of_gt My1.1
    have mx0 : ¬ Mx = 0 := Nat.ne_of_gt Mx1.1
    have wX0 : IntKind.i64.wrap X0 = X0 := wr (by omega)
    have wY0 : IntKind.i64.wrap Y0 = Y0 := wr (by omega)
    have ty0 := HTY.out
    go_wp2_with fail
    clear ty0 r_1
    generalize decide ((k : Int) < 0) = bk
    have hab : ((AR : Int) == 0) = false := by simp; exact hne
    try rw [hab]
    clear hab hne
    go_loopw [21, 22, 23] (fun l wd b wr => ∃ (j : Nat) (A : Option Addr) (c : Nat), j ≤ H ∧ b = .int .i64 ((j : Int) + Y0) ∧ wd = .int .i64 ((if j = 0 then 0 else W : Nat) : Int) ∧ l = .slice A (j * W) c ∧ OwnC wr (D + 1) 53 4 (.slice A (j * W) c) (j * W) f ∧ Below (D + 1) V7 wr) (fun _ _ b _ => H - (intOf b - Y0).toNat)
    case atStart => exact ⟨0, none, 0, Nat.zero_le _, by simp, rfl, by rw [Nat.zero_mul], by rw [Nat.zero_mul]; exact OwnC.nil_ _ _ _ _ _ hfl4, Below.refl _ _⟩
    case round =>
      obtain ⟨j, A, c, hj, rfl, rfl, rfl, own, hbel⟩ := hrel
      obtain ⟨wa, hwa⟩ : ∃ wa, wa = wr := ⟨_, rfl⟩
      subst hwa
      have xa := (hbel.block D (by omega)).trans HX9.out
      have r_0 : wa.cell? ⟨D, 0, none⟩ = some (.int .i64 a0) := cell_of_row _ _ 0 _ _ (0, 0) xa
      have r_3 : wa.cell? ⟨D, 3, none⟩ = some (.int .i64 a3) := cell_of_row _ _ 3 _ _ (0, 0) xa
      obtain ⟨bv, hbv⟩ : ∃ z, (j : Int) + Y0 = z := ⟨_, rfl⟩
      obtain ⟨jW, hjW⟩ : ∃ z, j * W = z := ⟨_, rfl⟩
      have jWb : jW ≤ 1048576 := by rw [← hjW]; exact Nat.le_trans (Nat.mul_le_mul hj W1.2) (by have := H1.2; omega)
      have hly := HLY.out j
      rw [hbv] at hly ⊢
      rw [hjW] at own ⊢
      have bvb : 0 ≤ bv ∧ bv ≤ 2048 := by omega
      obtain ⟨k1, k2, k3⟩ := mul_in bvb.1 bvb.2 (show (0 : Int) ≤ (My : Int) from Int.natCast_nonneg _) (show (My : Int) ≤ 32768 from Int.ofNat_le.2 My1.2) (by decide)
      obtain ⟨bm, hbm⟩ : ∃ z, bv * (My : Int) = z := ⟨_, rfl⟩
      rw [hbm] at k1 hly
      have HBV := Lib.hid hbv
      have HJW := Lib.hid hjW
      have HBM := Lib.hid hbm
      have OWN := Lib.hid own
      clear k2 k3 xa hbv hjW own
      by_cases hlt : j < H
      · have hlt' : bm < a3 := hly.2 hlt
        have tx0 := HTX.out
        clear hly
        go_wp2_with fail
        clear tx0 r_0 r_3 k1 hlt' hbm
        obtain ⟨bw, hbw⟩ : ∃ z, bv + 1 = z := ⟨_, rfl⟩
        have wbw : IntKind.i64.wrap (bv + 1) = bw := by rw [hbw]; exact wr (by omega)
        have HBW := Lib.hid hbw
        have bwb : 0 ≤ bw ∧ bw ≤ 2049 := by omega
        clear hbw
        go_loopw [21, 22, 24] (fun l wd a wr => ∃ (i : Nat) (A : Option Addr) (c : Nat), i ≤ W ∧ a = .int .i64 ((i : Int) + X0) ∧ wd = .int .i64 (i : Int) ∧ l = .slice A (jW + i) c ∧ OwnC wr (D + 1) 53 4 (.slice A (jW + i) c) (jW + i) f ∧ Below (D + 1) V7 wr) (fun _ _ a _ => W - (intOf a - X0).toNat)
        case atStart => exact ⟨0, A, c, Nat.zero_le _, by simp, rfl, rfl, OWN.out, hbel⟩
        case round =>
          clear OWN hbel
          obtain ⟨i, A, c, hi, rfl, rfl, rfl, own, hbel⟩ := hrel
          obtain ⟨wi, hwi⟩ : ∃ wi, wi = wr := ⟨_, rfl⟩
          subst hwi
          have xa := (hbel.block D (by omega)).trans HX9.out
          have r_0 : wi.cell? ⟨D, 0, none⟩ = some (.int .i64 a0) := cell_of_row _ _ 0 _ _ (0, 0) xa
          have r_1 : wi.cell? ⟨D, 1, none⟩ = some (.int .i64 a1) := cell_of_row _ _ 1 _ _ (0, 0) xa
          have r_2 : wi.cell? ⟨D, 2, none⟩ = some (.int .i64 a2) := cell_of_row _ _ 2 _ _ (0, 0) xa
          have r_3 : wi.cell? ⟨D, 3, none⟩ = some (.int .i64 a3) := cell_of_row _ _ 3 _ _ (0, 0) xa
          have hszi : D + 1 ≤ wi.heap.size := Nat.le_trans z7 hbel.size
          obtain ⟨av, hav⟩ : ∃ z, (i : Int) + X0 = z := ⟨_, rfl⟩
          obtain ⟨jWi, hjWi⟩ : ∃ z, jW + i = z := ⟨_, rfl⟩
          have jWib : jWi ≤ 1048576 + 1024 := by omega
          have hlx := HLX.out i
          rw [hav] at hlx ⊢
          rw [hjWi] at own ⊢
          have avb : 0 ≤ av ∧ av ≤ 2048 := by omega
          obtain ⟨k1, k2, k3⟩ := mul_in avb.1 avb.2 (show (0 : Int) ≤ (Mx : Int) from Int.natCast_nonneg _) (show (Mx : Int) ≤ 32768 from Int.ofNat_le.2 Mx1.2) (by decide)
          obtain ⟨am, ham⟩ : ∃ z, av * (Mx : Int) = z := ⟨_, rfl⟩
          rw [ham] at k1 hlx
          by_cases hli : i < W
          · have hli' : am < a2 := hlx.2 hli
            have jWib : jWi < 1048576 := by
              have h1 : j * W + i < H * W := by
                have : (j + 1) * W ≤ H * W := Nat.mul_le_mul_right _ hlt
                rw [Nat.add_mul, Nat.one_mul] at this
                omega
              have h2 : H * W ≤ 1024 * 1024 := Nat.mul_le_mul H1.2 W1.2
              rw [HJW.out] at h1
              omega
            obtain ⟨aw, haw⟩ : ∃ z, av + 1 = z := ⟨_, rfl⟩
            have waw : IntKind.i64.wrap (av + 1) = aw := by rw [haw]; exact wr (by omega)
            have awb : 0 ≤ aw ∧ aw ≤ 2049 := by omega
            obtain ⟨k4, k5, k6⟩ := mul_in awb.1 awb.2 (show (0 : Int) ≤ (Mx : Int) from Int.natCast_nonneg _) (show (Mx : Int) ≤ 32768 from Int.ofNat_le.2 Mx1.2) (by decide)
            obtain ⟨k7, k8, k9⟩ := mul_in bwb.1 bwb.2 (show (0 : Int) ≤ (My : Int) from Int.natCast_nonneg _) (show (My : Int) ≤ 32768 from Int.ofNat_le.2 My1.2) (by decide)
            obtain ⟨k10, k11, k12⟩ := mul_in bvb.1 bvb.2 (show (0 : Int) ≤ (My : Int) from Int.natCast_nonneg _) (show (My : Int) ≤ 32768 from Int.ofNat_le.2 My1.2) (by decide)
            have hfx := HF.out j i hli
            rw [HJW.out, hjWi, hav, HBV.out, haw, HBW.out, ham, HBM.out] at hfx
            rw [HBM.out] at k10
            have hbm := HBM.out
            obtain ⟨an, han⟩ : ∃ z, aw * (Mx : Int) = z := ⟨_, rfl⟩
            obtain ⟨bn, hbn⟩ : ∃ z, bw * (My : Int) = z := ⟨_, rfl⟩
            rw [han] at k4 hfx
            rw [hbn] at k7 hfx
            have HMT := meetR_any ⟨a0, a1, a2, a3⟩ ⟨am, bm, an, bn⟩ wi
            obtain ⟨R, hR⟩ : ∃ R, bothR ⟨a0, a1, a2, a3⟩ ⟨am, bm, an, bn⟩ = R := ⟨_, rfl⟩
            rw [hR] at HMT hfx
            obtain ⟨r0, r1, r2, r3⟩ := R
            unfold rcV at HMT
            simp only at HMT
            have HMT := Lib.hid HMT
            have HFX := Lib.hid hfx
            have HAW := Lib.hid haw
            have HAV := Lib.hid hav
            have HJI := Lib.hid hjWi
            have wi1 : IntKind.i64.wrap ((i : Int) + 1) = ((i + 1 : Nat) : Int) := by rw [show (i : Int) + 1 = ((i + 1 : Nat) : Int) by omega]; exact wr (by omega)
            clear k2 k3 k5 k6 k8 k9 k11 k12 hR hfx haw hav hjWi xa hlx
            go_wp2_with fail
            refine HMT.out.mono ?_
            rintro e' wm ⟨rfl, hm⟩
            have own' := own.below hm
            have hbm' := hbel.trans (hm.mono hszi)
            have hszm : D + 1 ≤ wm.heap.size := Nat.le_trans hszi hm.size
            clear r_0 r_1 r_2 r_3 own hbel hm HMT k1 k4 k7 k10 ham han hbn hbm
            have hcel : ∀ (k : Nat) (u : Value), (f jWi)[k]? = some u → (wm.alloc (.cells #[.int .i64 r0, .int .i64 r1, .int .i64 r2, .int .i64 r3] 53)).cell? ⟨wm.heap.size, k, none⟩ = some u := fun k u hk => by
              rw [HFX.out] at hk
              rw [cell_of_row _ _ _ _ _ (0, 0) (heap_alloc_new wm _)]
              simpa [rcL] using hk
            have HC := Lib.hid hcel
            clear hcel
            go_wp2_with (at_builtin; refine wpList_appC wm ((Below.refl _ _).alloc (Nat.le_refl _) _) (KeepsOthers.alloc _ _) rfl _ _ 49 rfl 53 4 rect_elem (D + 1) A jWi c f rfl own' wm.heap.size rfl HC.out (fun u hu => by rw [HFX.out] at hu; simp [rcL] at hu; rcases hu with rfl | rfl | rfl | rfl <;> rfl) (by omega) hszm ?_; intro g1 cap1 w5 o5 st5 lt5)
            have hb5 := hbm'.trans st5.below
            go_roundw
            case rel => exact ⟨i + 1, _, cap1, by omega, by rw [show (((i + 1 : Nat) : Int)) + X0 = aw by have := HAW.out; have := HAV.out; omega], rfl, by rw [show jW + (i + 1) = jWi + 1 by have := HJI.out; omega], by rw [show jW + (i + 1) = jWi + 1 by have := HJI.out; omega]; exact o5, hb5⟩
            case measure => have := HAW.out; have := HAV.out; simp [intOf]; omega
          · obtain rfl : i = W := by omega
            have hli' : ¬ am < a2 := fun h => hli (hlx.1 h)
            have hz : jWi = (j + 1) * i := by rw [← hjWi, ← HJW.out, Nat.add_mul, Nat.one_mul]
            have HZ := Lib.hid hz
            clear hlx hz k2 k3 hjWi hav xa
            go_wp2_with fail
            go_roundw
            case rel => exact ⟨j + 1, A, c, by omega, by rw [show (((j + 1 : Nat) : Int)) + Y0 = bw by have := HBW.out; have := HBV.out; omega], by rw [if_neg (by omega)], by rw [HZ.out], by rw [← HZ.out]; exact own, hbel⟩
            case measure => have := HBW.out; have := HBV.out; simp [intOf]; omega
      · obtain rfl : j = H := by omega
        have hlt' : ¬ bm < a3 := fun h => hlt (hly.1 h)
        clear hly
        have hbw := hb7.trans (hbel.mono (by omega))
        have hj0 : ¬ j = 0 := by omega
        go_wp2_with fail
        refine bodyPost_ret (v := .tuple #[.slice A jW c, .int .i64 (W : Int)]) (by simp [results, Try.results32, go_sem, hj0]) rfl ?_
        rw [HMW.out, HMH.out, HNN.out, HWW.out, HFF.out, Nat.mul_comm W j, HJW.out]
        exact ⟨A, c, rfl, OWN.out.mono (by omega), by first | exact hbw | (rw [hq]; exact hbw)⟩
end Go.Proofs.Ytmieoifagnpbiaa
