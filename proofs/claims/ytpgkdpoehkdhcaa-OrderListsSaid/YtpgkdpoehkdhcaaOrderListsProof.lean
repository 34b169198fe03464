/-
  THE LAW 'waveletlaw16.OrderLists', for every input the call answers true and leaves its arguments as they were; no condition beyond those of the row itself.
  The frame is modelled on those that the kit's proof-skeleton writes; the walk is ours.
-/
import Derived.Test.YtpgkdpoehkdhcaaRfPA
import Derived.Deep.LoopGhost
import Derived.Deep.CutBlock
import Derived.Test.YtpgkdpoehkdhcaaRTiles
import Derived.Test.YtpgkdpoehkdhcaaRows
import Derived.Test.YtpgkdpoehkdhcaaForm
import Derived.Test.YtpgkdpoehkdhcaaMem
import Derived.WalkKit
import Derived.ProofKit
import Derived.OpenShut
import Derived.ShutString
import Derived.ChangeOld
import Derived.Below
import Derived.Lib.SmallJoins
namespace Go.Proofs.Ytpgkdpoehkdhcaa
open Go.RowKit
attribute [local go_sem] opv opnd
set_option maxHeartbeats 40000000
set_option linter.unusedVariables false
set_option linter.unusedSimpArgs false
set_option maxRecDepth 1000000

theorem five_elem : ElemC Try.prog 74 77 5 := elemC_of (.agg #[.int .i64 0, .int .i64 0, .int .i64 0, .int .i64 0, .int .i64 0]) 40 (by kernel_rfl) rfl (by omega) (by omega) Try.underlying74
theorem OrdQ.s2_len (q : OrdQ) (h : q.Ok) {c : Nat} (hc : c < q.n) : ∀ m, (q.s2 c m).length ≤ m * 4225
  | 0 => by unfold OrdQ.s2; simp
  | m + 1 => by
    rw [q.s2_succ, List.length_append, q.s3_len]
    have h1 := q.s2_len h hc m
    have h2 := (q.wh h (r := m) (c := c) hc).wb
    have h3 : q.w m c * q.h m c ≤ 65 * 65 := Nat.mul_le_mul h2.1 h2.2
    omega
theorem OrdQ.s1_len (q : OrdQ) (h : q.Ok) : ∀ m, m ≤ q.n → (q.s1 m).length ≤ m * 25350
  | 0, _ => by unfold OrdQ.s1; simp
  | m + 1, hm => by
    rw [q.s1_succ, List.length_append]
    have h1 := q.s1_len h m (by omega)
    have h2 := q.s2_len h (c := m) (by omega) (q.lv + 1)
    have := h.lv
    omega
theorem rspots_any (Q : OrdQ) (hQ : Q.Ok) (X Y Ox Oy : Int) (IA : Option Addr) (n ic : Nat) (F : Nat → CompD) (Tx Ty Cw Ch St : Int) (rct sop eph : Bool) (x0 y0 x1 y1 lv pr od ly : Nat)
    (eQ : Q.x0 = x0 ∧ Q.y0 = y0 ∧ Q.x1 = x1 ∧ Q.y1 = y1 ∧ Q.lv = lv ∧ Q.pr = pr ∧ Q.od = od ∧ Q.ly = ly ∧ Q.n = n) (hF : ∀ k, k < n → (F k).dx = (Q.dx k : Int) ∧ (F k).dy = (Q.dy k : Int))
    (w : World) (ha : CompsAt w w.heap.size IA n F) :
    Calls Try.prog 33 #[.agg #[.int .i64 (x0 : Int), .int .i64 (y0 : Int), .int .i64 (x1 : Int), .int .i64 (y1 : Int)], .agg #[.int .i64 X, .int .i64 Y, .int .i64 Ox, .int .i64 Oy, .slice IA n ic], .agg #[.int .i64 Tx, .int .i64 Ty, .int .i64 (lv : Int), .int .i64 Cw, .int .i64 Ch, .int .i64 (pr : Int), .int .i64 St, .int .i64 (od : Int), .int .i64 (ly : Int), .bool rct, .bool sop, .bool eph]] w fun e w' => ∃ (A : Option Addr) (c : Nat), e = .returned (.slice A (Q.s1 n).length c) ∧ OwnC w' w.heap.size 77 5 (.slice A (Q.s1 n).length c) (Q.s1 n).length (rowF (Q.s1 n)) ∧ Below w.heap.size w w' := by
  obtain ⟨q, hq⟩ : ∃ q, w.heap.size = q := ⟨_, rfl⟩
  rw [hq] at ha
  have HA := Lib.hid ha
  have HFD := Lib.hid hF
  have HEQ := Lib.hid eQ
  have HQ := Lib.hid hQ
  have hlv : lv ≤ 5 := by have := hQ.lv; omega
  have hpr : pr ≤ 15 := by have := hQ.pr; omega
  have hn16 : n ≤ 4 := by have := hQ.n; omega
  have htt : x0 ≤ 64 ∧ y0 ≤ 64 ∧ x1 ≤ 64 ∧ y1 ≤ 64 := by have := hQ.t; omega
  obtain ⟨nn, hnn⟩ : ∃ z, 2 ^ pr = z := ⟨_, rfl⟩
  have hnb : 1 ≤ nn ∧ nn ≤ 32768 := ⟨by rw [← hnn]; exact Nat.one_le_two_pow, by rw [← hnn]; exact Nat.le_trans (show 2 ^ pr ≤ 2 ^ 15 from Nat.pow_le_pow_right (by omega) hpr) (by decide)⟩
  have HNN := Lib.hid hnn
  have HS1 := Lib.hid (show IntKind.i64.wrap (2 ^ pr) = (nn : Int) ∧ wrap64 (2 ^ pr) = (nn : Int) by
    rw [show (2 : Int) ^ pr = ((2 ^ pr : Nat) : Int) by simp, hnn]
    exact ⟨by rw [IntKind.wrap_i64]; omega, IntWalk.wrap64_in _ (by omega)⟩)
  clear ha hF eQ hQ hnn
  go_enter Try.func33, Try.ntmps33
  go_upto_region 1 with fail
  generalize hW0 : World.alloc (World.alloc (World.alloc w _) _) _ = W0
  have rt0 : W0.heap[q]? = some (.cells #[.int .i64 (x0 : Int), .int .i64 (y0 : Int), .int .i64 (x1 : Int), .int .i64 (y1 : Int)] 38 (0, 0)) := by rw [← hW0, ← hq]; exact (Below.heap_alloc _ _ _ (by simp; omega)).trans ((Below.heap_alloc _ _ _ (by simp)).trans (heap_alloc_new w _))
  have rm0 : W0.heap[q + 1]? = some (.cells #[.int .i64 X, .int .i64 Y, .int .i64 Ox, .int .i64 Oy, .slice IA n ic] 28 (0, 0)) := by rw [← hW0, ← hq]; exact (Below.heap_alloc _ _ _ (by simp)).trans (heap_alloc_new2 w _ _)
  have rp0 : W0.heap[q + 2]? = some (.cells #[.int .i64 Tx, .int .i64 Ty, .int .i64 (lv : Int), .int .i64 Cw, .int .i64 Ch, .int .i64 (pr : Int), .int .i64 St, .int .i64 (od : Int), .int .i64 (ly : Int), .bool rct, .bool sop, .bool eph] 30 (0, 0)) := by rw [← hW0, ← hq]; exact (by simpa using heap_alloc_new (World.alloc (World.alloc w _) _) _)
  have z0 : W0.heap.size = q + 3 := by rw [← hW0, ← hq]; simp
  have b0 : Below q w W0 := by rw [← hW0, ← hq]; exact below_alloc (below_alloc (below_alloc (Below.refl _ _) _) _) _
  clear hW0
  have HR0 := Lib.hid (And.intro rt0 (And.intro rm0 rp0))
  have HB0 := Lib.hid b0
  clear rt0 rm0 rp0 b0
  obtain ⟨B, hB⟩ : ∃ z, q + 3 = z := ⟨_, rfl⟩
  go_wp2_with fail
  go_loopg [7, 8] n (fun kx s7 s8 wr => ∃ (cm m : Nat) (L : List Spot) (A : Option Addr) (c : Nat), s7 = .slice A m c ∧ s8 = .int .i64 (cm : Int) ∧ cm ≤ n ∧ n - cm ≤ kx ∧ Hid (L.length = m) ∧ Hid (L = Q.s1 cm) ∧ Hid (OwnC wr B 77 5 (.slice A m c) m (rowF L)) ∧ Hid (Below B W0 wr))
  case atStart => exact ⟨0, 0, [], none, 0, rfl, rfl, by omega, by omega, Lib.hid rfl, Lib.hid rfl, Lib.hid (OwnC.nil_ _ _ _ _ _ (fun k => rfl)), Lib.hid (Below.refl _ _)⟩
  case round =>
    obtain ⟨cm, m, L, A, c, rfl, rfl, hcm, hkx, HLN, HL, HO, HB⟩ := hrel
    have mc4 : wr.cell? ⟨q + 1, 4, none⟩ = some (.slice IA n ic) := cell_of_row _ _ 4 _ _ (0, 0) ((HB.out.block (q + 1) (by omega)).trans HR0.out.2.1)
    by_cases hlt : cm < n
    · have hltz : (cm : Int) < (n : Int) := by omega
      obtain ⟨ig, io, hIA, hbc, hcells⟩ := ((HA.out.below HB0.out).below (HB.out.mono (show q ≤ B by omega))) (by omega)
      obtain ⟨k0, k1, k2, k3, k4⟩ := hcells cm hlt
      rw [(HFD.out cm hlt).1] at k2
      rw [(HFD.out cm hlt).2] at k3
      clear hcells hbc
      have hdd := HQ.out.d cm (by have h7 := HEQ.out; omega)
      obtain ⟨DX, hDX⟩ : ∃ z, Q.dx cm = z := ⟨_, rfl⟩
      obtain ⟨DY, hDY⟩ : ∃ z, Q.dy cm = z := ⟨_, rfl⟩
      rw [hDX] at k2
      rw [hDY] at k3
      rw [hDX, hDY] at hdd
      have HDD := Lib.hid (And.intro hDX hDY)
      clear hDX hDY
      generalize (F cm).dp = DP at k0
      generalize (F cm).sg = SG at k1
      generalize (F cm).A = DA at k4
      generalize (F cm).n = DN at k4
      generalize (F cm).c = DC at k4
      subst hIA
      go_upto_region 6 with fail
      clear k0 k1 k2 k3 k4 mc4
      obtain ⟨cb, hcb⟩ : ∃ z, wr.heap.size = z := ⟨_, rfl⟩
      generalize hWc : World.alloc wr _ = Wc
      have rc : Wc.heap[cb]? = some (.cells #[.int .i64 DP, .bool SG, .int .i64 (DX : Int), .int .i64 (DY : Int), .slice DA DN DC] 48 (0, 0)) := by rw [← hWc, ← hcb]; exact heap_alloc_new wr _
      have hbw : Below wr.heap.size wr Wc := by rw [← hWc]; exact below_alloc (Below.refl _ _) _
      have zc : Wc.heap.size = cb + 1 := by rw [← hWc, ← hcb]; simp
      have zB : B ≤ cb := by have := HB.out.size; omega
      clear hWc
      have HBc := Lib.hid (HB.out.trans (hbw.mono (by omega)))
      have HOc := Lib.hid (HO.out.below hbw)
      rw [hcb]
      clear hbw HB HO hcb
      have rt := (HBc.out.block q (by omega)).trans HR0.out.1
      have cc2 : Wc.cell? ⟨cb, 2, none⟩ = some (.int .i64 (DX : Int)) := cell_of_row _ _ 2 _ _ (0, 0) rc
      have cc3 : Wc.cell? ⟨cb, 3, none⟩ = some (.int .i64 (DY : Int)) := cell_of_row _ _ 3 _ _ (0, 0) rc
      have hb1 : byN x0 DX ≤ 64 := Nat.le_trans (byN_le hdd.1) (by omega)
      have hb2 : byN y0 DY ≤ 64 := Nat.le_trans (byN_le hdd.2.2.1) (by omega)
      have hb3 : byN x1 DX ≤ 64 := Nat.le_trans (byN_le hdd.1) (by omega)
      have hb4 : byN y1 DY ≤ 64 := Nat.le_trans (byN_le hdd.2.2.1) (by omega)
      have HPt := Lib.hid (fun V : World => by
        have := partR_any ⟨(x0 : Nat), (y0 : Nat), (x1 : Nat), (y1 : Nat)⟩ DX DY (by simp only; omega) (by simp only; omega) (by simp only; omega) (by simp only; omega) (by omega) (by omega) V
        simp only [clI_nat _ _ hdd.1, clI_nat _ _ hdd.2.2.1] at this
        exact this)
      unfold rcV at HPt
      simp only at HPt
      have HRes := Lib.hid (show ∀ r, r ≤ lv → resR ⟨(byN x0 DX : Nat), (byN y0 DY : Nat), (byN x1 DX : Nat), (byN y1 DY : Nat)⟩ (lv - r) = ⟨(ceN x0 DX (lv - r) : Nat), (ceN y0 DY (lv - r) : Nat), (ceN x1 DX (lv - r) : Nat), (ceN y1 DY (lv - r) : Nat)⟩ ∧ (ceN x0 DX (lv - r) ≤ 64 ∧ ceN y0 DY (lv - r) ≤ 64 ∧ ceN x1 DX (lv - r) ≤ 64 ∧ ceN y1 DY (lv - r) ≤ 64) ∧ (preW ⟨(ceN x0 DX (lv - r) : Nat), (ceN y0 DY (lv - r) : Nat), (ceN x1 DX (lv - r) : Nat), (ceN y1 DY (lv - r) : Nat)⟩ pr = (Q.w r cm : Nat) ∧ preH ⟨(ceN x0 DX (lv - r) : Nat), (ceN y0 DY (lv - r) : Nat), (ceN x1 DX (lv - r) : Nat), (ceN y1 DY (lv - r) : Nat)⟩ pr = (Q.h r cm : Nat)) ∧ (Q.w r cm ≤ 65 ∧ Q.h r cm ≤ 65) ∧ ∀ k, Q.sp 0 r cm k = spotK x0 y0 (ceN x0 DX (lv - r)) (ceN y0 DY (lv - r)) (Q.w r cm) pr (pr + lv - r) DX DY r cm k from fun r hr => by
        have h7 := HEQ.out
        have h8 := Q.wh HQ.out (r := r) (c := cm) (by omega)
        have hrs := h8.rs
        have hbd := h8.bd
        have hw := h8.w
        have hh := h8.h
        rw [h7.1, h7.2.1, h7.2.2.1, h7.2.2.2.1, h7.2.2.2.2.1, HDD.out.1, HDD.out.2] at hrs hbd hw hh
        rw [h7.2.2.2.2.2.1] at hw hh
        refine ⟨hrs, hbd, ⟨hw, hh⟩, h8.wb, fun k => ?_⟩
        unfold OrdQ.sp
        rw [h7.1, h7.2.1, h7.2.2.2.2.1, h7.2.2.2.2.2.1, HDD.out.1, HDD.out.2]
        rfl)
      generalize byN x0 DX = P0 at *
      generalize byN y0 DY = P1 at *
      generalize byN x1 DX = P2 at *
      generalize byN y1 DY = P3 at *
      refine wp_region_lit ?_
      refine wpList_loadRow rfl rfl (by kernel_rfl) rt (by kernel_rfl) (by kernel_rfl) ?_
      go_wp2_with fail
      refine (HPt.out Wc).mono ?_
      rintro e' Wd ⟨rfl, hd⟩
      go_upto_region 7 with fail
      clear cc2 cc3
      obtain ⟨pb, hpb⟩ : ∃ z, Wd.heap.size = z := ⟨_, rfl⟩
      generalize hWe : World.alloc Wd _ = We
      have rp : We.heap[pb]? = some (.cells #[.int .i64 (P0 : Int), .int .i64 (P1 : Int), .int .i64 (P2 : Int), .int .i64 (P3 : Int)] 38 (0, 0)) := by rw [← hWe, ← hpb]; exact heap_alloc_new Wd _
      have hbe : Below Wd.heap.size Wd We := by rw [← hWe]; exact below_alloc (Below.refl _ _) _
      have ze : We.heap.size = pb + 1 := by rw [← hWe, ← hpb]; simp
      have zpb : cb + 1 ≤ pb := by have := hd.size; omega
      clear hWe
      have hce := hd.trans (hbe.mono hd.size)
      have HBe := Lib.hid (HBc.out.trans (hce.mono (by omega)))
      have HOe := Lib.hid (HOc.out.below hce)
      have HRC := Lib.hid (And.intro rp ((hce.block cb (by omega)).trans rc))
      rw [hpb]
      clear hd hbe hce rc rp rt HBc HOc HPt hpb
      go_wp2_with fail
      go_loopg [7, 11] (lv + 1) (fun ky s7 s11 wr => ∃ (r m : Nat) (L : List Spot) (A : Option Addr) (c : Nat), s7 = .slice A m c ∧ s11 = .int .i64 (r : Int) ∧ r ≤ lv + 1 ∧ lv + 1 - r ≤ ky ∧ Hid (L.length = m) ∧ Hid (L = Q.s1 cm ++ Q.s2 cm r) ∧ Hid (OwnC wr B 77 5 (.slice A m c) m (rowF L)) ∧ Hid (Below B W0 wr ∧ wr.heap[pb]? = some (.cells #[.int .i64 (P0 : Int), .int .i64 (P1 : Int), .int .i64 (P2 : Int), .int .i64 (P3 : Int)] 38 (0, 0)) ∧ wr.heap[cb]? = some (.cells #[.int .i64 DP, .bool SG, .int .i64 (DX : Int), .int .i64 (DY : Int), .slice DA DN DC] 48 (0, 0)) ∧ pb + 1 ≤ wr.heap.size))
      case atStart => exact ⟨0, m, L, A, c, rfl, rfl, by omega, by omega, HLN, Lib.hid (by rw [HL.out]; unfold OrdQ.s2; simp), HOe, Lib.hid ⟨HBe.out, HRC.out.1, HRC.out.2, by omega⟩⟩
      case round =>
        clear HLN HL HOe HBe
        obtain ⟨r, m, L, A, c, rfl, rfl, hr, hky, HLN, HL, HO, HB⟩ := hrel
        have rp2 := (HB.out.1.block (q + 2) (by omega)).trans HR0.out.2.2
        have pc2 : wr.cell? ⟨q + 2, 2, none⟩ = some (.int .i64 (lv : Int)) := cell_of_row _ _ 2 _ _ (0, 0) rp2
        by_cases hle : r ≤ lv
        · have hlez : (r : Int) ≤ (lv : Int) := by omega
          obtain ⟨h_res, h_bd, h_wh, h_wb, h_sp⟩ := HRes.out r hle
          obtain ⟨kk, hkk⟩ : ∃ z, lv - r = z := ⟨_, rfl⟩
          rw [hkk] at h_res h_bd h_wh h_sp
          have HSP := Lib.hid h_sp
          clear h_sp
          have HQR := Lib.hid (resolutionR_any ⟨(P0 : Nat), (P1 : Nat), (P2 : Nat), (P3 : Nat)⟩ lv r kk (by omega) (by omega) (by omega) (by unfold okR; simp only; omega))
          rw [h_res] at HQR
          have HPc := Lib.hid (precinctsR_any ⟨(ceN x0 DX kk : Nat), (ceN y0 DY kk : Nat), (ceN x1 DX kk : Nat), (ceN y1 DY kk : Nat)⟩ pr (by omega) (by unfold okR; simp only; omega) (by unfold placeR; simp only; omega) (by unfold midR; simp only; omega))
          rw [h_wh.1, h_wh.2] at HPc
          unfold rcV at HQR HPc
          simp only at HQR HPc
          clear h_res h_wh
          generalize ceN x0 DX kk = R0 at *
          generalize ceN y0 DY kk = R1 at *
          generalize ceN x1 DX kk = R2 at *
          generalize ceN y1 DY kk = R3 at *
          obtain ⟨WW, hWW⟩ : ∃ z, Q.w r cm = z := ⟨_, rfl⟩
          obtain ⟨HH, hHH⟩ : ∃ z, Q.h r cm = z := ⟨_, rfl⟩
          rw [hWW, hHH] at HPc h_wb
          rw [hWW] at HSP
          obtain ⟨NW, hNW⟩ : ∃ z, WW * HH = z := ⟨_, rfl⟩
          have hNWb : NW ≤ 4225 := by rw [← hNW]; exact Nat.mul_le_mul h_wb.1 h_wb.2
          have HNW := Lib.hid (And.intro (show Q.w r cm * Q.h r cm = NW by rw [hWW, hHH]; exact hNW) hNW)
          have WM1 := Lib.hid (show IntKind.i64.wrap ((WW : Int) * (HH : Int)) = (NW : Int) by rw [← Int.natCast_mul, hNW, IntKind.wrap_i64]; omega)
          clear hWW hHH hNW
          obtain ⟨st, hst⟩ : ∃ z, nn * 2 ^ kk = z := ⟨_, rfl⟩
          have hkb : 2 ^ kk ≤ 32 := Nat.le_trans (show 2 ^ kk ≤ 2 ^ 5 from Nat.pow_le_pow_right (by omega) (by omega)) (by decide)
          have hstb : st ≤ 32768 * 32 := by rw [← hst]; exact Nat.mul_le_mul hnb.2 hkb
          have HS2 := Lib.hid (show IntKind.i64.wrap ((nn : Int) * 2 ^ kk) = (st : Int) ∧ wrap64 ((nn : Int) * 2 ^ kk) = (st : Int) by
            rw [show (nn : Int) * 2 ^ kk = ((nn * 2 ^ kk : Nat) : Int) by rw [Int.natCast_mul, Int.natCast_pow]; rfl, hst]
            exact ⟨by rw [IntKind.wrap_i64]; omega, IntWalk.wrap64_in _ (by omega)⟩)
          have HST := Lib.hid (show st = 2 ^ (pr + lv - r) by rw [← hst, ← HNN.out, ← Nat.pow_add]; congr 1; omega)
          have HKK := Lib.hid (show (lv : Int) - r = (kk : Int) by omega)
          clear hst hkb hkk
          have rpb := HB.out.2.1
          have zw : pb + 1 ≤ wr.heap.size := HB.out.2.2.2
          go_upto_region 10 with fail
          refine wp_region_lit ?_
          refine wpList_loadRow rfl rfl (by kernel_rfl) rpb (by kernel_rfl) (by kernel_rfl) ?_
          go_wp2_with fail
          refine (HQR.out wr).mono ?_
          rintro e' Wf ⟨rfl, hf⟩
          go_upto_region 11 with fail
          clear pc2
          obtain ⟨qb, hqb⟩ : ∃ z, Wf.heap.size = z := ⟨_, rfl⟩
          generalize hWg : World.alloc Wf _ = Wg
          have rq : Wg.heap[qb]? = some (.cells #[.int .i64 (R0 : Int), .int .i64 (R1 : Int), .int .i64 (R2 : Int), .int .i64 (R3 : Int)] 38 (0, 0)) := by rw [← hWg, ← hqb]; exact heap_alloc_new Wf _
          have hbg : Below Wf.heap.size Wf Wg := by rw [← hWg]; exact below_alloc (Below.refl _ _) _
          have zg : Wg.heap.size = qb + 1 := by rw [← hWg, ← hqb]; simp
          have zqb : pb + 1 ≤ qb := by have := hf.size; omega
          clear hWg
          have hfg := hf.trans (hbg.mono hf.size)
          rw [hqb]
          clear hf hbg hqb rpb
          have rp3 := (hfg.block (q + 2) (by omega)).trans rp2
          have pc5 : Wg.cell? ⟨q + 2, 5, none⟩ = some (.int .i64 (pr : Int)) := cell_of_row _ _ 5 _ _ (0, 0) rp3
          refine wp_region_lit ?_
          refine wpList_loadRow rfl rfl (by kernel_rfl) rq (by kernel_rfl) (by kernel_rfl) ?_
          go_wp2_with fail
          refine (HPc.out Wg).mono ?_
          rintro e' Wh ⟨rfl, hh⟩
          have rp4 := (hh.block (q + 2) (by omega)).trans rp3
          have pc5' : Wh.cell? ⟨q + 2, 5, none⟩ = some (.int .i64 (pr : Int)) := cell_of_row _ _ 5 _ _ (0, 0) rp4
          have pc2' : Wh.cell? ⟨q + 2, 2, none⟩ = some (.int .i64 (lv : Int)) := cell_of_row _ _ 2 _ _ (0, 0) rp4
          clear pc5
          have hgh := hfg.trans (hh.mono hfg.size)
          have HRQ := Lib.hid ((hh.block qb (by omega)).trans rq)
          have HBh := Lib.hid (And.intro (HB.out.1.trans (hgh.mono (show B ≤ wr.heap.size by omega))) (And.intro ((hgh.block pb (by omega)).trans HB.out.2.1) ((hgh.block cb (by omega)).trans HB.out.2.2.1)))
          have HOh := Lib.hid (HO.out.below hgh)
          have zh : qb + 1 ≤ Wh.heap.size := by have := hh.size; omega
          clear hfg hh hgh rp2 rp3 rp4 rq HB HO HQR HPc
          have S1 := HS1.out.1
          have S1' := HS1.out.2
          have S2 := HS2.out.1
          have S2' := HS2.out.2
          have SK := HKK.out
          have hkk5 : kk ≤ 5 := by omega
          go_upto_region 14 with fail
          clear S1 S1' S2 S2' SK pc5' pc2'
          have WM := WM1.out
          go_wp2_with fail
          clear WM
          go_loopg [7, 17] NW (fun kz s7 s17 wr => ∃ (k m : Nat) (L : List Spot) (A : Option Addr) (c : Nat), s7 = .slice A m c ∧ s17 = .int .i64 (k : Int) ∧ k ≤ NW ∧ NW - k ≤ kz ∧ Hid (L.length = m) ∧ Hid (L = Q.s1 cm ++ Q.s2 cm r ++ Q.s3 cm r k) ∧ Hid (OwnC wr B 77 5 (.slice A m c) m (rowF L)) ∧ Hid (Below B W0 wr ∧ wr.heap[pb]? = some (.cells #[.int .i64 (P0 : Int), .int .i64 (P1 : Int), .int .i64 (P2 : Int), .int .i64 (P3 : Int)] 38 (0, 0)) ∧ wr.heap[cb]? = some (.cells #[.int .i64 DP, .bool SG, .int .i64 (DX : Int), .int .i64 (DY : Int), .slice DA DN DC] 48 (0, 0)) ∧ wr.heap[qb]? = some (.cells #[.int .i64 (R0 : Int), .int .i64 (R1 : Int), .int .i64 (R2 : Int), .int .i64 (R3 : Int)] 38 (0, 0)) ∧ qb + 1 ≤ wr.heap.size))
          case atStart => exact ⟨0, m, L, A, c, rfl, rfl, by omega, by omega, HLN, Lib.hid (by rw [HL.out]; unfold OrdQ.s3; simp), HOh, Lib.hid ⟨HBh.out.1, HBh.out.2.1, HBh.out.2.2, HRQ.out, zh⟩⟩
          case round =>
            clear HLN HL HOh HBh HRQ
            obtain ⟨k, m, L, A, c, rfl, rfl, hk, hkz, HLN, HL, HO, HB⟩ := hrel
            have WM := WM1.out
            by_cases hlk : k < NW
            · have hlkz : (k : Int) < (NW : Int) := by omega
              have hW0 : 0 < WW := by
                have h7 := HNW.out.2
                rcases Nat.eq_zero_or_pos WW with h0 | h0
                · rw [h0, Nat.zero_mul] at h7; omega
                · exact h0
              obtain ⟨fx, hfx⟩ : ∃ z, R0 / nn = z := ⟨_, rfl⟩
              obtain ⟨fy, hfy⟩ : ∃ z, R1 / nn = z := ⟨_, rfl⟩
              obtain ⟨km, hkm⟩ : ∃ z, k % WW = z := ⟨_, rfl⟩
              obtain ⟨kd, hkd⟩ : ∃ z, k / WW = z := ⟨_, rfl⟩
              obtain ⟨xq, hxq⟩ : ∃ z, fx + km = z := ⟨_, rfl⟩
              obtain ⟨yq, hyq⟩ : ∃ z, fy + kd = z := ⟨_, rfl⟩
              have b1 : fx ≤ 64 := by rw [← hfx]; exact Nat.le_trans (Nat.div_le_self _ _) h_bd.1
              have b2 : fy ≤ 64 := by rw [← hfy]; exact Nat.le_trans (Nat.div_le_self _ _) h_bd.2.1
              have b3 : km < WW := by rw [← hkm]; exact Nat.mod_lt _ hW0
              have b4 : kd ≤ 4225 := by rw [← hkd]; exact Nat.le_trans (Nat.div_le_self _ _) (by omega)
              have Z1 := Lib.hid (show Int.tdiv (R0 : Int) (nn : Int) = (fx : Int) by rw [← hfx]; rfl)
              have Z2 := Lib.hid (show Int.tdiv (R1 : Int) (nn : Int) = (fy : Int) by rw [← hfy]; rfl)
              have Z3 := Lib.hid (show Int.tmod (k : Int) (WW : Int) = (km : Int) by rw [← hkm]; rfl)
              have Z4 := Lib.hid (show Int.tdiv (k : Int) (WW : Int) = (kd : Int) by rw [← hkd]; rfl)
              have Z5 := Lib.hid (wrap_add hxq (by omega))
              have Z6 := Lib.hid (wrap_add hyq (by omega))
              have Z7 := Lib.hid (show ¬ nn = 0 by omega)
              have Z8 := Lib.hid (show ¬ WW = 0 by omega)
              have Z16 := Lib.hid (show IntKind.i64.wrap (kd : Int) = (kd : Int) by rw [IntKind.wrap_i64]; omega)
              have Z17 := Lib.hid (show IntKind.i64.wrap (fx : Int) = (fx : Int) by rw [IntKind.wrap_i64]; omega)
              have Z18 := Lib.hid (show IntKind.i64.wrap (fy : Int) = (fy : Int) by rw [IntKind.wrap_i64]; omega)
              obtain ⟨sx, hsx⟩ : ∃ z, st * DX = z := ⟨_, rfl⟩
              obtain ⟨sy, hsy⟩ : ∃ z, st * DY = z := ⟨_, rfl⟩
              have b5 : sx ≤ 32768 * 32 * 3 := by rw [← hsx]; exact Nat.mul_le_mul hstb hdd.2.1
              have b6 : sy ≤ 32768 * 32 * 3 := by rw [← hsy]; exact Nat.mul_le_mul hstb hdd.2.2.2
              obtain ⟨xm, hxm⟩ : ∃ z, sx * xq = z := ⟨_, rfl⟩
              obtain ⟨ym, hym⟩ : ∃ z, sy * yq = z := ⟨_, rfl⟩
              have b7 : xm ≤ 32768 * 32 * 3 * 129 := by rw [← hxm]; exact Nat.mul_le_mul b5 (by omega)
              have b8 : ym ≤ 32768 * 32 * 3 * 4289 := by rw [← hym]; exact Nat.mul_le_mul b6 (by omega)
              have Z9 := Lib.hid (show IntKind.i64.wrap ((st : Int) * (DX : Int)) = (sx : Int) by rw [← Int.natCast_mul, hsx, IntKind.wrap_i64]; omega)
              have Z10 := Lib.hid (show IntKind.i64.wrap ((st : Int) * (DY : Int)) = (sy : Int) by rw [← Int.natCast_mul, hsy, IntKind.wrap_i64]; omega)
              have Z11 := Lib.hid (show IntKind.i64.wrap ((sx : Int) * (xq : Int)) = (xm : Int) by rw [← Int.natCast_mul, hxm, IntKind.wrap_i64]; omega)
              have Z12 := Lib.hid (show IntKind.i64.wrap ((sy : Int) * (yq : Int)) = (ym : Int) by rw [← Int.natCast_mul, hym, IntKind.wrap_i64]; omega)
              obtain ⟨mx, hmx⟩ : ∃ z, (if x0 < xm then (xm : Int) else (x0 : Int)) = z := ⟨_, rfl⟩
              obtain ⟨my, hmy⟩ : ∃ z, (if y0 < ym then (ym : Int) else (y0 : Int)) = z := ⟨_, rfl⟩
              have Z14 := Lib.hid hmx
              have Z15 := Lib.hid hmy
              obtain ⟨x, hx⟩ : ∃ x : Spot, x = Q.sp 0 r cm k := ⟨_, rfl⟩
              have HX := Lib.hid (show x = Q.sp 0 r cm k ∧ fiveL x = [.int .i64 (r : Int), .int .i64 (cm : Int), .int .i64 (k : Int), .int .i64 mx, .int .i64 my] from ⟨hx, by
                have e1 : xq * st * DX = xm := by rw [← hxm, ← hsx, Nat.mul_comm (st * DX) xq, ← Nat.mul_assoc]
                have e2 : yq * st * DY = ym := by rw [← hym, ← hsy, Nat.mul_comm (st * DY) yq, ← Nat.mul_assoc]
                rw [hx, HSP.out]
                unfold spotK placeI
                rw [← HST.out, HNN.out, hfx, hfy, hkm, hkd, hxq, hyq, e1, e2]
                unfold mxI
                simp only [Int.ofNat_lt]
                rw [hmx, hmy]
                rfl⟩)
              have HOf := Lib.hid (HO.out.congr (g := rowF (L ++ [x])) (fun _ => rfl) (fun z hz2 => by rw [rowF_lt L [x] (by rw [HLN.out]; exact hz2)]))
              have HF5 := Lib.hid (show rowF (L ++ [x]) m = [.int .i64 (r : Int), .int .i64 (cm : Int), .int .i64 (k : Int), .int .i64 mx, .int .i64 my] by rw [← HLN.out, rowF_new]; exact HX.out.2)
              have hmb : m ≤ 1000000 := by
                have h7 := Q.s1_len HQ.out cm (by have := HEQ.out; omega)
                have h8 := Q.s2_len HQ.out (c := cm) (by have := HEQ.out; omega) r
                rw [← HLN.out, HL.out, List.length_append, List.length_append, Q.s3_len]
                omega
              clear hx hfx hfy hkm hkd hxq hyq hsx hsy hxm hym hmx hmy b1 b2 b3 b4 b5 b6 b7 b8
              have rt5 := (HB.out.1.block q (by omega)).trans HR0.out.1
              have rc5 := HB.out.2.2.1
              have rq5 := HB.out.2.2.2.1
              have zw5 : qb + 1 ≤ wr.heap.size := HB.out.2.2.2.2
              go_wp2_with fail
              clear WM
              refine last_cut (by kernel_rfl) (fun U => U.heap[q]? = some (.cells #[.int .i64 (x0 : Int), .int .i64 (y0 : Int), .int .i64 (x1 : Int), .int .i64 (y1 : Int)] 38 (0, 0)) ∧ U.heap[cb]? = some (.cells #[.int .i64 DP, .bool SG, .int .i64 (DX : Int), .int .i64 (DY : Int), .slice DA DN DC] 48 (0, 0)) ∧ U.heap[qb]? = some (.cells #[.int .i64 (R0 : Int), .int .i64 (R1 : Int), .int .i64 (R2 : Int), .int .i64 (R3 : Int)] 38 (0, 0))) (fun aF a' W' => ∃ h0 g1 cap, a' = ((((((((((((((((((((((((((((((((((((((((aF.put (some 72) (.slice A m c)).put (some 73) (.int .i64 (r : Int))).put (some 74) (.int .i64 (cm : Int))).put (some 75) (.int .i64 (k : Int))).put (some 76) (.pointer (some ⟨q, 0, none⟩))).put (some 77) (.int .i64 (x0 : Int))).put (some 78) (.int .i64 (st : Int))).put (some 79) (.pointer (some ⟨cb, 2, none⟩))).put (some 80) (.int .i64 (DX : Int))).put (some 81) (.int .i64 (sx : Int))).put (some 82) (.pointer (some ⟨qb, 0, none⟩))).put (some 83) (.int .i64 (R0 : Int))).put (some 84) (.int .i64 (nn : Int))).put (some 85) (.int .i64 (fx : Int))).put (some 86) (.int .i64 (k : Int))).put (some 87) (.int .i64 (WW : Int))).put (some 88) (.int .i64 (km : Int))).put (some 89) (.int .i64 (xq : Int))).put (some 90) (.int .i64 (xm : Int))).put (some 91) (.int .i64 mx)).put (some 92) (.pointer (some ⟨q, 1, none⟩))).put (some 93) (.int .i64 (y0 : Int))).put (some 94) (.int .i64 (st : Int))).put (some 95) (.pointer (some ⟨cb, 3, none⟩))).put (some 96) (.int .i64 (DY : Int))).put (some 97) (.int .i64 (sy : Int))).put (some 98) (.pointer (some ⟨qb, 1, none⟩))).put (some 99) (.int .i64 (R1 : Int))).put (some 100) (.int .i64 (nn : Int))).put (some 101) (.int .i64 (fy : Int))).put (some 102) (.int .i64 (k : Int))).put (some 103) (.int .i64 (WW : Int))).put (some 104) (.int .i64 (kd : Int))).put (some 105) (.int .i64 (yq : Int))).put (some 106) (.int .i64 (ym : Int))).put (some 107) (.int .i64 my)).put (some 108) (.agg #[.int .i64 (r : Int), .int .i64 (cm : Int), .int .i64 (k : Int), .int .i64 mx, .int .i64 my])).put (some 109) (.slice (some ⟨h0, 0, none⟩) 1 1)).put (some 110) (.slice (some ⟨g1, 0, none⟩) (m + 1) cap)).put (some 7) (.slice (some ⟨g1, 0, none⟩) (m + 1) cap)) ∧ OwnC W' B 77 5 (.slice (some ⟨g1, 0, none⟩) (m + 1) cap) (m + 1) (rowF (L ++ [x])) ∧ Below B wr W' ∧ W'.heap[pb]? = some (.cells #[.int .i64 (P0 : Int), .int .i64 (P1 : Int), .int .i64 (P2 : Int), .int .i64 (P3 : Int)] 38 (0, 0)) ∧ W'.heap[cb]? = some (.cells #[.int .i64 DP, .bool SG, .int .i64 (DX : Int), .int .i64 (DY : Int), .slice DA DN DC] 48 (0, 0)) ∧ W'.heap[qb]? = some (.cells #[.int .i64 (R0 : Int), .int .i64 (R1 : Int), .int .i64 (R2 : Int), .int .i64 (R3 : Int)] 38 (0, 0)) ∧ qb + 1 ≤ W'.heap.size) ⟨rt5, rc5, rq5⟩ (fun hS => ?_) ?_
              · skip
                have hSB : ∀ U : World, Below (wr.heap.size) wr U → U.heap[q]? = some (.cells #[.int .i64 (x0 : Int), .int .i64 (y0 : Int), .int .i64 (x1 : Int), .int .i64 (y1 : Int)] 38 (0, 0)) ∧ U.heap[cb]? = some (.cells #[.int .i64 DP, .bool SG, .int .i64 (DX : Int), .int .i64 (DY : Int), .slice DA DN DC] 48 (0, 0)) ∧ U.heap[qb]? = some (.cells #[.int .i64 (R0 : Int), .int .i64 (R1 : Int), .int .i64 (R2 : Int), .int .i64 (R3 : Int)] 38 (0, 0)) := fun U h => ⟨(h.block (q) (by omega)).trans (rt5), (h.block (cb) (by omega)).trans (rc5), (h.block (qb) (by omega)).trans (rq5)⟩
                have bV : Below wr.heap.size wr wr.drew := (Below.refl _ _).drew
                generalize wr.drew = V0 at *
                change wpAnyL _ _ _ _ _ 40 #[false, false, false, false, false, false, false, false, false, false, false, false, false, false, false, false, false, false, false, false, false, false, false, false, false, false, false, false, false, false, false, false, false, false, false, false, false, false, false, false] _ _
                refine wpAnyL_take (i := 0) (v := .slice A m c) (by simp only [List.getElem?_toArray, List.getElem?_cons_succ, List.getElem?_cons_zero]; rfl) (by as_aux_lemma => kernel_rfl) (by as_aux_lemma => kernel_rfl) (by as_aux_lemma => kernel_rfl) (fun _ _ _ h => h) (Or.inl ⟨by rfl, ?_⟩) hS ?_
                · intro U hU
                  obtain ⟨s0, s1, s2⟩ := hU
                  kernel_rfl
                simp only [Act.put, List.setIfInBounds_toArray, List.set_cons_zero, List.set_cons_succ]
                refine wpAnyL_take (i := 1) (v := .int .i64 (r : Int)) (by simp only [List.getElem?_toArray, List.getElem?_cons_succ, List.getElem?_cons_zero]; rfl) (by as_aux_lemma => kernel_rfl) (by as_aux_lemma => kernel_rfl) (by as_aux_lemma => kernel_rfl) (fun _ _ _ h => h) (Or.inl ⟨by rfl, ?_⟩) hS ?_
                · intro U hU
                  obtain ⟨s0, s1, s2⟩ := hU
                  kernel_rfl
                simp only [Act.put, List.setIfInBounds_toArray, List.set_cons_zero, List.set_cons_succ]
                refine wpAnyL_take (i := 2) (v := .int .i64 (cm : Int)) (by simp only [List.getElem?_toArray, List.getElem?_cons_succ, List.getElem?_cons_zero]; rfl) (by as_aux_lemma => kernel_rfl) (by as_aux_lemma => kernel_rfl) (by as_aux_lemma => kernel_rfl) (fun _ _ _ h => h) (Or.inl ⟨by rfl, ?_⟩) hS ?_
                · intro U hU
                  obtain ⟨s0, s1, s2⟩ := hU
                  kernel_rfl
                simp only [Act.put, List.setIfInBounds_toArray, List.set_cons_zero, List.set_cons_succ]
                refine wpAnyL_take (i := 3) (v := .int .i64 (k : Int)) (by simp only [List.getElem?_toArray, List.getElem?_cons_succ, List.getElem?_cons_zero]; rfl) (by as_aux_lemma => kernel_rfl) (by as_aux_lemma => kernel_rfl) (by as_aux_lemma => kernel_rfl) (fun _ _ _ h => h) (Or.inl ⟨by rfl, ?_⟩) hS ?_
                · intro U hU
                  obtain ⟨s0, s1, s2⟩ := hU
                  kernel_rfl
                simp only [Act.put, List.setIfInBounds_toArray, List.set_cons_zero, List.set_cons_succ]
                refine wpAnyL_take (i := 4) (v := .pointer (some ⟨q, 0, none⟩)) (by simp only [List.getElem?_toArray, List.getElem?_cons_succ, List.getElem?_cons_zero]; rfl) (by as_aux_lemma => kernel_rfl) (by as_aux_lemma => kernel_rfl) (by as_aux_lemma => kernel_rfl) (fun _ _ _ h => h) (Or.inl ⟨by rfl, ?_⟩) hS ?_
                · intro U hU
                  obtain ⟨s0, s1, s2⟩ := hU
                  kernel_rfl
                simp only [Act.put, List.setIfInBounds_toArray, List.set_cons_zero, List.set_cons_succ]
                refine wpAnyL_take (i := 5) (v := .int .i64 (x0 : Int)) (by simp only [List.getElem?_toArray, List.getElem?_cons_succ, List.getElem?_cons_zero]; rfl) (by as_aux_lemma => kernel_rfl) (by as_aux_lemma => kernel_rfl) (by as_aux_lemma => kernel_rfl) (fun _ _ _ h => h) (Or.inl ⟨by rfl, ?_⟩) hS ?_
                · intro U hU
                  obtain ⟨s0, s1, s2⟩ := hU
                  have r0_0 : U.cell? ⟨q, 0, none⟩ = some (.int .i64 (x0 : Int)) := cell_of_row _ _ 0 _ _ (0, 0) s0
                  exact exec_loadCell rfl rfl r0_0 (by kernel_rfl)
                simp only [Act.put, List.setIfInBounds_toArray, List.set_cons_zero, List.set_cons_succ]
                refine wpAnyL_take (i := 6) (v := .int .i64 (st : Int)) (by simp only [List.getElem?_toArray, List.getElem?_cons_succ, List.getElem?_cons_zero]; rfl) (by as_aux_lemma => kernel_rfl) (by as_aux_lemma => kernel_rfl) (by as_aux_lemma => kernel_rfl) (fun _ _ _ h => h) (Or.inl ⟨by rfl, ?_⟩) hS ?_
                · intro U hU
                  obtain ⟨s0, s1, s2⟩ := hU
                  kernel_rfl
                simp only [Act.put, List.setIfInBounds_toArray, List.set_cons_zero, List.set_cons_succ]
                refine wpAnyL_take (i := 7) (v := .pointer (some ⟨cb, 2, none⟩)) (by simp only [List.getElem?_toArray, List.getElem?_cons_succ, List.getElem?_cons_zero]; rfl) (by as_aux_lemma => kernel_rfl) (by as_aux_lemma => kernel_rfl) (by as_aux_lemma => kernel_rfl) (fun _ _ _ h => h) (Or.inl ⟨by rfl, ?_⟩) hS ?_
                · intro U hU
                  obtain ⟨s0, s1, s2⟩ := hU
                  kernel_rfl
                simp only [Act.put, List.setIfInBounds_toArray, List.set_cons_zero, List.set_cons_succ]
                refine wpAnyL_take (i := 8) (v := .int .i64 (DX : Int)) (by simp only [List.getElem?_toArray, List.getElem?_cons_succ, List.getElem?_cons_zero]; rfl) (by as_aux_lemma => kernel_rfl) (by as_aux_lemma => kernel_rfl) (by as_aux_lemma => kernel_rfl) (fun _ _ _ h => h) (Or.inl ⟨by rfl, ?_⟩) hS ?_
                · intro U hU
                  obtain ⟨s0, s1, s2⟩ := hU
                  have r1_2 : U.cell? ⟨cb, 2, none⟩ = some (.int .i64 (DX : Int)) := cell_of_row _ _ 2 _ _ (0, 0) s1
                  exact exec_loadCell rfl rfl r1_2 (by kernel_rfl)
                simp only [Act.put, List.setIfInBounds_toArray, List.set_cons_zero, List.set_cons_succ]
                refine wpAnyL_take (i := 9) (v := .int .i64 (sx : Int)) (by simp only [List.getElem?_toArray, List.getElem?_cons_succ, List.getElem?_cons_zero]; rfl) (by as_aux_lemma => kernel_rfl) (by as_aux_lemma => kernel_rfl) (by as_aux_lemma => kernel_rfl) (fun _ _ _ h => h) (Or.inl ⟨by rfl, ?_⟩) hS ?_
                · intro U hU
                  obtain ⟨s0, s1, s2⟩ := hU
                  have z0 := Z9.out
                  go_simp
                simp only [Act.put, List.setIfInBounds_toArray, List.set_cons_zero, List.set_cons_succ]
                refine wpAnyL_take (i := 10) (v := .pointer (some ⟨qb, 0, none⟩)) (by simp only [List.getElem?_toArray, List.getElem?_cons_succ, List.getElem?_cons_zero]; rfl) (by as_aux_lemma => kernel_rfl) (by as_aux_lemma => kernel_rfl) (by as_aux_lemma => kernel_rfl) (fun _ _ _ h => h) (Or.inl ⟨by rfl, ?_⟩) hS ?_
                · intro U hU
                  obtain ⟨s0, s1, s2⟩ := hU
                  kernel_rfl
                simp only [Act.put, List.setIfInBounds_toArray, List.set_cons_zero, List.set_cons_succ]
                refine wpAnyL_take (i := 11) (v := .int .i64 (R0 : Int)) (by simp only [List.getElem?_toArray, List.getElem?_cons_succ, List.getElem?_cons_zero]; rfl) (by as_aux_lemma => kernel_rfl) (by as_aux_lemma => kernel_rfl) (by as_aux_lemma => kernel_rfl) (fun _ _ _ h => h) (Or.inl ⟨by rfl, ?_⟩) hS ?_
                · intro U hU
                  obtain ⟨s0, s1, s2⟩ := hU
                  have r2_0 : U.cell? ⟨qb, 0, none⟩ = some (.int .i64 (R0 : Int)) := cell_of_row _ _ 0 _ _ (0, 0) s2
                  exact exec_loadCell rfl rfl r2_0 (by kernel_rfl)
                simp only [Act.put, List.setIfInBounds_toArray, List.set_cons_zero, List.set_cons_succ]
                refine wpAnyL_take (i := 12) (v := .int .i64 (nn : Int)) (by simp only [List.getElem?_toArray, List.getElem?_cons_succ, List.getElem?_cons_zero]; rfl) (by as_aux_lemma => kernel_rfl) (by as_aux_lemma => kernel_rfl) (by as_aux_lemma => kernel_rfl) (fun _ _ _ h => h) (Or.inl ⟨by rfl, ?_⟩) hS ?_
                · intro U hU
                  obtain ⟨s0, s1, s2⟩ := hU
                  kernel_rfl
                simp only [Act.put, List.setIfInBounds_toArray, List.set_cons_zero, List.set_cons_succ]
                refine wpAnyL_take (i := 13) (v := .int .i64 (fx : Int)) (by simp only [List.getElem?_toArray, List.getElem?_cons_succ, List.getElem?_cons_zero]; rfl) (by as_aux_lemma => kernel_rfl) (by as_aux_lemma => kernel_rfl) (by as_aux_lemma => kernel_rfl) (fun _ _ _ h => h) (Or.inl ⟨by rfl, ?_⟩) hS ?_
                · intro U hU
                  obtain ⟨s0, s1, s2⟩ := hU
                  have z0 := Z1.out
                  have z1 := Z7.out
                  have z2 := Z17.out
                  go_simp
                simp only [Act.put, List.setIfInBounds_toArray, List.set_cons_zero, List.set_cons_succ]
                refine wpAnyL_take (i := 14) (v := .int .i64 (k : Int)) (by simp only [List.getElem?_toArray, List.getElem?_cons_succ, List.getElem?_cons_zero]; rfl) (by as_aux_lemma => kernel_rfl) (by as_aux_lemma => kernel_rfl) (by as_aux_lemma => kernel_rfl) (fun _ _ _ h => h) (Or.inl ⟨by rfl, ?_⟩) hS ?_
                · intro U hU
                  obtain ⟨s0, s1, s2⟩ := hU
                  kernel_rfl
                simp only [Act.put, List.setIfInBounds_toArray, List.set_cons_zero, List.set_cons_succ]
                refine wpAnyL_take (i := 15) (v := .int .i64 (WW : Int)) (by simp only [List.getElem?_toArray, List.getElem?_cons_succ, List.getElem?_cons_zero]; rfl) (by as_aux_lemma => kernel_rfl) (by as_aux_lemma => kernel_rfl) (by as_aux_lemma => kernel_rfl) (fun _ _ _ h => h) (Or.inl ⟨by rfl, ?_⟩) hS ?_
                · intro U hU
                  obtain ⟨s0, s1, s2⟩ := hU
                  kernel_rfl
                simp only [Act.put, List.setIfInBounds_toArray, List.set_cons_zero, List.set_cons_succ]
                refine wpAnyL_take (i := 16) (v := .int .i64 (km : Int)) (by simp only [List.getElem?_toArray, List.getElem?_cons_succ, List.getElem?_cons_zero]; rfl) (by as_aux_lemma => kernel_rfl) (by as_aux_lemma => kernel_rfl) (by as_aux_lemma => kernel_rfl) (fun _ _ _ h => h) (Or.inl ⟨by rfl, ?_⟩) hS ?_
                · intro U hU
                  obtain ⟨s0, s1, s2⟩ := hU
                  have z0 := Z3.out
                  have z1 := Z8.out
                  go_simp
                simp only [Act.put, List.setIfInBounds_toArray, List.set_cons_zero, List.set_cons_succ]
                refine wpAnyL_take (i := 17) (v := .int .i64 (xq : Int)) (by simp only [List.getElem?_toArray, List.getElem?_cons_succ, List.getElem?_cons_zero]; rfl) (by as_aux_lemma => kernel_rfl) (by as_aux_lemma => kernel_rfl) (by as_aux_lemma => kernel_rfl) (fun _ _ _ h => h) (Or.inl ⟨by rfl, ?_⟩) hS ?_
                · intro U hU
                  obtain ⟨s0, s1, s2⟩ := hU
                  have z0 := Z5.out
                  go_simp
                simp only [Act.put, List.setIfInBounds_toArray, List.set_cons_zero, List.set_cons_succ]
                refine wpAnyL_take (i := 18) (v := .int .i64 (xm : Int)) (by simp only [List.getElem?_toArray, List.getElem?_cons_succ, List.getElem?_cons_zero]; rfl) (by as_aux_lemma => kernel_rfl) (by as_aux_lemma => kernel_rfl) (by as_aux_lemma => kernel_rfl) (fun _ _ _ h => h) (Or.inl ⟨by rfl, ?_⟩) hS ?_
                · intro U hU
                  obtain ⟨s0, s1, s2⟩ := hU
                  have z0 := Z11.out
                  go_simp
                simp only [Act.put, List.setIfInBounds_toArray, List.set_cons_zero, List.set_cons_succ]
                refine wpAnyL_take (i := 19) (v := .int .i64 mx) (by simp only [List.getElem?_toArray, List.getElem?_cons_succ, List.getElem?_cons_zero]; rfl) (by as_aux_lemma => kernel_rfl) (by as_aux_lemma => kernel_rfl) (by as_aux_lemma => kernel_rfl) (fun _ _ _ h => h) (Or.inl ⟨by rfl, ?_⟩) hS ?_
                · intro U hU
                  obtain ⟨s0, s1, s2⟩ := hU
                  have z0 := Z14.out
                  go_simp
                simp only [Act.put, List.setIfInBounds_toArray, List.set_cons_zero, List.set_cons_succ]
                refine wpAnyL_take (i := 20) (v := .pointer (some ⟨q, 1, none⟩)) (by simp only [List.getElem?_toArray, List.getElem?_cons_succ, List.getElem?_cons_zero]; rfl) (by as_aux_lemma => kernel_rfl) (by as_aux_lemma => kernel_rfl) (by as_aux_lemma => kernel_rfl) (fun _ _ _ h => h) (Or.inl ⟨by rfl, ?_⟩) hS ?_
                · intro U hU
                  obtain ⟨s0, s1, s2⟩ := hU
                  kernel_rfl
                simp only [Act.put, List.setIfInBounds_toArray, List.set_cons_zero, List.set_cons_succ]
                refine wpAnyL_take (i := 21) (v := .int .i64 (y0 : Int)) (by simp only [List.getElem?_toArray, List.getElem?_cons_succ, List.getElem?_cons_zero]; rfl) (by as_aux_lemma => kernel_rfl) (by as_aux_lemma => kernel_rfl) (by as_aux_lemma => kernel_rfl) (fun _ _ _ h => h) (Or.inl ⟨by rfl, ?_⟩) hS ?_
                · intro U hU
                  obtain ⟨s0, s1, s2⟩ := hU
                  have r0_1 : U.cell? ⟨q, 1, none⟩ = some (.int .i64 (y0 : Int)) := cell_of_row _ _ 1 _ _ (0, 0) s0
                  exact exec_loadCell rfl rfl r0_1 (by kernel_rfl)
                simp only [Act.put, List.setIfInBounds_toArray, List.set_cons_zero, List.set_cons_succ]
                refine wpAnyL_take (i := 22) (v := .int .i64 (st : Int)) (by simp only [List.getElem?_toArray, List.getElem?_cons_succ, List.getElem?_cons_zero]; rfl) (by as_aux_lemma => kernel_rfl) (by as_aux_lemma => kernel_rfl) (by as_aux_lemma => kernel_rfl) (fun _ _ _ h => h) (Or.inl ⟨by rfl, ?_⟩) hS ?_
                · intro U hU
                  obtain ⟨s0, s1, s2⟩ := hU
                  kernel_rfl
                simp only [Act.put, List.setIfInBounds_toArray, List.set_cons_zero, List.set_cons_succ]
                refine wpAnyL_take (i := 23) (v := .pointer (some ⟨cb, 3, none⟩)) (by simp only [List.getElem?_toArray, List.getElem?_cons_succ, List.getElem?_cons_zero]; rfl) (by as_aux_lemma => kernel_rfl) (by as_aux_lemma => kernel_rfl) (by as_aux_lemma => kernel_rfl) (fun _ _ _ h => h) (Or.inl ⟨by rfl, ?_⟩) hS ?_
                · intro U hU
                  obtain ⟨s0, s1, s2⟩ := hU
                  kernel_rfl
                simp only [Act.put, List.setIfInBounds_toArray, List.set_cons_zero, List.set_cons_succ]
                refine wpAnyL_take (i := 24) (v := .int .i64 (DY : Int)) (by simp only [List.getElem?_toArray, List.getElem?_cons_succ, List.getElem?_cons_zero]; rfl) (by as_aux_lemma => kernel_rfl) (by as_aux_lemma => kernel_rfl) (by as_aux_lemma => kernel_rfl) (fun _ _ _ h => h) (Or.inl ⟨by rfl, ?_⟩) hS ?_
                · intro U hU
                  obtain ⟨s0, s1, s2⟩ := hU
                  have r1_3 : U.cell? ⟨cb, 3, none⟩ = some (.int .i64 (DY : Int)) := cell_of_row _ _ 3 _ _ (0, 0) s1
                  exact exec_loadCell rfl rfl r1_3 (by kernel_rfl)
                simp only [Act.put, List.setIfInBounds_toArray, List.set_cons_zero, List.set_cons_succ]
                refine wpAnyL_take (i := 25) (v := .int .i64 (sy : Int)) (by simp only [List.getElem?_toArray, List.getElem?_cons_succ, List.getElem?_cons_zero]; rfl) (by as_aux_lemma => kernel_rfl) (by as_aux_lemma => kernel_rfl) (by as_aux_lemma => kernel_rfl) (fun _ _ _ h => h) (Or.inl ⟨by rfl, ?_⟩) hS ?_
                · intro U hU
                  obtain ⟨s0, s1, s2⟩ := hU
                  have z0 := Z10.out
                  go_simp
                simp only [Act.put, List.setIfInBounds_toArray, List.set_cons_zero, List.set_cons_succ]
                refine wpAnyL_take (i := 26) (v := .pointer (some ⟨qb, 1, none⟩)) (by simp only [List.getElem?_toArray, List.getElem?_cons_succ, List.getElem?_cons_zero]; rfl) (by as_aux_lemma => kernel_rfl) (by as_aux_lemma => kernel_rfl) (by as_aux_lemma => kernel_rfl) (fun _ _ _ h => h) (Or.inl ⟨by rfl, ?_⟩) hS ?_
                · intro U hU
                  obtain ⟨s0, s1, s2⟩ := hU
                  kernel_rfl
                simp only [Act.put, List.setIfInBounds_toArray, List.set_cons_zero, List.set_cons_succ]
                refine wpAnyL_take (i := 27) (v := .int .i64 (R1 : Int)) (by simp only [List.getElem?_toArray, List.getElem?_cons_succ, List.getElem?_cons_zero]; rfl) (by as_aux_lemma => kernel_rfl) (by as_aux_lemma => kernel_rfl) (by as_aux_lemma => kernel_rfl) (fun _ _ _ h => h) (Or.inl ⟨by rfl, ?_⟩) hS ?_
                · intro U hU
                  obtain ⟨s0, s1, s2⟩ := hU
                  have r2_1 : U.cell? ⟨qb, 1, none⟩ = some (.int .i64 (R1 : Int)) := cell_of_row _ _ 1 _ _ (0, 0) s2
                  exact exec_loadCell rfl rfl r2_1 (by kernel_rfl)
                simp only [Act.put, List.setIfInBounds_toArray, List.set_cons_zero, List.set_cons_succ]
                refine wpAnyL_take (i := 28) (v := .int .i64 (nn : Int)) (by simp only [List.getElem?_toArray, List.getElem?_cons_succ, List.getElem?_cons_zero]; rfl) (by as_aux_lemma => kernel_rfl) (by as_aux_lemma => kernel_rfl) (by as_aux_lemma => kernel_rfl) (fun _ _ _ h => h) (Or.inl ⟨by rfl, ?_⟩) hS ?_
                · intro U hU
                  obtain ⟨s0, s1, s2⟩ := hU
                  kernel_rfl
                simp only [Act.put, List.setIfInBounds_toArray, List.set_cons_zero, List.set_cons_succ]
                refine wpAnyL_take (i := 29) (v := .int .i64 (fy : Int)) (by simp only [List.getElem?_toArray, List.getElem?_cons_succ, List.getElem?_cons_zero]; rfl) (by as_aux_lemma => kernel_rfl) (by as_aux_lemma => kernel_rfl) (by as_aux_lemma => kernel_rfl) (fun _ _ _ h => h) (Or.inl ⟨by rfl, ?_⟩) hS ?_
                · intro U hU
                  obtain ⟨s0, s1, s2⟩ := hU
                  have z0 := Z2.out
                  have z1 := Z7.out
                  have z2 := Z18.out
                  go_simp
                simp only [Act.put, List.setIfInBounds_toArray, List.set_cons_zero, List.set_cons_succ]
                refine wpAnyL_take (i := 30) (v := .int .i64 (k : Int)) (by simp only [List.getElem?_toArray, List.getElem?_cons_succ, List.getElem?_cons_zero]; rfl) (by as_aux_lemma => kernel_rfl) (by as_aux_lemma => kernel_rfl) (by as_aux_lemma => kernel_rfl) (fun _ _ _ h => h) (Or.inl ⟨by rfl, ?_⟩) hS ?_
                · intro U hU
                  obtain ⟨s0, s1, s2⟩ := hU
                  kernel_rfl
                simp only [Act.put, List.setIfInBounds_toArray, List.set_cons_zero, List.set_cons_succ]
                refine wpAnyL_take (i := 31) (v := .int .i64 (WW : Int)) (by simp only [List.getElem?_toArray, List.getElem?_cons_succ, List.getElem?_cons_zero]; rfl) (by as_aux_lemma => kernel_rfl) (by as_aux_lemma => kernel_rfl) (by as_aux_lemma => kernel_rfl) (fun _ _ _ h => h) (Or.inl ⟨by rfl, ?_⟩) hS ?_
                · intro U hU
                  obtain ⟨s0, s1, s2⟩ := hU
                  kernel_rfl
                simp only [Act.put, List.setIfInBounds_toArray, List.set_cons_zero, List.set_cons_succ]
                refine wpAnyL_take (i := 32) (v := .int .i64 (kd : Int)) (by simp only [List.getElem?_toArray, List.getElem?_cons_succ, List.getElem?_cons_zero]; rfl) (by as_aux_lemma => kernel_rfl) (by as_aux_lemma => kernel_rfl) (by as_aux_lemma => kernel_rfl) (fun _ _ _ h => h) (Or.inl ⟨by rfl, ?_⟩) hS ?_
                · intro U hU
                  obtain ⟨s0, s1, s2⟩ := hU
                  have z0 := Z4.out
                  have z1 := Z8.out
                  have z2 := Z16.out
                  go_simp
                simp only [Act.put, List.setIfInBounds_toArray, List.set_cons_zero, List.set_cons_succ]
                refine wpAnyL_take (i := 33) (v := .int .i64 (yq : Int)) (by simp only [List.getElem?_toArray, List.getElem?_cons_succ, List.getElem?_cons_zero]; rfl) (by as_aux_lemma => kernel_rfl) (by as_aux_lemma => kernel_rfl) (by as_aux_lemma => kernel_rfl) (fun _ _ _ h => h) (Or.inl ⟨by rfl, ?_⟩) hS ?_
                · intro U hU
                  obtain ⟨s0, s1, s2⟩ := hU
                  have z0 := Z6.out
                  go_simp
                simp only [Act.put, List.setIfInBounds_toArray, List.set_cons_zero, List.set_cons_succ]
                refine wpAnyL_take (i := 34) (v := .int .i64 (ym : Int)) (by simp only [List.getElem?_toArray, List.getElem?_cons_succ, List.getElem?_cons_zero]; rfl) (by as_aux_lemma => kernel_rfl) (by as_aux_lemma => kernel_rfl) (by as_aux_lemma => kernel_rfl) (fun _ _ _ h => h) (Or.inl ⟨by rfl, ?_⟩) hS ?_
                · intro U hU
                  obtain ⟨s0, s1, s2⟩ := hU
                  have z0 := Z12.out
                  go_simp
                simp only [Act.put, List.setIfInBounds_toArray, List.set_cons_zero, List.set_cons_succ]
                refine wpAnyL_take (i := 35) (v := .int .i64 my) (by simp only [List.getElem?_toArray, List.getElem?_cons_succ, List.getElem?_cons_zero]; rfl) (by as_aux_lemma => kernel_rfl) (by as_aux_lemma => kernel_rfl) (by as_aux_lemma => kernel_rfl) (fun _ _ _ h => h) (Or.inl ⟨by rfl, ?_⟩) hS ?_
                · intro U hU
                  obtain ⟨s0, s1, s2⟩ := hU
                  have z0 := Z15.out
                  go_simp
                simp only [Act.put, List.setIfInBounds_toArray, List.set_cons_zero, List.set_cons_succ]
                refine wpAnyL_take (i := 36) (v := .agg #[.int .i64 (r : Int), .int .i64 (cm : Int), .int .i64 (k : Int), .int .i64 mx, .int .i64 my]) (by simp only [List.getElem?_toArray, List.getElem?_cons_succ, List.getElem?_cons_zero]; rfl) (by as_aux_lemma => kernel_rfl) (by as_aux_lemma => kernel_rfl) (by as_aux_lemma => kernel_rfl) (fun _ _ _ h => h) (Or.inl ⟨by rfl, ?_⟩) hS ?_
                · intro U hU
                  obtain ⟨s0, s1, s2⟩ := hU
                  kernel_rfl
                simp only [Act.put, List.setIfInBounds_toArray, List.set_cons_zero, List.set_cons_succ]
                refine wpAnyL_ready (rs := [37]) (by as_aux_lemma => kernel_rfl) (by simp) ?_
                refine AllReadyL.cons (by simp only [List.getElem?_toArray, List.getElem?_cons_succ, List.getElem?_cons_zero]; rfl) (fun K' hK' => ?_) AllReadyL.nil
                go_simp
                have hb24 := below_alloc bV (.cells #[.int .i64 (r : Int), .int .i64 (cm : Int), .int .i64 (k : Int), .int .i64 mx, .int .i64 my] 77)
                have xl := heap_alloc_new V0 (.cells #[.int .i64 (r : Int), .int .i64 (cm : Int), .int .i64 (k : Int), .int .i64 mx, .int .i64 my] 77)
                obtain ⟨h0, hh0⟩ : ∃ g, V0.heap.size = g := ⟨_, rfl⟩
                generalize V0.alloc (.cells #[.int .i64 (r : Int), .int .i64 (cm : Int), .int .i64 (k : Int), .int .i64 mx, .int .i64 my] 77) = U24 at *
                rw [hh0] at xl ⊢
                clear hh0
                have hS := hSB _ hb24
                refine hK'.out _ _ hS (fun _ => ?_)
                clear hK' K'
                try simp only [Act.put, List.setIfInBounds_toArray, List.set_cons_zero, List.set_cons_succ]
                refine wpAnyL_ready (rs := [38]) (by as_aux_lemma => kernel_rfl) (by simp) ?_
                refine AllReadyL.cons (by simp only [List.getElem?_toArray, List.getElem?_cons_succ, List.getElem?_cons_zero]; rfl) (fun K' hK' => ?_) AllReadyL.nil
                have hcel : ∀ (i : Nat) (u : Value), (rowF (L ++ [x]) m)[i]? = some u → U24.cell? ⟨h0, i, none⟩ = some u := fun i u hi => by
                  rw [cell_of_row _ _ _ _ _ (0, 0) xl, ← hi, HF5.out, List.getElem?_toArray]
                have hone : ∀ u ∈ rowF (L ++ [x]) m, u.oneCell' = true := by rw [← HLN.out, rowF_new]; exact one_five x
                refine step_appC wr hb24 (others_of_below hb24) (by rfl) _ _ 74 (by rfl) 77 5 five_elem B A m c (rowF (L ++ [x])) (by rfl) HOf.out h0 (by rfl) hcel hone (by omega) (by omega) ?_
                intro g1 cap U25 og sg hg
                have hS := And.intro ((sg.blocks q (by omega) (HOf.out.ne_block rt5 (by decide))).trans rt5) (And.intro ((sg.blocks cb (by omega) (HOf.out.ne_block rc5 (by decide))).trans rc5) ((sg.blocks qb (by omega) (HOf.out.ne_block rq5 (by decide))).trans rq5))
                have hpb' := (sg.blocks pb (by omega) (HOf.out.ne_block HB.out.2.1 (by decide))).trans HB.out.2.1
                refine hK'.out _ _ hS (fun _ => ?_)
                clear hcel hone
                clear hK' K'
                try simp only [Act.put, List.setIfInBounds_toArray, List.set_cons_zero, List.set_cons_succ]
                refine wpAnyL_take (i := 39) (v := .slice (some ⟨g1, 0, none⟩) (m + 1) cap) (by simp only [List.getElem?_toArray, List.getElem?_cons_succ, List.getElem?_cons_zero]; rfl) (by as_aux_lemma => kernel_rfl) (by as_aux_lemma => kernel_rfl) (by as_aux_lemma => kernel_rfl) (fun _ _ _ h => h) (Or.inl ⟨by rfl, ?_⟩) hS ?_
                · intro U hU
                  obtain ⟨s0, s1, s2⟩ := hU
                  kernel_rfl
                simp only [Act.put, List.setIfInBounds_toArray, List.set_cons_zero, List.set_cons_succ]
                refine wpAnyL_done (by as_aux_lemma => kernel_rfl) ?_ _
                simp only [OnlyN]
                refine ⟨h0, g1, cap, ?_, og, sg.below, hpb', hS.2.1, hS.2.2, Nat.le_trans zw5 sg.below.size⟩
                (try simp only [Act.put, List.setIfInBounds_toArray, List.set_cons_zero, List.set_cons_succ])
              rintro a' Wb ⟨h0, g1, cap, rfl, og, h9, hrows⟩
              simp only [Act.put, List.setIfInBounds_toArray, List.set_cons_zero, List.set_cons_succ]
              have HOg := Lib.hid og
              have HB9 := Lib.hid (And.intro (HB.out.1.trans h9) hrows)
              have HL9 := Lib.hid (And.intro (show (L ++ [x]).length = m + 1 by rw [List.length_append, HLN.out]; rfl) (show L ++ [x] = Q.s1 cm ++ Q.s2 cm r ++ Q.s3 cm r (k + 1) by rw [HL.out, Q.s3_succ, HX.out.1, List.append_assoc]))
              have WK := wrap_add1 (a := k) (c := k + 1) rfl (by omega)
              clear og h9 hrows HO HB HOf HF5 HX HL HLN Z1 Z2 Z3 Z4 Z5 Z6 Z7 Z8 Z9 Z10 Z11 Z12 Z14 Z15 Z16 Z17 Z18 rt5 rc5 rq5
              go_wp2_with fail
              go_roundg (NW - (k + 1))
              case measure => omega
              case rel => exact ⟨k + 1, m + 1, L ++ [x], some ⟨g1, 0, none⟩, cap, rfl, by go_num, by omega, Nat.le_refl _, Lib.hid HL9.out.1, Lib.hid HL9.out.2, HOg, HB9⟩
            · have hlkz : ¬ (k : Int) < (NW : Int) := by omega
              have he := Lib.hid (show k = NW by omega)
              have WR := wrap_add1 (a := r) (c := r + 1) rfl (by omega)
              have zq5 := HB.out.2.2.2.2
              go_wp2_with fail
              clear WM
              go_roundg (lv + 1 - (r + 1))
              case measure => omega
              case rel => exact ⟨r + 1, m, L, A, c, rfl, by go_num, by omega, Nat.le_refl _, HLN, Lib.hid (by rw [HL.out, Q.s2_succ, HNW.out.1, he.out, List.append_assoc]), HO, Lib.hid ⟨HB.out.1, HB.out.2.1, HB.out.2.2.1, by omega⟩⟩
        · have hlez : ¬ (r : Int) ≤ (lv : Int) := by omega
          have he := Lib.hid (show r = lv + 1 by omega)
          have WC := wrap_add1 (a := cm) (c := cm + 1) rfl (by omega)
          go_wp2_with fail
          go_roundg (n - (cm + 1))
          case measure => omega
          case rel => exact ⟨cm + 1, m, L, A, c, rfl, by go_num, by omega, Nat.le_refl _, HLN, Lib.hid (by rw [HL.out, Q.s1_succ, he.out, HEQ.out.2.2.2.2.1]), HO, Lib.hid HB.out.1⟩
    · have hltz : ¬ (cm : Int) < (n : Int) := by omega
      have he := Lib.hid (show cm = n by omega)
      have HZ := Lib.hid (show (Q.s1 n).length = m ∧ L = Q.s1 n from ⟨by rw [← HLN.out, HL.out, he.out], by rw [HL.out, he.out]⟩)
      have bz := HB0.out.trans (HB.out.mono (show q ≤ B by omega))
      go_wp2_with fail
      go_ret
      refine ⟨A, c, ?_, ?_, bz⟩
      · rw [HZ.out.1]; rfl
      · rw [HZ.out.1, ← HZ.out.2]; exact HO.out.mono (by omega)
end Go.Proofs.Ytpgkdpoehkdhcaa
namespace Go.Proofs.Ytpgkdpoehkdhcaa
open Go.RowKit
attribute [local go_sem] opv opnd
set_option maxHeartbeats 40000000
set_option linter.unusedVariables false
set_option linter.unusedSimpArgs false
set_option maxRecDepth 1000000
theorem rrank0 (rs cm pc x y l : Int) (w : World) : Calls Try.prog 34 #[.int .i64 0, .agg #[.int .i64 rs, .int .i64 cm, .int .i64 pc, .int .i64 x, .int .i64 y], .int .i64 l] w fun e w' => e = .returned (.agg #[.int .i64 l, .int .i64 rs, .int .i64 cm, .int .i64 pc, .int .i64 0, .int .i64 0]) ∧ Below w.heap.size w w' := by
  go_enter Try.func34, Try.ntmps34
  go_wp2_with fail
  refine bodyPost_ret (v := .agg #[.int .i64 l, .int .i64 rs, .int .i64 cm, .int .i64 pc, .int .i64 0, .int .i64 0]) (by simp [results, Try.results34, go_sem]) rfl ⟨rfl, ?_⟩
  repeat (refine RowKit.Below.setCell ?_ (by first | exact Nat.le_refl _ | (simp only; omega)) _)
  exact below_alloc (below_alloc (RowKit.Below.refl _ _) _) _
theorem rrank1 (rs cm pc x y l : Int) (w : World) : Calls Try.prog 34 #[.int .i64 1, .agg #[.int .i64 rs, .int .i64 cm, .int .i64 pc, .int .i64 x, .int .i64 y], .int .i64 l] w fun e w' => e = .returned (.agg #[.int .i64 rs, .int .i64 l, .int .i64 cm, .int .i64 pc, .int .i64 0, .int .i64 0]) ∧ Below w.heap.size w w' := by
  go_enter Try.func34, Try.ntmps34
  go_wp2_with fail
  refine bodyPost_ret (v := .agg #[.int .i64 rs, .int .i64 l, .int .i64 cm, .int .i64 pc, .int .i64 0, .int .i64 0]) (by simp [results, Try.results34, go_sem]) rfl ⟨rfl, ?_⟩
  repeat (refine RowKit.Below.setCell ?_ (by first | exact Nat.le_refl _ | (simp only; omega)) _)
  exact below_alloc (below_alloc (RowKit.Below.refl _ _) _) _
theorem rrank2 (rs cm pc x y l : Int) (w : World) : Calls Try.prog 34 #[.int .i64 2, .agg #[.int .i64 rs, .int .i64 cm, .int .i64 pc, .int .i64 x, .int .i64 y], .int .i64 l] w fun e w' => e = .returned (.agg #[.int .i64 rs, .int .i64 y, .int .i64 x, .int .i64 cm, .int .i64 pc, .int .i64 l]) ∧ Below w.heap.size w w' := by
  go_enter Try.func34, Try.ntmps34
  go_wp2_with fail
  refine bodyPost_ret (v := .agg #[.int .i64 rs, .int .i64 y, .int .i64 x, .int .i64 cm, .int .i64 pc, .int .i64 l]) (by simp [results, Try.results34, go_sem]) rfl ⟨rfl, ?_⟩
  repeat (refine RowKit.Below.setCell ?_ (by first | exact Nat.le_refl _ | (simp only; omega)) _)
  exact below_alloc (below_alloc (RowKit.Below.refl _ _) _) _
theorem rrank3 (rs cm pc x y l : Int) (w : World) : Calls Try.prog 34 #[.int .i64 3, .agg #[.int .i64 rs, .int .i64 cm, .int .i64 pc, .int .i64 x, .int .i64 y], .int .i64 l] w fun e w' => e = .returned (.agg #[.int .i64 y, .int .i64 x, .int .i64 cm, .int .i64 rs, .int .i64 pc, .int .i64 l]) ∧ Below w.heap.size w w' := by
  go_enter Try.func34, Try.ntmps34
  go_wp2_with fail
  refine bodyPost_ret (v := .agg #[.int .i64 y, .int .i64 x, .int .i64 cm, .int .i64 rs, .int .i64 pc, .int .i64 l]) (by simp [results, Try.results34, go_sem]) rfl ⟨rfl, ?_⟩
  repeat (refine RowKit.Below.setCell ?_ (by first | exact Nat.le_refl _ | (simp only; omega)) _)
  exact below_alloc (below_alloc (RowKit.Below.refl _ _) _) _
theorem rrank4 (rs cm pc x y l : Int) (w : World) : Calls Try.prog 34 #[.int .i64 4, .agg #[.int .i64 rs, .int .i64 cm, .int .i64 pc, .int .i64 x, .int .i64 y], .int .i64 l] w fun e w' => e = .returned (.agg #[.int .i64 cm, .int .i64 y, .int .i64 x, .int .i64 rs, .int .i64 pc, .int .i64 l]) ∧ Below w.heap.size w w' := by
  go_enter Try.func34, Try.ntmps34
  go_wp2_with fail
  refine bodyPost_ret (v := .agg #[.int .i64 cm, .int .i64 y, .int .i64 x, .int .i64 rs, .int .i64 pc, .int .i64 l]) (by simp [results, Try.results34, go_sem]) rfl ⟨rfl, ?_⟩
  repeat (refine RowKit.Below.setCell ?_ (by first | exact Nat.le_refl _ | (simp only; omega)) _)
  exact below_alloc (below_alloc (RowKit.Below.refl _ _) _) _
theorem rrank_any (od l : Nat) (hod : od ≤ 4) (s : Spot) (w : World) : Calls Try.prog 34 #[.int .i64 (od : Int), .agg #[.int .i64 s.rs, .int .i64 s.cm, .int .i64 s.pc, .int .i64 s.x, .int .i64 s.y], .int .i64 (l : Int)] w fun e w' => e = .returned (.agg (rkL (layS od l s)).toArray) ∧ Below w.heap.size w w' := by
  have h : od = 0 ∨ od = 1 ∨ od = 2 ∨ od = 3 ∨ od = 4 := by omega
  rcases h with rfl | rfl | rfl | rfl | rfl
  · exact rrank0 _ _ _ _ _ _ w
  · exact rrank1 _ _ _ _ _ _ w
  · exact rrank2 _ _ _ _ _ _ w
  · exact rrank3 _ _ _ _ _ _ w
  · exact rrank4 _ _ _ _ _ _ w
theorem lay_ten (od l : Nat) (s : Spot) : tenL (layS od l s) = [.int .i64 (l : Int), .int .i64 s.rs, .int .i64 s.cm, .int .i64 s.pc] ++ rkL (layS od l s) := by
  unfold layS rankS
  split <;> rfl
theorem rkey_elem : ElemC Try.prog 39 43 4 := elemC_of (.agg #[.int .i64 0, .int .i64 0, .int .i64 0, .int .i64 0]) 32 (by kernel_rfl) rfl (by omega) (by omega) Try.underlying39
theorem four_len (K : List Spot) (k : Nat) : ((rowS K k).take 4).length = 4 := rfl
theorem take_succ_map (L : List Spot) (g : Spot → Spot) {i : Nat} (h : i < L.length) : (L.take (i + 1)).map g = (L.take i).map g ++ [g (L[i]?.getD default)] := by
  rw [List.take_succ_eq_append_getElem h, List.map_append, List.getElem?_eq_getElem h]; rfl
theorem OrdQ.r1_len (q : OrdQ) (h : q.Ok) (m : Nat) : (q.r1 m).length ≤ m * 101400 := by rw [(q.r1_perm m).length_eq]; exact q.l1_len h m
theorem rlist_any (Q : OrdQ) (hQ : Q.Ok) (X Y Ox Oy : Int) (IA : Option Addr) (n ic : Nat) (F : Nat → CompD) (Tx Ty Cw Ch St : Int) (rct sop eph : Bool) (x0 y0 x1 y1 lv pr od ly : Nat)
    (eQ : Q.x0 = x0 ∧ Q.y0 = y0 ∧ Q.x1 = x1 ∧ Q.y1 = y1 ∧ Q.lv = lv ∧ Q.pr = pr ∧ Q.od = od ∧ Q.ly = ly ∧ Q.n = n) (hF : ∀ k, k < n → (F k).dx = (Q.dx k : Int) ∧ (F k).dy = (Q.dy k : Int))
    (w : World) (ha : CompsAt w w.heap.size IA n F) :
    Calls Try.prog 14 #[.agg #[.int .i64 (x0 : Int), .int .i64 (y0 : Int), .int .i64 (x1 : Int), .int .i64 (y1 : Int)], .agg #[.int .i64 X, .int .i64 Y, .int .i64 Ox, .int .i64 Oy, .slice IA n ic], .agg #[.int .i64 Tx, .int .i64 Ty, .int .i64 (lv : Int), .int .i64 Cw, .int .i64 Ch, .int .i64 (pr : Int), .int .i64 St, .int .i64 (od : Int), .int .i64 (ly : Int), .bool rct, .bool sop, .bool eph]] w fun e w' => ∃ (K : List Spot) (A : Option Addr) (c : Nat), e = .returned (.slice A K.length c) ∧ K.Perm (Q.l1 ly) ∧ K.Pairwise (fun a b => ltS b a = false) ∧ OwnC w' w.heap.size 43 4 (.slice A K.length c) K.length (fun k => (rowS K k).take 4) ∧ Below w.heap.size w w' := by
  obtain ⟨q, hq⟩ : ∃ q, w.heap.size = q := ⟨_, rfl⟩
  rw [hq] at ha
  have HA := Lib.hid ha
  have HEQ := Lib.hid eQ
  have HQ := Lib.hid hQ
  have hly : ly ≤ 9 := by have := hQ.ly; omega
  have hod : od ≤ 4 := by have := hQ.od; omega
  have hn16 : n ≤ 4 := by have := hQ.n; omega
  have HSp := Lib.hid (fun (V : World) (hV : CompsAt V V.heap.size IA n F) => rspots_any Q hQ X Y Ox Oy IA n ic F Tx Ty Cw Ch St rct sop eph x0 y0 x1 y1 lv pr od ly eQ hF V hV)
  have HNS0 := Lib.hid (Q.s1_len hQ n (by omega))
  clear ha hF eQ hQ
  go_enter Try.func14, Try.ntmps14
  go_upto_region 1 with fail
  generalize hW0 : World.alloc (World.alloc (World.alloc w _) _) _ = W0
  have rt0 : W0.heap[q]? = some (.cells #[.int .i64 (x0 : Int), .int .i64 (y0 : Int), .int .i64 (x1 : Int), .int .i64 (y1 : Int)] 38 (0, 0)) := by rw [← hW0, ← hq]; exact (Below.heap_alloc _ _ _ (by simp; omega)).trans ((Below.heap_alloc _ _ _ (by simp)).trans (heap_alloc_new w _))
  have rm0 : W0.heap[q + 1]? = some (.cells #[.int .i64 X, .int .i64 Y, .int .i64 Ox, .int .i64 Oy, .slice IA n ic] 28 (0, 0)) := by rw [← hW0, ← hq]; exact (Below.heap_alloc _ _ _ (by simp)).trans (heap_alloc_new2 w _ _)
  have rp0 : W0.heap[q + 2]? = some (.cells #[.int .i64 Tx, .int .i64 Ty, .int .i64 (lv : Int), .int .i64 Cw, .int .i64 Ch, .int .i64 (pr : Int), .int .i64 St, .int .i64 (od : Int), .int .i64 (ly : Int), .bool rct, .bool sop, .bool eph] 30 (0, 0)) := by rw [← hW0, ← hq]; exact (by simpa using heap_alloc_new (World.alloc (World.alloc w _) _) _)
  have z0 : W0.heap.size = q + 3 := by rw [← hW0, ← hq]; simp
  have b0 : Below q w W0 := by rw [← hW0, ← hq]; exact below_alloc (below_alloc (below_alloc (Below.refl _ _) _) _) _
  clear hW0
  go_upto_region 2 with fail
  refine wp_region_lit ?_
  refine wpList_loadRow rfl rfl (by kernel_rfl) rt0 (by kernel_rfl) (by kernel_rfl) ?_
  refine wpList_loadRow rfl rfl (by kernel_rfl) rm0 (by kernel_rfl) (by kernel_rfl) ?_
  refine wpList_loadRow rfl rfl (by kernel_rfl) rp0 (by kernel_rfl) (by kernel_rfl) ?_
  go_wp2_with fail
  refine (HSp.out W0 ((HA.out.below b0).more (by omega))).mono ?_
  rintro e' W2 ⟨AS, cS, rfl, oS, h2⟩
  obtain ⟨NS, hNS⟩ : ∃ z, (Q.s1 n).length = z := ⟨_, rfl⟩
  rw [hNS] at oS ⊢
  have hNSb : NS ≤ 101400 := by have := HNS0.out; omega
  have HNS := Lib.hid hNS
  have HOS := Lib.hid oS.at_
  have rp2 := (h2.block (q + 2) (by omega)).trans rp0
  have HP := Lib.hid rp2
  have b2 := b0.trans (h2.mono (by omega))
  have z2 : q + 3 ≤ W2.heap.size := by have := h2.size; omega
  clear h2 rt0 rm0 rp0 b0 z0 oS rp2 HSp HNS0 hNS
  obtain ⟨B, hB⟩ : ∃ z, W2.heap.size = z := ⟨_, rfl⟩
  rw [hB] at HOS z2
  go_wp2_with fail
  go_loopg [7, 9] ly (fun kx s7 s9 wr => ∃ (j m : Nat) (L : List Spot) (A : Option Addr) (c : Nat), s7 = .slice A m c ∧ s9 = .int .i64 (j : Int) ∧ j ≤ ly ∧ ly - j ≤ kx ∧ Hid (L.length = m) ∧ Hid (L = Q.r1 j) ∧ Hid (OwnC wr B 80 10 (.slice A m c) m (rowT L)) ∧ Hid (Below B W2 wr))
  case atStart => exact ⟨0, 0, [], none, 0, rfl, rfl, by omega, by omega, Lib.hid rfl, Lib.hid rfl, Lib.hid (OwnC.nil_ _ _ _ _ _ (fun k => rfl)), Lib.hid (Below.refl _ _)⟩
  case round =>
    obtain ⟨j, m, L, A, c, rfl, rfl, hj, hkx, HLN, HL, HO, HB⟩ := hrel
    have pc8 : wr.cell? ⟨q + 2, 8, none⟩ = some (.int .i64 (ly : Int)) := cell_of_row _ _ 8 _ _ (0, 0) ((HB.out.block (q + 2) (by omega)).trans HP.out)
    by_cases hlt : j < ly
    · have hltz : (j : Int) < (ly : Int) := by omega
      go_wp2_with fail
      clear pc8
      go_loopg [7, 10] NS (fun ky s7 s10 wr => ∃ (i m : Nat) (L : List Spot) (A : Option Addr) (c : Nat), s7 = .slice A m c ∧ s10 = .int .i64 (i : Int) ∧ i ≤ NS ∧ NS - i ≤ ky ∧ Hid (L.length = m) ∧ Hid (L = Q.r1 j ++ ((Q.s1 n).take i).map (layS od j)) ∧ Hid (OwnC wr B 80 10 (.slice A m c) m (rowT L)) ∧ Hid (Below B W2 wr))
      case atStart => exact ⟨0, m, L, A, c, rfl, rfl, by omega, by omega, HLN, Lib.hid (by rw [HL.out]; simp), HO, HB⟩
      case round =>
        clear HLN HL HO HB
        obtain ⟨i, m, L, A, c, rfl, rfl, hi, hky, HLN, HL, HO, HB⟩ := hrel
        by_cases hli : i < NS
        · have hliz : (i : Int) < (NS : Int) := by omega
          have hcs := HOS.out.below HB.out
          obtain ⟨bs, os, hAS, hbs, hcs2⟩ := hcs (by omega)
          obtain ⟨s, hs⟩ : ∃ s, (Q.s1 n)[i]?.getD default = s := ⟨_, rfl⟩
          have ks : CellsL wr bs (os + i * 5) (fiveL s) := fun z u hu => hcs2 i hli z u (by show (fiveL ((Q.s1 n)[i]?.getD default))[z]? = some u; rw [hs]; exact hu)
          subst hAS
          obtain ⟨x, hx⟩ : ∃ x : Spot, layS od j s = x := ⟨_, rfl⟩
          have HRk := Lib.hid (fun V : World => (show Calls Try.prog 34 #[.int .i64 (od : Int), .agg #[.int .i64 s.rs, .int .i64 s.cm, .int .i64 s.pc, .int .i64 s.x, .int .i64 s.y], .int .i64 (j : Int)] V (fun e w' => e = .returned (.agg #[.int .i64 x.r0, .int .i64 x.r1, .int .i64 x.r2, .int .i64 x.r3, .int .i64 x.r4, .int .i64 x.r5]) ∧ Below V.heap.size V w') from by have h7 := rrank_any od j hod s V; rw [hx] at h7; exact h7))
          have HTN := Lib.hid (show tenL x = [.int .i64 (j : Int), .int .i64 s.rs, .int .i64 s.cm, .int .i64 s.pc, .int .i64 x.r0, .int .i64 x.r1, .int .i64 x.r2, .int .i64 x.r3, .int .i64 x.r4, .int .i64 x.r5] by rw [← hx]; exact lay_ten od j s)
          have HL2 := Lib.hid (show (L ++ [x]).length = m + 1 ∧ L ++ [x] = Q.r1 j ++ ((Q.s1 n).take (i + 1)).map (layS od j) by
            refine ⟨by rw [List.length_append, HLN.out]; rfl, ?_⟩
            rw [take_succ_map _ _ (by rw [HNS.out]; exact hli), hs, hx, HL.out, List.append_assoc])
          have HOf := Lib.hid (HO.out.congr (g := rowT (L ++ [x])) (fun _ => rfl) (fun z hz2 => by rw [rowT_lt L [x] (by rw [HLN.out]; exact hz2)]))
          have HF10 := Lib.hid (show rowT (L ++ [x]) m = tenL x by rw [← HLN.out, rowT_new])
          have hmb : m ≤ 1000000 := by
            have h7 := Q.r1_len HQ.out j
            have h8 : (((Q.s1 n).take i).map (layS od j)).length ≤ NS := by rw [List.length_map, List.length_take, HNS.out]; omega
            rw [← HLN.out, HL.out, List.length_append]
            omega
          have rp5 := (HB.out.block (q + 2) (by omega)).trans HP.out
          have zw5 : B ≤ wr.heap.size := by have := HB.out.size; omega
          have l0 : wr.cell? ⟨bs, os + i * 5, none⟩ = some (.int .i64 s.rs) := ks 0 _ rfl
          have l1 : wr.cell? ⟨bs, os + i * 5 + 1, none⟩ = some (.int .i64 s.cm) := ks 1 _ rfl
          have l2 : wr.cell? ⟨bs, os + i * 5 + 2, none⟩ = some (.int .i64 s.pc) := ks 2 _ rfl
          clear hs hx hcs hcs2
          go_wp2_with fail
          refine last_cut (by kernel_rfl) (fun U => CellsL U bs (os + i * 5) (fiveL s) ∧ U.heap[q + 2]? = some (.cells #[.int .i64 Tx, .int .i64 Ty, .int .i64 (lv : Int), .int .i64 Cw, .int .i64 Ch, .int .i64 (pr : Int), .int .i64 St, .int .i64 (od : Int), .int .i64 (ly : Int), .bool rct, .bool sop, .bool eph] 30 (0, 0)) ∧ U.cell? ⟨bs, os + i * 5, none⟩ = some (.int .i64 s.rs) ∧ U.cell? ⟨bs, os + i * 5 + 1, none⟩ = some (.int .i64 s.cm) ∧ U.cell? ⟨bs, os + i * 5 + 2, none⟩ = some (.int .i64 s.pc)) (fun aF a' W' => ∃ h0 g1 cap, a' = ((((((((((((((((((((((((((((((aF.put (some 29) (.slice A m c)).put (some 30) (.int .i64 (j : Int))).put (some 31) (.slice (some ⟨bs, os, none⟩) NS cS)).put (some 32) (.int .i64 (i : Int))).put (some 33) (.pointer (some ⟨bs, os + i * 5, none⟩))).put (some 34) (.pointer (some ⟨bs, os + i * 5, none⟩))).put (some 35) (.int .i64 s.rs)).put (some 36) (.slice (some ⟨bs, os, none⟩) NS cS)).put (some 37) (.int .i64 (i : Int))).put (some 38) (.pointer (some ⟨bs, os + i * 5, none⟩))).put (some 39) (.pointer (some ⟨bs, os + i * 5 + 1, none⟩))).put (some 40) (.int .i64 s.cm)).put (some 41) (.slice (some ⟨bs, os, none⟩) NS cS)).put (some 42) (.int .i64 (i : Int))).put (some 43) (.pointer (some ⟨bs, os + i * 5, none⟩))).put (some 44) (.pointer (some ⟨bs, os + i * 5 + 2, none⟩))).put (some 45) (.int .i64 s.pc)).put (some 46) (.agg #[.int .i64 (j : Int), .int .i64 s.rs, .int .i64 s.cm, .int .i64 s.pc])).put (some 47) (.pointer (some ⟨q + 2, 7, none⟩))).put (some 48) (.int .i64 (od : Int))).put (some 49) (.slice (some ⟨bs, os, none⟩) NS cS)).put (some 50) (.int .i64 (i : Int))).put (some 51) (.pointer (some ⟨bs, os + i * 5, none⟩))).put (some 52) (.agg #[.int .i64 s.rs, .int .i64 s.cm, .int .i64 s.pc, .int .i64 s.x, .int .i64 s.y])).put (some 53) (.int .i64 (j : Int))).put (some 54) (.agg #[.int .i64 x.r0, .int .i64 x.r1, .int .i64 x.r2, .int .i64 x.r3, .int .i64 x.r4, .int .i64 x.r5])).put (some 55) (.agg #[.int .i64 (j : Int), .int .i64 s.rs, .int .i64 s.cm, .int .i64 s.pc, .int .i64 x.r0, .int .i64 x.r1, .int .i64 x.r2, .int .i64 x.r3, .int .i64 x.r4, .int .i64 x.r5])).put (some 56) (.slice (some ⟨h0, 0, none⟩) 1 1)).put (some 57) (.slice (some ⟨g1, 0, none⟩) (m + 1) cap)).put (some 7) (.slice (some ⟨g1, 0, none⟩) (m + 1) cap)) ∧ OwnC W' B 80 10 (.slice (some ⟨g1, 0, none⟩) (m + 1) cap) (m + 1) (rowT (L ++ [x])) ∧ Below B wr W') ⟨ks, rp5, l0, l1, l2⟩ (fun hS => ?_) ?_
          · skip
            have hSB : ∀ U : World, Below (wr.heap.size) wr U → CellsL U bs (os + i * 5) (fiveL s) ∧ U.heap[q + 2]? = some (.cells #[.int .i64 Tx, .int .i64 Ty, .int .i64 (lv : Int), .int .i64 Cw, .int .i64 Ch, .int .i64 (pr : Int), .int .i64 St, .int .i64 (od : Int), .int .i64 (ly : Int), .bool rct, .bool sop, .bool eph] 30 (0, 0)) ∧ U.cell? ⟨bs, os + i * 5, none⟩ = some (.int .i64 s.rs) ∧ U.cell? ⟨bs, os + i * 5 + 1, none⟩ = some (.int .i64 s.cm) ∧ U.cell? ⟨bs, os + i * 5 + 2, none⟩ = some (.int .i64 s.pc) := fun U h => ⟨(ks).below (h) (by omega), (h.block (q + 2) (by omega)).trans (rp5), (h.cell (p := ⟨bs, os + i * 5, none⟩) (by simp only; omega)).trans (l0), (h.cell (p := ⟨bs, os + i * 5 + 1, none⟩) (by simp only; omega)).trans (l1), (h.cell (p := ⟨bs, os + i * 5 + 2, none⟩) (by simp only; omega)).trans (l2)⟩
            have bV : Below wr.heap.size wr wr.drew := (Below.refl _ _).drew
            generalize wr.drew = V0 at *
            change wpAnyL _ _ _ _ _ 30 #[false, false, false, false, false, false, false, false, false, false, false, false, false, false, false, false, false, false, false, false, false, false, false, false, false, false, false, false, false, false] _ _
            refine wpAnyL_take (i := 0) (v := .slice A m c) (by simp only [List.getElem?_toArray, List.getElem?_cons_succ, List.getElem?_cons_zero]; rfl) (by as_aux_lemma => kernel_rfl) (by as_aux_lemma => kernel_rfl) (by as_aux_lemma => kernel_rfl) (fun _ _ _ h => h) (Or.inl ⟨by rfl, ?_⟩) hS ?_
            · intro U hU
              obtain ⟨s0, s1, s2, s3, s4⟩ := hU
              kernel_rfl
            simp only [Act.put, List.setIfInBounds_toArray, List.set_cons_zero, List.set_cons_succ]
            refine wpAnyL_take (i := 1) (v := .int .i64 (j : Int)) (by simp only [List.getElem?_toArray, List.getElem?_cons_succ, List.getElem?_cons_zero]; rfl) (by as_aux_lemma => kernel_rfl) (by as_aux_lemma => kernel_rfl) (by as_aux_lemma => kernel_rfl) (fun _ _ _ h => h) (Or.inl ⟨by rfl, ?_⟩) hS ?_
            · intro U hU
              obtain ⟨s0, s1, s2, s3, s4⟩ := hU
              kernel_rfl
            simp only [Act.put, List.setIfInBounds_toArray, List.set_cons_zero, List.set_cons_succ]
            refine wpAnyL_take (i := 2) (v := .slice (some ⟨bs, os, none⟩) NS cS) (by simp only [List.getElem?_toArray, List.getElem?_cons_succ, List.getElem?_cons_zero]; rfl) (by as_aux_lemma => kernel_rfl) (by as_aux_lemma => kernel_rfl) (by as_aux_lemma => kernel_rfl) (fun _ _ _ h => h) (Or.inl ⟨by rfl, ?_⟩) hS ?_
            · intro U hU
              obtain ⟨s0, s1, s2, s3, s4⟩ := hU
              kernel_rfl
            simp only [Act.put, List.setIfInBounds_toArray, List.set_cons_zero, List.set_cons_succ]
            refine wpAnyL_take (i := 3) (v := .int .i64 (i : Int)) (by simp only [List.getElem?_toArray, List.getElem?_cons_succ, List.getElem?_cons_zero]; rfl) (by as_aux_lemma => kernel_rfl) (by as_aux_lemma => kernel_rfl) (by as_aux_lemma => kernel_rfl) (fun _ _ _ h => h) (Or.inl ⟨by rfl, ?_⟩) hS ?_
            · intro U hU
              obtain ⟨s0, s1, s2, s3, s4⟩ := hU
              kernel_rfl
            simp only [Act.put, List.setIfInBounds_toArray, List.set_cons_zero, List.set_cons_succ]
            refine wpAnyL_take (i := 4) (v := .pointer (some ⟨bs, os + i * 5, none⟩)) (by simp only [List.getElem?_toArray, List.getElem?_cons_succ, List.getElem?_cons_zero]; rfl) (by as_aux_lemma => kernel_rfl) (by as_aux_lemma => kernel_rfl) (by as_aux_lemma => kernel_rfl) (fun _ _ _ h => h) (Or.inl ⟨by rfl, ?_⟩) hS ?_
            · intro U hU
              obtain ⟨s0, s1, s2, s3, s4⟩ := hU
              go_simp
            simp only [Act.put, List.setIfInBounds_toArray, List.set_cons_zero, List.set_cons_succ]
            refine wpAnyL_take (i := 5) (v := .pointer (some ⟨bs, os + i * 5, none⟩)) (by simp only [List.getElem?_toArray, List.getElem?_cons_succ, List.getElem?_cons_zero]; rfl) (by as_aux_lemma => kernel_rfl) (by as_aux_lemma => kernel_rfl) (by as_aux_lemma => kernel_rfl) (fun _ _ _ h => h) (Or.inl ⟨by rfl, ?_⟩) hS ?_
            · intro U hU
              obtain ⟨s0, s1, s2, s3, s4⟩ := hU
              kernel_rfl
            simp only [Act.put, List.setIfInBounds_toArray, List.set_cons_zero, List.set_cons_succ]
            refine wpAnyL_take (i := 6) (v := .int .i64 s.rs) (by simp only [List.getElem?_toArray, List.getElem?_cons_succ, List.getElem?_cons_zero]; rfl) (by as_aux_lemma => kernel_rfl) (by as_aux_lemma => kernel_rfl) (by as_aux_lemma => kernel_rfl) (fun _ _ _ h => h) (Or.inl ⟨by rfl, ?_⟩) hS ?_
            · intro U hU
              obtain ⟨s0, s1, s2, s3, s4⟩ := hU
              exact exec_loadCell rfl rfl s2 (by kernel_rfl)
            simp only [Act.put, List.setIfInBounds_toArray, List.set_cons_zero, List.set_cons_succ]
            refine wpAnyL_take (i := 7) (v := .slice (some ⟨bs, os, none⟩) NS cS) (by simp only [List.getElem?_toArray, List.getElem?_cons_succ, List.getElem?_cons_zero]; rfl) (by as_aux_lemma => kernel_rfl) (by as_aux_lemma => kernel_rfl) (by as_aux_lemma => kernel_rfl) (fun _ _ _ h => h) (Or.inl ⟨by rfl, ?_⟩) hS ?_
            · intro U hU
              obtain ⟨s0, s1, s2, s3, s4⟩ := hU
              kernel_rfl
            simp only [Act.put, List.setIfInBounds_toArray, List.set_cons_zero, List.set_cons_succ]
            refine wpAnyL_take (i := 8) (v := .int .i64 (i : Int)) (by simp only [List.getElem?_toArray, List.getElem?_cons_succ, List.getElem?_cons_zero]; rfl) (by as_aux_lemma => kernel_rfl) (by as_aux_lemma => kernel_rfl) (by as_aux_lemma => kernel_rfl) (fun _ _ _ h => h) (Or.inl ⟨by rfl, ?_⟩) hS ?_
            · intro U hU
              obtain ⟨s0, s1, s2, s3, s4⟩ := hU
              kernel_rfl
            simp only [Act.put, List.setIfInBounds_toArray, List.set_cons_zero, List.set_cons_succ]
            refine wpAnyL_take (i := 9) (v := .pointer (some ⟨bs, os + i * 5, none⟩)) (by simp only [List.getElem?_toArray, List.getElem?_cons_succ, List.getElem?_cons_zero]; rfl) (by as_aux_lemma => kernel_rfl) (by as_aux_lemma => kernel_rfl) (by as_aux_lemma => kernel_rfl) (fun _ _ _ h => h) (Or.inl ⟨by rfl, ?_⟩) hS ?_
            · intro U hU
              obtain ⟨s0, s1, s2, s3, s4⟩ := hU
              go_simp
            simp only [Act.put, List.setIfInBounds_toArray, List.set_cons_zero, List.set_cons_succ]
            refine wpAnyL_take (i := 10) (v := .pointer (some ⟨bs, os + i * 5 + 1, none⟩)) (by simp only [List.getElem?_toArray, List.getElem?_cons_succ, List.getElem?_cons_zero]; rfl) (by as_aux_lemma => kernel_rfl) (by as_aux_lemma => kernel_rfl) (by as_aux_lemma => kernel_rfl) (fun _ _ _ h => h) (Or.inl ⟨by rfl, ?_⟩) hS ?_
            · intro U hU
              obtain ⟨s0, s1, s2, s3, s4⟩ := hU
              kernel_rfl
            simp only [Act.put, List.setIfInBounds_toArray, List.set_cons_zero, List.set_cons_succ]
            refine wpAnyL_take (i := 11) (v := .int .i64 s.cm) (by simp only [List.getElem?_toArray, List.getElem?_cons_succ, List.getElem?_cons_zero]; rfl) (by as_aux_lemma => kernel_rfl) (by as_aux_lemma => kernel_rfl) (by as_aux_lemma => kernel_rfl) (fun _ _ _ h => h) (Or.inl ⟨by rfl, ?_⟩) hS ?_
            · intro U hU
              obtain ⟨s0, s1, s2, s3, s4⟩ := hU
              exact exec_loadCell rfl rfl s3 (by kernel_rfl)
            simp only [Act.put, List.setIfInBounds_toArray, List.set_cons_zero, List.set_cons_succ]
            refine wpAnyL_take (i := 12) (v := .slice (some ⟨bs, os, none⟩) NS cS) (by simp only [List.getElem?_toArray, List.getElem?_cons_succ, List.getElem?_cons_zero]; rfl) (by as_aux_lemma => kernel_rfl) (by as_aux_lemma => kernel_rfl) (by as_aux_lemma => kernel_rfl) (fun _ _ _ h => h) (Or.inl ⟨by rfl, ?_⟩) hS ?_
            · intro U hU
              obtain ⟨s0, s1, s2, s3, s4⟩ := hU
              kernel_rfl
            simp only [Act.put, List.setIfInBounds_toArray, List.set_cons_zero, List.set_cons_succ]
            refine wpAnyL_take (i := 13) (v := .int .i64 (i : Int)) (by simp only [List.getElem?_toArray, List.getElem?_cons_succ, List.getElem?_cons_zero]; rfl) (by as_aux_lemma => kernel_rfl) (by as_aux_lemma => kernel_rfl) (by as_aux_lemma => kernel_rfl) (fun _ _ _ h => h) (Or.inl ⟨by rfl, ?_⟩) hS ?_
            · intro U hU
              obtain ⟨s0, s1, s2, s3, s4⟩ := hU
              kernel_rfl
            simp only [Act.put, List.setIfInBounds_toArray, List.set_cons_zero, List.set_cons_succ]
            refine wpAnyL_take (i := 14) (v := .pointer (some ⟨bs, os + i * 5, none⟩)) (by simp only [List.getElem?_toArray, List.getElem?_cons_succ, List.getElem?_cons_zero]; rfl) (by as_aux_lemma => kernel_rfl) (by as_aux_lemma => kernel_rfl) (by as_aux_lemma => kernel_rfl) (fun _ _ _ h => h) (Or.inl ⟨by rfl, ?_⟩) hS ?_
            · intro U hU
              obtain ⟨s0, s1, s2, s3, s4⟩ := hU
              go_simp
            simp only [Act.put, List.setIfInBounds_toArray, List.set_cons_zero, List.set_cons_succ]
            refine wpAnyL_take (i := 15) (v := .pointer (some ⟨bs, os + i * 5 + 2, none⟩)) (by simp only [List.getElem?_toArray, List.getElem?_cons_succ, List.getElem?_cons_zero]; rfl) (by as_aux_lemma => kernel_rfl) (by as_aux_lemma => kernel_rfl) (by as_aux_lemma => kernel_rfl) (fun _ _ _ h => h) (Or.inl ⟨by rfl, ?_⟩) hS ?_
            · intro U hU
              obtain ⟨s0, s1, s2, s3, s4⟩ := hU
              kernel_rfl
            simp only [Act.put, List.setIfInBounds_toArray, List.set_cons_zero, List.set_cons_succ]
            refine wpAnyL_take (i := 16) (v := .int .i64 s.pc) (by simp only [List.getElem?_toArray, List.getElem?_cons_succ, List.getElem?_cons_zero]; rfl) (by as_aux_lemma => kernel_rfl) (by as_aux_lemma => kernel_rfl) (by as_aux_lemma => kernel_rfl) (fun _ _ _ h => h) (Or.inl ⟨by rfl, ?_⟩) hS ?_
            · intro U hU
              obtain ⟨s0, s1, s2, s3, s4⟩ := hU
              exact exec_loadCell rfl rfl s4 (by kernel_rfl)
            simp only [Act.put, List.setIfInBounds_toArray, List.set_cons_zero, List.set_cons_succ]
            refine wpAnyL_take (i := 17) (v := .agg #[.int .i64 (j : Int), .int .i64 s.rs, .int .i64 s.cm, .int .i64 s.pc]) (by simp only [List.getElem?_toArray, List.getElem?_cons_succ, List.getElem?_cons_zero]; rfl) (by as_aux_lemma => kernel_rfl) (by as_aux_lemma => kernel_rfl) (by as_aux_lemma => kernel_rfl) (fun _ _ _ h => h) (Or.inl ⟨by rfl, ?_⟩) hS ?_
            · intro U hU
              obtain ⟨s0, s1, s2, s3, s4⟩ := hU
              kernel_rfl
            simp only [Act.put, List.setIfInBounds_toArray, List.set_cons_zero, List.set_cons_succ]
            refine wpAnyL_take (i := 18) (v := .pointer (some ⟨q + 2, 7, none⟩)) (by simp only [List.getElem?_toArray, List.getElem?_cons_succ, List.getElem?_cons_zero]; rfl) (by as_aux_lemma => kernel_rfl) (by as_aux_lemma => kernel_rfl) (by as_aux_lemma => kernel_rfl) (fun _ _ _ h => h) (Or.inl ⟨by rfl, ?_⟩) hS ?_
            · intro U hU
              obtain ⟨s0, s1, s2, s3, s4⟩ := hU
              kernel_rfl
            simp only [Act.put, List.setIfInBounds_toArray, List.set_cons_zero, List.set_cons_succ]
            refine wpAnyL_take (i := 19) (v := .int .i64 (od : Int)) (by simp only [List.getElem?_toArray, List.getElem?_cons_succ, List.getElem?_cons_zero]; rfl) (by as_aux_lemma => kernel_rfl) (by as_aux_lemma => kernel_rfl) (by as_aux_lemma => kernel_rfl) (fun _ _ _ h => h) (Or.inl ⟨by rfl, ?_⟩) hS ?_
            · intro U hU
              obtain ⟨s0, s1, s2, s3, s4⟩ := hU
              have r1_7 : U.cell? ⟨q + 2, 7, none⟩ = some (.int .i64 (od : Int)) := cell_of_row _ _ 7 _ _ (0, 0) s1
              exact exec_loadCell rfl rfl r1_7 (by kernel_rfl)
            simp only [Act.put, List.setIfInBounds_toArray, List.set_cons_zero, List.set_cons_succ]
            refine wpAnyL_take (i := 20) (v := .slice (some ⟨bs, os, none⟩) NS cS) (by simp only [List.getElem?_toArray, List.getElem?_cons_succ, List.getElem?_cons_zero]; rfl) (by as_aux_lemma => kernel_rfl) (by as_aux_lemma => kernel_rfl) (by as_aux_lemma => kernel_rfl) (fun _ _ _ h => h) (Or.inl ⟨by rfl, ?_⟩) hS ?_
            · intro U hU
              obtain ⟨s0, s1, s2, s3, s4⟩ := hU
              kernel_rfl
            simp only [Act.put, List.setIfInBounds_toArray, List.set_cons_zero, List.set_cons_succ]
            refine wpAnyL_take (i := 21) (v := .int .i64 (i : Int)) (by simp only [List.getElem?_toArray, List.getElem?_cons_succ, List.getElem?_cons_zero]; rfl) (by as_aux_lemma => kernel_rfl) (by as_aux_lemma => kernel_rfl) (by as_aux_lemma => kernel_rfl) (fun _ _ _ h => h) (Or.inl ⟨by rfl, ?_⟩) hS ?_
            · intro U hU
              obtain ⟨s0, s1, s2, s3, s4⟩ := hU
              kernel_rfl
            simp only [Act.put, List.setIfInBounds_toArray, List.set_cons_zero, List.set_cons_succ]
            refine wpAnyL_take (i := 22) (v := .pointer (some ⟨bs, os + i * 5, none⟩)) (by simp only [List.getElem?_toArray, List.getElem?_cons_succ, List.getElem?_cons_zero]; rfl) (by as_aux_lemma => kernel_rfl) (by as_aux_lemma => kernel_rfl) (by as_aux_lemma => kernel_rfl) (fun _ _ _ h => h) (Or.inl ⟨by rfl, ?_⟩) hS ?_
            · intro U hU
              obtain ⟨s0, s1, s2, s3, s4⟩ := hU
              go_simp
            simp only [Act.put, List.setIfInBounds_toArray, List.set_cons_zero, List.set_cons_succ]
            refine wpAnyL_take (i := 23) (v := .agg #[.int .i64 s.rs, .int .i64 s.cm, .int .i64 s.pc, .int .i64 s.x, .int .i64 s.y]) (by simp only [List.getElem?_toArray, List.getElem?_cons_succ, List.getElem?_cons_zero]; rfl) (by as_aux_lemma => kernel_rfl) (by as_aux_lemma => kernel_rfl) (by as_aux_lemma => kernel_rfl) (fun _ _ _ h => h) (Or.inl ⟨by rfl, ?_⟩) hS ?_
            · intro U hU
              obtain ⟨s0, s1, s2, s3, s4⟩ := hU
              exact exec_loadK rfl rfl (by kernel_rfl) (by kernel_rfl) s0.load
            simp only [Act.put, List.setIfInBounds_toArray, List.set_cons_zero, List.set_cons_succ]
            refine wpAnyL_take (i := 24) (v := .int .i64 (j : Int)) (by simp only [List.getElem?_toArray, List.getElem?_cons_succ, List.getElem?_cons_zero]; rfl) (by as_aux_lemma => kernel_rfl) (by as_aux_lemma => kernel_rfl) (by as_aux_lemma => kernel_rfl) (fun _ _ _ h => h) (Or.inl ⟨by rfl, ?_⟩) hS ?_
            · intro U hU
              obtain ⟨s0, s1, s2, s3, s4⟩ := hU
              kernel_rfl
            simp only [Act.put, List.setIfInBounds_toArray, List.set_cons_zero, List.set_cons_succ]
            refine wpAnyL_ready (rs := [25]) (by as_aux_lemma => kernel_rfl) (by simp) ?_
            refine AllReadyL.cons (by simp only [List.getElem?_toArray, List.getElem?_cons_succ, List.getElem?_cons_zero]; rfl) (fun K' hK' => ?_) AllReadyL.nil
            go_simp
            go_at_call 34
            refine (HRk.out _).mono ?_
            rintro e' U3 ⟨rfl, hb3⟩
            have b3 := below_trans bV hb3
            have hS := hSB _ b3
            dsimp only
            refine hK'.out _ _ hS (fun _ => ?_)
            clear hb3 bV
            clear hK' K'
            try simp only [Act.put, List.setIfInBounds_toArray, List.set_cons_zero, List.set_cons_succ]
            refine wpAnyL_take (i := 26) (v := .agg #[.int .i64 (j : Int), .int .i64 s.rs, .int .i64 s.cm, .int .i64 s.pc, .int .i64 x.r0, .int .i64 x.r1, .int .i64 x.r2, .int .i64 x.r3, .int .i64 x.r4, .int .i64 x.r5]) (by simp only [List.getElem?_toArray, List.getElem?_cons_succ, List.getElem?_cons_zero]; rfl) (by as_aux_lemma => kernel_rfl) (by as_aux_lemma => kernel_rfl) (by as_aux_lemma => kernel_rfl) (fun _ _ _ h => h) (Or.inl ⟨by rfl, ?_⟩) hS ?_
            · intro U hU
              obtain ⟨s0, s1, s2, s3, s4⟩ := hU
              kernel_rfl
            simp only [Act.put, List.setIfInBounds_toArray, List.set_cons_zero, List.set_cons_succ]
            refine wpAnyL_ready (rs := [27]) (by as_aux_lemma => kernel_rfl) (by simp) ?_
            refine AllReadyL.cons (by simp only [List.getElem?_toArray, List.getElem?_cons_succ, List.getElem?_cons_zero]; rfl) (fun K' hK' => ?_) AllReadyL.nil
            go_simp
            have hb24 := below_alloc b3 (.cells #[.int .i64 (j : Int), .int .i64 s.rs, .int .i64 s.cm, .int .i64 s.pc, .int .i64 x.r0, .int .i64 x.r1, .int .i64 x.r2, .int .i64 x.r3, .int .i64 x.r4, .int .i64 x.r5] 80)
            have xl := heap_alloc_new U3 (.cells #[.int .i64 (j : Int), .int .i64 s.rs, .int .i64 s.cm, .int .i64 s.pc, .int .i64 x.r0, .int .i64 x.r1, .int .i64 x.r2, .int .i64 x.r3, .int .i64 x.r4, .int .i64 x.r5] 80)
            obtain ⟨h0, hh0⟩ : ∃ g, U3.heap.size = g := ⟨_, rfl⟩
            generalize U3.alloc (.cells #[.int .i64 (j : Int), .int .i64 s.rs, .int .i64 s.cm, .int .i64 s.pc, .int .i64 x.r0, .int .i64 x.r1, .int .i64 x.r2, .int .i64 x.r3, .int .i64 x.r4, .int .i64 x.r5] 80) = U24 at *
            rw [hh0] at xl ⊢
            clear hh0
            have hS := hSB _ hb24
            refine hK'.out _ _ hS (fun _ => ?_)
            clear hK' K'
            try simp only [Act.put, List.setIfInBounds_toArray, List.set_cons_zero, List.set_cons_succ]
            refine wpAnyL_ready (rs := [28]) (by as_aux_lemma => kernel_rfl) (by simp) ?_
            refine AllReadyL.cons (by simp only [List.getElem?_toArray, List.getElem?_cons_succ, List.getElem?_cons_zero]; rfl) (fun K' hK' => ?_) AllReadyL.nil
            have hcel : ∀ (i : Nat) (u : Value), (rowT (L ++ [x]) m)[i]? = some u → U24.cell? ⟨h0, i, none⟩ = some u := fun i u hi => by
              rw [cell_of_row _ _ _ _ _ (0, 0) xl, ← hi, HF10.out, HTN.out, List.getElem?_toArray]
            have hone : ∀ u ∈ rowT (L ++ [x]) m, u.oneCell' = true := by rw [HF10.out]; exact one_ten x
            refine step_appC wr hb24 (others_of_below hb24) (by rfl) _ _ 73 (by rfl) 80 10 ten_elem B A m c (rowT (L ++ [x])) (by rfl) HOf.out h0 (by rfl) hcel hone (by omega) zw5 ?_
            intro g1 cap U25 og sg hg
            have hS := And.intro (CellsL.below ks sg.below hbs) (And.intro ((sg.below.block (q + 2) (by omega)).trans rp5) (And.intro ((sg.below.cell (p := ⟨bs, os + i * 5, none⟩) hbs).trans l0) (And.intro ((sg.below.cell (p := ⟨bs, os + i * 5 + 1, none⟩) hbs).trans l1) ((sg.below.cell (p := ⟨bs, os + i * 5 + 2, none⟩) hbs).trans l2))))
            refine hK'.out _ _ hS (fun _ => ?_)
            clear hcel hone
            clear hK' K'
            try simp only [Act.put, List.setIfInBounds_toArray, List.set_cons_zero, List.set_cons_succ]
            refine wpAnyL_take (i := 29) (v := .slice (some ⟨g1, 0, none⟩) (m + 1) cap) (by simp only [List.getElem?_toArray, List.getElem?_cons_succ, List.getElem?_cons_zero]; rfl) (by as_aux_lemma => kernel_rfl) (by as_aux_lemma => kernel_rfl) (by as_aux_lemma => kernel_rfl) (fun _ _ _ h => h) (Or.inl ⟨by rfl, ?_⟩) hS ?_
            · intro U hU
              obtain ⟨s0, s1, s2, s3, s4⟩ := hU
              kernel_rfl
            simp only [Act.put, List.setIfInBounds_toArray, List.set_cons_zero, List.set_cons_succ]
            refine wpAnyL_done (by as_aux_lemma => kernel_rfl) ?_ _
            simp only [OnlyN]
            refine ⟨h0, g1, cap, ?_, og, sg.below⟩
            (try simp only [Act.put, List.setIfInBounds_toArray, List.set_cons_zero, List.set_cons_succ])
          rintro a' Wb ⟨h0, g1, cap, rfl, og, h9⟩
          simp only [Act.put, List.setIfInBounds_toArray, List.set_cons_zero, List.set_cons_succ]
          have HOg := Lib.hid og
          have HB9 := Lib.hid (HB.out.trans h9)
          have WK := wrap_add1 (a := i) (c := i + 1) rfl (by omega)
          clear og h9 HO HB HOf HF10 HL HLN HTN HRk ks l0 l1 l2 rp5
          go_wp2_with fail
          go_roundg (NS - (i + 1))
          case measure => omega
          case rel => exact ⟨i + 1, m + 1, L ++ [x], some ⟨g1, 0, none⟩, cap, rfl, by go_num, by omega, Nat.le_refl _, Lib.hid HL2.out.1, Lib.hid HL2.out.2, HOg, HB9⟩
        · have hliz : ¬ (i : Int) < (NS : Int) := by omega
          have he := Lib.hid (show i = NS by omega)
          have WJ := wrap_add1 (a := j) (c := j + 1) rfl (by omega)
          go_wp2_with fail
          go_roundg (ly - (j + 1))
          case measure => omega
          case rel => exact ⟨j + 1, m, L, A, c, rfl, by go_num, by omega, Nat.le_refl _, HLN, Lib.hid (by rw [HL.out, Q.r1_succ, he.out, ← HNS.out, List.take_length, HEQ.out.2.2.2.2.2.2.2.2, HEQ.out.2.2.2.2.2.2.1]), HO, HB⟩
    · have hltz : ¬ (j : Int) < (ly : Int) := by omega
      have he := Lib.hid (show j = ly by omega)
      have hmb : m ≤ 1000000 := by
        have h7 := Q.r1_len HQ.out j
        rw [← HLN.out, HL.out]
        omega
      have HRL := Lib.hid (show L.Perm (Q.l1 ly) by rw [HL.out, he.out]; exact Q.r1_perm ly)
      have zwr : B ≤ wr.heap.size := by have := HB.out.size; omega
      have HSO := Lib.hid (sorted_any m L (by rw [HLN.out]; exact Nat.le_refl _) (by rw [HLN.out]; exact hmb) A c (by rw [HLN.out]; exact HO.out.cap.1) wr (by rw [HLN.out]; exact HO.out.at_))
      rw [HLN.out] at HSO
      go_wp2_with fail
      clear pc8
      refine HSO.out.mono ?_
      rintro e' Ws ⟨K, XK, cK, rfl, hKp, hKs, hKc, hKa, hbs⟩
      have HK := Lib.hid (And.intro (hKp.trans HRL.out) hKs)
      have hKl : K.length = m := hKp.length_eq.trans HLN.out
      have HKL := Lib.hid hKl
      have HKA := Lib.hid hKa
      have bz := b2.trans ((HB.out.trans (hbs.mono zwr)).mono (by omega))
      have zs : B ≤ Ws.heap.size := Nat.le_trans zwr hbs.size
      clear hKp hKs hKl hKa hKc hbs HSO HRL HLN HL HO HB
      obtain ⟨BS, hBS⟩ : ∃ z, Ws.heap.size = z := ⟨_, rfl⟩
      rw [hBS] at HKA zs
      go_wp2_with fail
      go_loopg [11, 12] m (fun ky s11 s12 wr => ∃ (i : Nat) (A : Option Addr) (c : Nat), s11 = .slice A i c ∧ s12 = .int .i64 (i : Int) ∧ i ≤ m ∧ m - i ≤ ky ∧ Hid (OwnC wr BS 43 4 (.slice A i c) i (fun k => (rowS K k).take 4)) ∧ Hid (Below BS Ws wr))
      case atStart => exact ⟨0, none, 0, rfl, rfl, by omega, by omega, Lib.hid (OwnC.nil_ _ _ _ _ _ (fun k => rfl)), Lib.hid (Below.refl _ _)⟩
      case round =>
        obtain ⟨i, A, c, rfl, rfl, hi, hky, HO, HB⟩ := hrel
        by_cases hli : i < m
        · have hliz : (i : Int) < (m : Int) := by omega
          obtain ⟨bk, ok, hXK, hbk, hck⟩ := (HKA.out.below HB.out) (by omega)
          subst hXK
          obtain ⟨s, hs⟩ : ∃ s, K[i]?.getD default = s := ⟨_, rfl⟩
          have ks : CellsL wr bk (ok + i * 10) (tenL s) := fun z u hu => hck i hli z u (by show (tenL (K[i]?.getD default))[z]? = some u; rw [hs]; exact hu)
          have HF4 := Lib.hid (show (rowS K i).take 4 = [.int .i64 s.ly, .int .i64 s.rs, .int .i64 s.cm, .int .i64 s.pc] by unfold rowS; rw [hs]; rfl)
          have l0 : wr.cell? ⟨bk, ok + i * 10, none⟩ = some (.int .i64 s.ly) := ks 0 _ rfl
          have l1 : wr.cell? ⟨bk, ok + i * 10 + 1, none⟩ = some (.int .i64 s.rs) := ks 1 _ rfl
          have l2 : wr.cell? ⟨bk, ok + i * 10 + 2, none⟩ = some (.int .i64 s.cm) := ks 2 _ rfl
          have l3 : wr.cell? ⟨bk, ok + i * 10 + 3, none⟩ = some (.int .i64 s.pc) := ks 3 _ rfl
          have zwr : BS ≤ wr.heap.size := by have := HB.out.size; omega
          have HCE := Lib.hid (show (∀ (T : TypeId) (z : Nat) (u : Value), ((rowS K i).take 4)[z]? = some u → (wr.alloc (.cells #[.int .i64 s.ly, .int .i64 s.rs, .int .i64 s.cm, .int .i64 s.pc] T)).cell? ⟨wr.heap.size, z, none⟩ = some u) ∧ ∀ u ∈ (rowS K i).take 4, u.oneCell' = true by
            rw [HF4.out]
            refine ⟨fun T z u hu => ?_, fun u hu => ?_⟩
            · rw [cell_of_row _ _ _ _ _ (0, 0) (heap_alloc_new wr _), ← hu, List.getElem?_toArray]
            · simp only [List.mem_cons, List.not_mem_nil, or_false] at hu
              rcases hu with rfl | rfl | rfl | rfl <;> rfl)
          have WK := wrap_add1 (a := i) (c := i + 1) rfl (by omega)
          have HO2 := Lib.hid HO.out
          clear hs hck ks HO
          go_wp2_with (at_builtin; refine wpList_appC wr ((Below.refl _ _).alloc (Nat.le_refl _) _) (KeepsOthers.alloc _ _) rfl _ _ 39 rfl 43 4 rkey_elem BS A i c (fun k => (rowS K k).take 4) rfl HO2.out wr.heap.size rfl (HCE.out.1 _) HCE.out.2 (by omega) zwr ?_; intro g1 cap Wg og sg hg)
          have HOg := Lib.hid og
          have HBg := Lib.hid (HB.out.trans sg.below)
          clear og sg HO2 HB HCE
          go_roundg (m - (i + 1))
          case measure => omega
          case rel => exact ⟨i + 1, some ⟨g1, 0, none⟩, cap, rfl, by go_num, by omega, Nat.le_refl _, HOg, HBg⟩
        · have hliz : ¬ (i : Int) < (m : Int) := by omega
          have hie : i = m := by omega
          have HZ := Lib.hid (show OwnC wr q 43 4 (.slice A m c) m (fun k => (rowS K k).take 4) ∧ Below q w wr from ⟨by have h7 := HO.out; rw [hie] at h7; exact h7.mono (by omega), bz.trans (HB.out.mono (by omega))⟩)
          have HIE := Lib.hid hie
          clear hie
          go_wp2_with fail
          go_ret
          refine ⟨K, A, c, ?_, HK.out.1, HK.out.2, ?_, ?_⟩
          · rw [HKL.out, ← HIE.out]; rfl
          · rw [HKL.out]; first | exact HZ.out.1 | (rw [hq]; exact HZ.out.1)
          · first | exact HZ.out.2 | (rw [hq]; exact HZ.out.2)
end Go.Proofs.Ytpgkdpoehkdhcaa
namespace Go.Proofs.Ytpgkdpoehkdhcaa
open Go.RowKit
attribute [local go_sem] opv opnd
set_option maxHeartbeats 40000000
set_option linter.unusedVariables false
set_option linter.unusedSimpArgs false
set_option maxRecDepth 1000000
/-- a rectangle whose numbers are natural and small -/
theorem tile_nat {X Y O P tx ty : Nat} (hX : X ≤ 64) (hY : Y ≤ 64) (ho : O ≤ X) (hp : P ≤ Y) (h1 : 1 ≤ tx) (h2 : 1 ≤ ty) {i : Nat} (hi : i < byN X tx * byN Y ty) :
    ∃ a b c d : Nat, tileR X Y O P tx ty (gridAt (byN X tx) i) = ⟨(a : Int), (b : Int), (c : Int), (d : Int)⟩ ∧ a ≤ 64 ∧ b ≤ 64 ∧ c ≤ 64 ∧ d ≤ 64 := by
  have hW0 : 0 < byN X tx := by
    rcases Nat.eq_zero_or_pos (byN X tx) with h | h
    · rw [h, Nat.zero_mul] at hi; omega
    · exact h
  have hx := Nat.mod_lt i hW0
  have hy : i / byN X tx < byN Y ty := by rw [Nat.div_lt_iff_lt_mul hW0, Nat.mul_comm]; exact hi
  unfold gridAt
  generalize i % byN X tx = x at *
  generalize i / byN X tx = y at *
  have key : ∀ n d k : Nat, 1 ≤ d → k < byN n d → k * d < n := fun n d k hd hk => by
    unfold byN at hk
    have h1 : k + 1 ≤ (n + d - 1) / d := hk
    rw [Nat.le_div_iff_mul_le (by omega), Nat.add_mul, Nat.one_mul] at h1
    omega
  have kx := key X tx x h1 hx
  have ky := key Y ty y h2 hy
  unfold tileR bothR mxI mnI
  simp only
  refine ⟨if O < x * tx then x * tx else O, if P < y * ty then y * ty else P, if (x + 1) * tx < X then (x + 1) * tx else X, if (y + 1) * ty < Y then (y + 1) * ty else Y, ?_, by split <;> omega, by split <;> omega, by split <;> omega, by split <;> omega⟩
  have e1 : (x : Int) * (tx : Int) = ((x * tx : Nat) : Int) := (Int.natCast_mul _ _).symm
  have e2 : (y : Int) * (ty : Int) = ((y * ty : Nat) : Int) := (Int.natCast_mul _ _).symm
  have e3 : ((x : Int) + 1) * (tx : Int) = (((x + 1) * tx : Nat) : Int) := by rw [Int.natCast_mul]; rfl
  have e4 : ((y : Int) + 1) * (ty : Int) = (((y + 1) * ty : Nat) : Int) := by rw [Int.natCast_mul]; rfl
  rw [e1, e2, e3, e4]
  generalize x * tx = m1
  generalize y * ty = m2
  generalize (x + 1) * tx = m3
  generalize (y + 1) * ty = m4
  congr 1 <;> (split <;> split <;> omega)
theorem ordLst_walk (fX fY fOx fOy fC fD fS : Int) (fsg frct fsop feph : Bool) (fTx fTy fL fcw fch fP fSt fO fLy : Int) (NA : Option Addr) (nN cN : Nat) (Nf : Nat → Int)  (w : World) (hN : IntsAt w w.heap.size NA nN Nf) (hNf : ∀ k, k < nN → -9223372036854775808 ≤ Nf k ∧ Nf k ≤ 9223372036854775807) (hNn : nN ≤ 9223372036854775807) (hSb : -9223372036854775808 ≤ fS ∧ fS ≤ 9223372036854775807)  :
    Calls Try.prog 3 #[.agg #[.int .i64 fX, .int .i64 fY, .int .i64 fOx, .int .i64 fOy, .int .i64 fC, .int .i64 fD, .int .i64 fS, .bool fsg, .bool frct, .bool fsop, .bool feph, .int .i64 fTx, .int .i64 fTy, .int .i64 fL, .int .i64 fcw, .int .i64 fch, .int .i64 fP, .int .i64 fSt, .int .i64 fO, .int .i64 fLy, .slice NA nN cN]] w fun e w' => e = .returned (.bool true) ∧ Below w.heap.size w w' := by
  have HMk := Lib.hid (fun (v : World) (h : IntsAt v v.heap.size NA nN Nf) => make_any fX fY fOx fOy fC fD fS fsg frct fsop feph fTx fTy fL fcw fch fP fSt fO fLy NA nN cN Nf 20 (by omega) (by omega) v h hNf hNn hSb)
  rw [show ((20 : Nat) : Int) = 20 from rfl] at HMk
  have HN := Lib.hid hN
  clear hN hNf hNn hSb
  go_enter Try.func3, Try.ntmps3
  go_wp2_with fail
  obtain ⟨q, hq⟩ : ∃ q, w.heap.size = q := ⟨_, rfl⟩
  generalize hw0 : World.alloc w _ = W0
  have f0 : W0.heap[q]? = some (.cells #[.int .i64 fX, .int .i64 fY, .int .i64 fOx, .int .i64 fOy, .int .i64 fC, .int .i64 fD, .int .i64 fS, .bool fsg, .bool frct, .bool fsop, .bool feph, .int .i64 fTx, .int .i64 fTy, .int .i64 fL, .int .i64 fcw, .int .i64 fch, .int .i64 fP, .int .i64 fSt, .int .i64 fO, .int .i64 fLy, .slice NA nN cN] 24 (0, 0)) := by rw [← hw0, ← hq]; exact heap_alloc_new w _
  have z0 : W0.heap.size = q + 1 := by rw [← hw0, ← hq]; simp
  have b0 : Below q w W0 := by rw [← hw0, ← hq]; exact below_alloc (Below.refl _ _) _
  clear hw0
  refine (known16_any _).mono ?_
  rintro e' W1 ⟨rfl, h1⟩
  have f1 := (h1.block q (by omega)).trans f0
  have b1 := b0.trans (h1.mono (by omega))
  have z1 : q + 1 ≤ W1.heap.size := by have := h1.size; omega
  clear h1 f0 b0 z0
  go_upto_region 3 with fail
  refine wp_region_lit ?_
  refine wpList_loadRow rfl rfl rfl f1 (by kernel_rfl) (by kernel_rfl) ?_
  go_wp2_with fail
  refine (HMk.out W1 ((HN.out.below (by rw [hq]; exact b1)).more (by have := b1.size; omega))).mono ?_
  rintro e' W2 ⟨Xn, Yn, On, Pn, tx, ty, lv, cw, ch, pr, st, od, ly, n, dn, rct, PL, A, c, F, G, rfl, hP, hI, h2⟩
  have b2 := b1.trans (h2.mono (by omega))
  have z2 : q + 1 ≤ W2.heap.size := by have := h2.size; omega
  have hI := hI.mono z1
  clear h2 b1 f1
  have HP := Lib.hid hP
  have HI := Lib.hid hI
  clear hP hI HMk HN
  unfold imgV parV
  go_upto_region 4 with fail
  obtain ⟨gm, hgm⟩ : ∃ g, W2.heap.size = g := ⟨_, rfl⟩
  generalize hV3 : World.alloc (World.alloc W2 _) _ = V3
  have img : V3.heap[gm]? = some (.cells #[.int .i64 Xn, .int .i64 Yn, .int .i64 On, .int .i64 Pn, .slice A n c] 28 (0, 0)) := by rw [← hV3, ← hgm]; exact (Below.heap_alloc _ _ _ (by simp)).trans (heap_alloc_new W2 _)
  have par : V3.heap[gm + 1]? = some (.cells #[.int .i64 tx, .int .i64 ty, .int .i64 lv, .int .i64 cw, .int .i64 ch, .int .i64 pr, .int .i64 st, .int .i64 od, .int .i64 ly, .bool rct, .bool fsop, .bool feph] 30 (0, 0)) := by rw [← hV3, ← hgm]; exact heap_alloc_new2 W2 _ _
  have h3 : Below gm W2 V3 := by rw [← hV3, ← hgm]; exact below_alloc (below_alloc (Below.refl _ _) _) _
  have z3 : V3.heap.size = gm + 2 := by rw [← hV3, ← hgm]; simp
  rw [hgm] at z2 ⊢
  clear hV3
  have HI3 := Lib.hid (HI.out.below (by rw [hgm]; exact h3))
  have b3 := b2.trans (h3.mono (by omega))
  clear HI b2 h3
  have hnum : 1 ≤ n ∧ n ≤ 4 := ⟨HP.out.num.1, HP.out.num.2.1⟩
  obtain ⟨g, rfl, hgq, hgl⟩ := HI3.out.comps.row (by omega)
  have HFR := Lib.hid (fun (o : Nat) (ho : o ≤ 4) => made_frame (HP.out.with_ (pr' := pr) (od' := o) (by have := HP.out.bds; omega) ho) (by omega) HI3.out.good)
  have hgg : g < gm := by
    have e1 : g ≠ gm := fun e => HI3.out.comps.ne_block img (by decide) (by rw [e]; rfl)
    have e2 : g ≠ gm + 1 := fun e => HI3.out.comps.ne_block par (by decide) (by rw [e]; rfl)
    omega
  have hca : CompsAt V3 gm (some ⟨g, 0, none⟩) n F := fun h0 => by
    obtain ⟨b, off, e, _, hk⟩ := HI3.out.compsAt.1 h0
    cases e
    exact ⟨g, 0, rfl, hgg, hk⟩
  have hnc := HI3.out.compsAt.2
  have HGood := Lib.hid HI3.out.good
  have HCA := Lib.hid hca
  clear hca HI3 hI hgl
  have hon := HP.out.on
  have hxs := HP.out.xs
  have hts := HP.out.ts
  have hlv : lv ≤ 5 := HP.out.bds.1
  have hpr : pr ≤ 15 := by have := HP.out.bds; omega
  have hod : od ≤ 4 := by have := HP.out.bds; omega
  have hly : 1 ≤ ly ∧ ly ≤ 4 := by have := HP.out.bds; omega
  refine wp_region_lit ?_
  refine wpList_loadRow rfl rfl (by kernel_rfl) img (by kernel_rfl) (by kernel_rfl) ?_
  refine wpList_loadRow rfl rfl (by kernel_rfl) par (by kernel_rfl) (by kernel_rfl) ?_
  go_wp2_with fail
  refine (rtiles_any Xn Yn On Pn tx ty (some ⟨g, 0, none⟩) n c lv cw ch pr st od ly rct fsop feph (by omega) (by omega) (by omega) (by omega) (by omega) (by omega) (by omega) (by omega) V3 _ _ rfl rfl).mono ?_
  rintro e' W5 ⟨At, ct, rfl, ot, h5⟩
  obtain ⟨NT, hNT⟩ : ∃ z, byN Xn tx * byN Yn ty = z := ⟨_, rfl⟩
  have HTN := Lib.hid (show ∀ i, i < NT → ∃ a b c d : Nat, tileR Xn Yn On Pn tx ty (gridAt (byN Xn tx) i) = ⟨(a : Int), (b : Int), (c : Int), (d : Int)⟩ ∧ a ≤ 64 ∧ b ≤ 64 ∧ c ≤ 64 ∧ d ≤ 64 from fun i hi => tile_nat (by omega) (by omega) (by omega) (by omega) (by omega) (by omega) (by rw [hNT]; exact hi))
  have hNTb : NT ≤ 6 := by rw [← hNT]; exact HP.out.tiles
  rw [hNT] at ot ⊢
  have HOT := Lib.hid (ot.mono (show gm + 2 ≤ V3.heap.size by omega))
  have HR5 := Lib.hid (And.intro ((h5.block gm (by omega)).trans img) ((h5.block (gm + 1) (by omega)).trans par))
  have HB5 := Lib.hid (b3.trans (h5.mono (by omega)))
  have HC5 := Lib.hid (HCA.out.below (h5.mono (by omega)))
  have z5 : gm + 2 ≤ W5.heap.size := by have := h5.size; omega
  clear h5 ot hNT img par b3 HCA z3
  go_wp2_with fail
  go_loopg [6] 5 (fun kx s6 wr => ∃ (o oz : Nat), s6 = .int .i64 (o : Int) ∧ o ≤ 5 ∧ 5 - o ≤ kx ∧ Hid (wr.heap[gm]? = some (.cells #[.int .i64 (Xn : Int), .int .i64 (Yn : Int), .int .i64 (On : Int), .int .i64 (Pn : Int), .slice (some ⟨g, 0, none⟩) n c] 28 (0, 0)) ∧ wr.heap[gm + 1]? = some (.cells #[.int .i64 (tx : Int), .int .i64 (ty : Int), .int .i64 (lv : Int), .int .i64 (cw : Int), .int .i64 (ch : Int), .int .i64 (pr : Int), .int .i64 (st : Int), .int .i64 (oz : Int), .int .i64 (ly : Int), .bool rct, .bool fsop, .bool feph] 30 (0, 0))) ∧ Hid (Below q w wr ∧ gm + 2 ≤ wr.heap.size ∧ CompsAt wr gm (some ⟨g, 0, none⟩) n F ∧ OwnC wr (gm + 2) 38 4 (.slice At NT ct) NT (fun k => rcL (tileR Xn Yn On Pn tx ty (gridAt (byN Xn tx) k)))))
  case atStart => exact ⟨0, od, rfl, by omega, by omega, HR5, Lib.hid ⟨HB5.out, z5, HC5.out, HOT.out⟩⟩
  case round =>
    clear HR5 HB5 HC5 z5 HOT
    obtain ⟨o, oz, rfl, ho, hkx, HRr, HBr⟩ := hrel
    by_cases hlt : o < 5
    · have hltz : (o : Int) < 5 := by omega
      have p7 : wr.cell? ⟨gm + 1, 7, none⟩ = some (.int .i64 (oz : Int)) := cell_of_row _ _ 7 _ _ (0, 0) HRr.out.2
      have f7 : wr.frozen? ⟨gm + 1, 7, none⟩ = false := frozen_of_row _ _ 7 _ _ HRr.out.2
      have zw := HBr.out.2.1
      go_upto_region 9 with fail
      clear p7 f7
      have HR8 := Lib.hid (show (wr.setCell ⟨gm + 1, 7, none⟩ (.int .i64 (o : Int))).heap[gm]? = some (.cells #[.int .i64 (Xn : Int), .int .i64 (Yn : Int), .int .i64 (On : Int), .int .i64 (Pn : Int), .slice (some ⟨g, 0, none⟩) n c] 28 (0, 0)) ∧ (wr.setCell ⟨gm + 1, 7, none⟩ (.int .i64 (o : Int))).heap[gm + 1]? = some (.cells #[.int .i64 (tx : Int), .int .i64 (ty : Int), .int .i64 (lv : Int), .int .i64 (cw : Int), .int .i64 (ch : Int), .int .i64 (pr : Int), .int .i64 (st : Int), .int .i64 (o : Int), .int .i64 (ly : Int), .bool rct, .bool fsop, .bool feph] 30 (0, 0)) from ⟨(Below.heap_setCell _ _ _ _ (by simp only; omega)).trans HRr.out.1, heap_setCell_same _ _ 7 _ _ _ HRr.out.2⟩)
      have hb7 : Below (gm + 1) wr (wr.setCell ⟨gm + 1, 7, none⟩ (.int .i64 (o : Int))) := (Below.refl _ _).setCell (p := ⟨gm + 1, 7, none⟩) (by simp only; omega) _
      have z8 : gm + 2 ≤ (wr.setCell ⟨gm + 1, 7, none⟩ (.int .i64 (o : Int))).heap.size := by have := hb7.size; omega
      have HB8 := Lib.hid (HBr.out.1.trans (hb7.mono (by omega)))
      have HC8 := Lib.hid (HBr.out.2.2.1.below (hb7.mono (by omega)))
      have HOT8 := Lib.hid (HBr.out.2.2.2.other (a := ⟨gm + 1, 7, none⟩) (fun e => by have := (HBr.out.2.2.2.lt _ e).1; simp only at this; omega) (.int .i64 (o : Int)))
      generalize wr.setCell ⟨gm + 1, 7, none⟩ (.int .i64 (o : Int)) = W8 at *
      clear hb7 HRr HBr zw
      go_wp2_with fail
      go_loopg [7] NT (fun ky s7 wr => ∃ (i : Nat), s7 = .int .i64 (i : Int) ∧ i ≤ NT ∧ NT - i ≤ ky ∧ Hid (Below W8.heap.size W8 wr))
      case atStart => exact ⟨0, rfl, by omega, by omega, Lib.hid (Below.refl _ _)⟩
      case round =>
        obtain ⟨i, rfl, hi, hky, HB⟩ := hrel
        by_cases hlti : i < NT
        · have hltiz : (i : Int) < (NT : Int) := by omega
          obtain ⟨gt, hgt, hgt1, hgt2⟩ := HOT8.out.row (by omega)
          subst hgt
          obtain ⟨x0, y0, x1, y1, hT, hxb⟩ := HTN.out i hlti
          have htc := fun (j : Nat) (u : Value) (hu : (rcL ⟨(x0 : Int), (y0 : Int), (x1 : Int), (y1 : Int)⟩)[j]? = some u) => HOT8.out.at_.cells hlti (j := j) (u := u) (by rw [hT]; exact hu)
          simp only [Nat.zero_add] at htc
          have HTK := Lib.hid (show Key4 W8 gt (i * 4) (.int .i64 (x0 : Int)) (.int .i64 (y0 : Int)) (.int .i64 (x1 : Int)) (.int .i64 (y1 : Int)) from ⟨htc 0 _ rfl, htc 1 _ rfl, htc 2 _ rfl, htc 3 _ rfl⟩)
          clear htc hT
          obtain ⟨Q, hQ⟩ : ∃ Q, Q = madeQ x0 y0 x1 y1 lv pr o ly n F := ⟨_, rfl⟩
          have HOk := Lib.hid (show Q.Ok by rw [hQ]; exact madeQ_ok (by omega) hlv (by omega) (by omega) (by omega) hnum.2 HGood.out)
          have HQE := Lib.hid (show Q.x0 = x0 ∧ Q.y0 = y0 ∧ Q.x1 = x1 ∧ Q.y1 = y1 ∧ Q.lv = lv ∧ Q.pr = pr ∧ Q.od = o ∧ Q.ly = ly ∧ Q.n = n by rw [hQ]; exact ⟨rfl, rfl, rfl, rfl, rfl, rfl, rfl, rfl, rfl⟩)
          have HD := Lib.hid (show ∀ k, k < n → (F k).dx = (Q.dx k : Int) ∧ (F k).dy = (Q.dy k : Int) by rw [hQ]; exact madeQ_d HGood.out)
          clear hQ
          have HLs := Lib.hid (fun V : World => list_any Q HOk.out Xn Yn On Pn (some ⟨g, 0, none⟩) n c F tx ty cw ch st rct fsop feph x0 y0 x1 y1 lv pr o ly HQE.out hnc HD.out (HFR.out o (by omega)) V)
          have HLr := Lib.hid (fun V : World => rlist_any Q HOk.out Xn Yn On Pn (some ⟨g, 0, none⟩) n c F tx ty cw ch st rct fsop feph x0 y0 x1 y1 lv pr o ly HQE.out HD.out V)
          have HCw := Lib.hid (HC8.out.below (HB.out.mono (show gm ≤ W8.heap.size by omega)))
          have zw := HB.out.size
          have im := (HB.out.block gm (by omega)).trans HR8.out.1
          have pm := (HB.out.block (gm + 1) (by omega)).trans HR8.out.2
          have tk := HTK.out.below HB.out hgt2
          go_wp2_with fail
          refine last_cut (by kernel_rfl) (fun U => Key4 U gt (i * 4) (.int .i64 (x0 : Int)) (.int .i64 (y0 : Int)) (.int .i64 (x1 : Int)) (.int .i64 (y1 : Int)) ∧ U.heap[gm]? = some (.cells #[.int .i64 (Xn : Int), .int .i64 (Yn : Int), .int .i64 (On : Int), .int .i64 (Pn : Int), .slice (some ⟨g, 0, none⟩) n c] 28 (0, 0)) ∧ U.heap[gm + 1]? = some (.cells #[.int .i64 (tx : Int), .int .i64 (ty : Int), .int .i64 (lv : Int), .int .i64 (cw : Int), .int .i64 (ch : Int), .int .i64 (pr : Int), .int .i64 (st : Int), .int .i64 (o : Int), .int .i64 (ly : Int), .bool rct, .bool fsop, .bool feph] 30 (0, 0))) (fun aF a' W' => ∃ (K : List Spot) (A1 : Option Addr) (c1 : Nat) (A2 : Option Addr) (c2 : Nat), a' = ((((((((((((((((aF.put (some 33) (.slice (some ⟨gt, 0, none⟩) NT ct)).put (some 34) (.int .i64 (i : Int))).put (some 35) (.pointer (some ⟨gt, i * 4, none⟩))).put (some 36) (.agg #[.int .i64 (x0 : Int), .int .i64 (y0 : Int), .int .i64 (x1 : Int), .int .i64 (y1 : Int)])).put (some 37) (.agg #[.int .i64 (Xn : Int), .int .i64 (Yn : Int), .int .i64 (On : Int), .int .i64 (Pn : Int), .slice (some ⟨g, 0, none⟩) n c])).put (some 38) (.agg #[.int .i64 (tx : Int), .int .i64 (ty : Int), .int .i64 (lv : Int), .int .i64 (cw : Int), .int .i64 (ch : Int), .int .i64 (pr : Int), .int .i64 (st : Int), .int .i64 (o : Int), .int .i64 (ly : Int), .bool rct, .bool fsop, .bool feph])).put (some 39) (.slice A1 K.length c1)).put (some 40) (.slice (some ⟨gt, 0, none⟩) NT ct)).put (some 41) (.int .i64 (i : Int))).put (some 42) (.pointer (some ⟨gt, i * 4, none⟩))).put (some 43) (.agg #[.int .i64 (x0 : Int), .int .i64 (y0 : Int), .int .i64 (x1 : Int), .int .i64 (y1 : Int)])).put (some 44) (.agg #[.int .i64 (Xn : Int), .int .i64 (Yn : Int), .int .i64 (On : Int), .int .i64 (Pn : Int), .slice (some ⟨g, 0, none⟩) n c])).put (some 45) (.agg #[.int .i64 (tx : Int), .int .i64 (ty : Int), .int .i64 (lv : Int), .int .i64 (cw : Int), .int .i64 (ch : Int), .int .i64 (pr : Int), .int .i64 (st : Int), .int .i64 (o : Int), .int .i64 (ly : Int), .bool rct, .bool fsop, .bool feph])).put (some 46) (.slice A2 K.length c2)).put (some 8) (.slice A1 K.length c1)).put (some 9) (.slice A2 K.length c2)) ∧ K.length ≤ 405600 ∧ OwnC W' wr.heap.size 42 4 (.slice A1 K.length c1) K.length (fun k => (rowS K k).take 4) ∧ OwnC W' wr.heap.size 43 4 (.slice A2 K.length c2) K.length (fun k => (rowS K k).take 4) ∧ Below wr.heap.size wr W') ⟨tk, im, pm⟩ (fun hS => ?_) ?_
          · skip
            have hSB : ∀ U : World, Below (wr.heap.size) wr U → Key4 U gt (i * 4) (.int .i64 (x0 : Int)) (.int .i64 (y0 : Int)) (.int .i64 (x1 : Int)) (.int .i64 (y1 : Int)) ∧ U.heap[gm]? = some (.cells #[.int .i64 (Xn : Int), .int .i64 (Yn : Int), .int .i64 (On : Int), .int .i64 (Pn : Int), .slice (some ⟨g, 0, none⟩) n c] 28 (0, 0)) ∧ U.heap[gm + 1]? = some (.cells #[.int .i64 (tx : Int), .int .i64 (ty : Int), .int .i64 (lv : Int), .int .i64 (cw : Int), .int .i64 (ch : Int), .int .i64 (pr : Int), .int .i64 (st : Int), .int .i64 (o : Int), .int .i64 (ly : Int), .bool rct, .bool fsop, .bool feph] 30 (0, 0)) := fun U h => ⟨(tk).below (h) (by omega), (h.block (gm) (by omega)).trans (im), (h.block (gm + 1) (by omega)).trans (pm)⟩
            have bV : Below wr.heap.size wr wr.drew := (Below.refl _ _).drew
            generalize wr.drew = V0 at *
            change wpAnyL _ _ _ _ _ 16 #[false, false, false, false, false, false, false, false, false, false, false, false, false, false, false, false] _ _
            refine wpAnyL_take (i := 0) (v := .slice (some ⟨gt, 0, none⟩) NT ct) (by simp only [List.getElem?_toArray, List.getElem?_cons_succ, List.getElem?_cons_zero]; rfl) (by as_aux_lemma => kernel_rfl) (by as_aux_lemma => kernel_rfl) (by as_aux_lemma => kernel_rfl) (fun _ _ _ h => h) (Or.inl ⟨by rfl, ?_⟩) hS ?_
            · intro U hU
              obtain ⟨s0, s1, s2⟩ := hU
              kernel_rfl
            simp only [Act.put, List.setIfInBounds_toArray, List.set_cons_zero, List.set_cons_succ]
            refine wpAnyL_take (i := 1) (v := .int .i64 (i : Int)) (by simp only [List.getElem?_toArray, List.getElem?_cons_succ, List.getElem?_cons_zero]; rfl) (by as_aux_lemma => kernel_rfl) (by as_aux_lemma => kernel_rfl) (by as_aux_lemma => kernel_rfl) (fun _ _ _ h => h) (Or.inl ⟨by rfl, ?_⟩) hS ?_
            · intro U hU
              obtain ⟨s0, s1, s2⟩ := hU
              kernel_rfl
            simp only [Act.put, List.setIfInBounds_toArray, List.set_cons_zero, List.set_cons_succ]
            refine wpAnyL_take (i := 2) (v := .pointer (some ⟨gt, i * 4, none⟩)) (by simp only [List.getElem?_toArray, List.getElem?_cons_succ, List.getElem?_cons_zero]; rfl) (by as_aux_lemma => kernel_rfl) (by as_aux_lemma => kernel_rfl) (by as_aux_lemma => kernel_rfl) (fun _ _ _ h => h) (Or.inl ⟨by rfl, ?_⟩) hS ?_
            · intro U hU
              obtain ⟨s0, s1, s2⟩ := hU
              go_simp
            simp only [Act.put, List.setIfInBounds_toArray, List.set_cons_zero, List.set_cons_succ]
            refine wpAnyL_take (i := 3) (v := .agg #[.int .i64 (x0 : Int), .int .i64 (y0 : Int), .int .i64 (x1 : Int), .int .i64 (y1 : Int)]) (by simp only [List.getElem?_toArray, List.getElem?_cons_succ, List.getElem?_cons_zero]; rfl) (by as_aux_lemma => kernel_rfl) (by as_aux_lemma => kernel_rfl) (by as_aux_lemma => kernel_rfl) (fun _ _ _ h => h) (Or.inl ⟨by rfl, ?_⟩) hS ?_
            · intro U hU
              obtain ⟨s0, s1, s2⟩ := hU
              exact exec_loadK rfl rfl (by kernel_rfl) (by kernel_rfl) s0.load
            simp only [Act.put, List.setIfInBounds_toArray, List.set_cons_zero, List.set_cons_succ]
            refine wpAnyL_take (i := 4) (v := .agg #[.int .i64 (Xn : Int), .int .i64 (Yn : Int), .int .i64 (On : Int), .int .i64 (Pn : Int), .slice (some ⟨g, 0, none⟩) n c]) (by simp only [List.getElem?_toArray, List.getElem?_cons_succ, List.getElem?_cons_zero]; rfl) (by as_aux_lemma => kernel_rfl) (by as_aux_lemma => kernel_rfl) (by as_aux_lemma => kernel_rfl) (fun _ _ _ h => h) (Or.inl ⟨by rfl, ?_⟩) hS ?_
            · intro U hU
              obtain ⟨s0, s1, s2⟩ := hU
              exact exec_loadRow (cs := [.int .i64 (Xn : Int), .int .i64 (Yn : Int), .int .i64 (On : Int), .int .i64 (Pn : Int), .slice (some ⟨g, 0, none⟩) n c]) rfl rfl s1 (by kernel_rfl) (by kernel_rfl)
            simp only [Act.put, List.setIfInBounds_toArray, List.set_cons_zero, List.set_cons_succ]
            refine wpAnyL_take (i := 5) (v := .agg #[.int .i64 (tx : Int), .int .i64 (ty : Int), .int .i64 (lv : Int), .int .i64 (cw : Int), .int .i64 (ch : Int), .int .i64 (pr : Int), .int .i64 (st : Int), .int .i64 (o : Int), .int .i64 (ly : Int), .bool rct, .bool fsop, .bool feph]) (by simp only [List.getElem?_toArray, List.getElem?_cons_succ, List.getElem?_cons_zero]; rfl) (by as_aux_lemma => kernel_rfl) (by as_aux_lemma => kernel_rfl) (by as_aux_lemma => kernel_rfl) (fun _ _ _ h => h) (Or.inl ⟨by rfl, ?_⟩) hS ?_
            · intro U hU
              obtain ⟨s0, s1, s2⟩ := hU
              exact exec_loadRow (cs := [.int .i64 (tx : Int), .int .i64 (ty : Int), .int .i64 (lv : Int), .int .i64 (cw : Int), .int .i64 (ch : Int), .int .i64 (pr : Int), .int .i64 (st : Int), .int .i64 (o : Int), .int .i64 (ly : Int), .bool rct, .bool fsop, .bool feph]) rfl rfl s2 (by kernel_rfl) (by kernel_rfl)
            simp only [Act.put, List.setIfInBounds_toArray, List.set_cons_zero, List.set_cons_succ]
            refine wpAnyL_take (i := 7) (v := .slice (some ⟨gt, 0, none⟩) NT ct) (by simp only [List.getElem?_toArray, List.getElem?_cons_succ, List.getElem?_cons_zero]; rfl) (by as_aux_lemma => kernel_rfl) (by as_aux_lemma => kernel_rfl) (by as_aux_lemma => kernel_rfl) (fun _ _ _ h => h) (Or.inl ⟨by rfl, ?_⟩) hS ?_
            · intro U hU
              obtain ⟨s0, s1, s2⟩ := hU
              kernel_rfl
            simp only [Act.put, List.setIfInBounds_toArray, List.set_cons_zero, List.set_cons_succ]
            refine wpAnyL_take (i := 8) (v := .int .i64 (i : Int)) (by simp only [List.getElem?_toArray, List.getElem?_cons_succ, List.getElem?_cons_zero]; rfl) (by as_aux_lemma => kernel_rfl) (by as_aux_lemma => kernel_rfl) (by as_aux_lemma => kernel_rfl) (fun _ _ _ h => h) (Or.inl ⟨by rfl, ?_⟩) hS ?_
            · intro U hU
              obtain ⟨s0, s1, s2⟩ := hU
              kernel_rfl
            simp only [Act.put, List.setIfInBounds_toArray, List.set_cons_zero, List.set_cons_succ]
            refine wpAnyL_take (i := 9) (v := .pointer (some ⟨gt, i * 4, none⟩)) (by simp only [List.getElem?_toArray, List.getElem?_cons_succ, List.getElem?_cons_zero]; rfl) (by as_aux_lemma => kernel_rfl) (by as_aux_lemma => kernel_rfl) (by as_aux_lemma => kernel_rfl) (fun _ _ _ h => h) (Or.inl ⟨by rfl, ?_⟩) hS ?_
            · intro U hU
              obtain ⟨s0, s1, s2⟩ := hU
              go_simp
            simp only [Act.put, List.setIfInBounds_toArray, List.set_cons_zero, List.set_cons_succ]
            refine wpAnyL_take (i := 10) (v := .agg #[.int .i64 (x0 : Int), .int .i64 (y0 : Int), .int .i64 (x1 : Int), .int .i64 (y1 : Int)]) (by simp only [List.getElem?_toArray, List.getElem?_cons_succ, List.getElem?_cons_zero]; rfl) (by as_aux_lemma => kernel_rfl) (by as_aux_lemma => kernel_rfl) (by as_aux_lemma => kernel_rfl) (fun _ _ _ h => h) (Or.inl ⟨by rfl, ?_⟩) hS ?_
            · intro U hU
              obtain ⟨s0, s1, s2⟩ := hU
              exact exec_loadK rfl rfl (by kernel_rfl) (by kernel_rfl) s0.load
            simp only [Act.put, List.setIfInBounds_toArray, List.set_cons_zero, List.set_cons_succ]
            refine wpAnyL_take (i := 11) (v := .agg #[.int .i64 (Xn : Int), .int .i64 (Yn : Int), .int .i64 (On : Int), .int .i64 (Pn : Int), .slice (some ⟨g, 0, none⟩) n c]) (by simp only [List.getElem?_toArray, List.getElem?_cons_succ, List.getElem?_cons_zero]; rfl) (by as_aux_lemma => kernel_rfl) (by as_aux_lemma => kernel_rfl) (by as_aux_lemma => kernel_rfl) (fun _ _ _ h => h) (Or.inl ⟨by rfl, ?_⟩) hS ?_
            · intro U hU
              obtain ⟨s0, s1, s2⟩ := hU
              exact exec_loadRow (cs := [.int .i64 (Xn : Int), .int .i64 (Yn : Int), .int .i64 (On : Int), .int .i64 (Pn : Int), .slice (some ⟨g, 0, none⟩) n c]) rfl rfl s1 (by kernel_rfl) (by kernel_rfl)
            simp only [Act.put, List.setIfInBounds_toArray, List.set_cons_zero, List.set_cons_succ]
            refine wpAnyL_take (i := 12) (v := .agg #[.int .i64 (tx : Int), .int .i64 (ty : Int), .int .i64 (lv : Int), .int .i64 (cw : Int), .int .i64 (ch : Int), .int .i64 (pr : Int), .int .i64 (st : Int), .int .i64 (o : Int), .int .i64 (ly : Int), .bool rct, .bool fsop, .bool feph]) (by simp only [List.getElem?_toArray, List.getElem?_cons_succ, List.getElem?_cons_zero]; rfl) (by as_aux_lemma => kernel_rfl) (by as_aux_lemma => kernel_rfl) (by as_aux_lemma => kernel_rfl) (fun _ _ _ h => h) (Or.inl ⟨by rfl, ?_⟩) hS ?_
            · intro U hU
              obtain ⟨s0, s1, s2⟩ := hU
              exact exec_loadRow (cs := [.int .i64 (tx : Int), .int .i64 (ty : Int), .int .i64 (lv : Int), .int .i64 (cw : Int), .int .i64 (ch : Int), .int .i64 (pr : Int), .int .i64 (st : Int), .int .i64 (o : Int), .int .i64 (ly : Int), .bool rct, .bool fsop, .bool feph]) rfl rfl s2 (by kernel_rfl) (by kernel_rfl)
            simp only [Act.put, List.setIfInBounds_toArray, List.set_cons_zero, List.set_cons_succ]
            refine wpAnyL_ready (rs := [6]) (by as_aux_lemma => kernel_rfl) (by simp) ?_
            refine AllReadyL.cons (by simp only [List.getElem?_toArray, List.getElem?_cons_succ, List.getElem?_cons_zero]; rfl) (fun K' hK' => ?_) AllReadyL.nil
            go_simp
            go_at_call 13
            refine (HLs.out _ ((HCw.out.below ((bV).mono (by omega))).more (by have h7 := (bV).size; omega))).mono ?_
            rintro e' U3 ⟨K, A1, c1, rfl, hp, hs, own, hb3⟩
            have own2 := own.mono (base' := wr.heap.size) (by have h7 := (bV).size; omega)
            have b3 := below_trans bV hb3
            have hS := hSB _ b3
            dsimp only
            refine hK'.out _ _ hS (fun _ => ?_)
            clear hb3 own
            clear hK' K'
            try simp only [Act.put, List.setIfInBounds_toArray, List.set_cons_zero, List.set_cons_succ]
            refine wpAnyL_ready (rs := [13]) (by as_aux_lemma => kernel_rfl) (by simp) ?_
            refine AllReadyL.cons (by simp only [List.getElem?_toArray, List.getElem?_cons_succ, List.getElem?_cons_zero]; rfl) (fun K' hK' => ?_) AllReadyL.nil
            go_simp
            go_at_call 14
            refine (HLr.out _ ((HCw.out.below ((b3).mono (by omega))).more (by have h7 := (b3).size; omega))).mono ?_
            rintro e' U4 ⟨K2, A2, c2, rfl, hp2, hs2, own3, hb4⟩
            have hKK : K = K2 := OrdQ.one hp hs hp2 hs2
            subst hKK
            have own4 := own3.mono (base' := wr.heap.size) (by have h7 := (b3).size; omega)
            have own5 := own2.below hb4
            have b4 := below_trans b3 hb4
            have hS := hSB _ b4
            dsimp only
            refine hK'.out _ _ hS (fun _ => ?_)
            clear hb4 own3 own2
            clear hK' K'
            try simp only [Act.put, List.setIfInBounds_toArray, List.set_cons_zero, List.set_cons_succ]
            refine wpAnyL_take (i := 14) (v := .slice A1 K.length c1) (by simp only [List.getElem?_toArray, List.getElem?_cons_succ, List.getElem?_cons_zero]; rfl) (by as_aux_lemma => kernel_rfl) (by as_aux_lemma => kernel_rfl) (by as_aux_lemma => kernel_rfl) (fun _ _ _ h => h) (Or.inl ⟨by rfl, ?_⟩) hS ?_
            · intro U hU
              obtain ⟨s0, s1, s2⟩ := hU
              kernel_rfl
            simp only [Act.put, List.setIfInBounds_toArray, List.set_cons_zero, List.set_cons_succ]
            refine wpAnyL_take (i := 15) (v := .slice A2 K.length c2) (by simp only [List.getElem?_toArray, List.getElem?_cons_succ, List.getElem?_cons_zero]; rfl) (by as_aux_lemma => kernel_rfl) (by as_aux_lemma => kernel_rfl) (by as_aux_lemma => kernel_rfl) (fun _ _ _ h => h) (Or.inl ⟨by rfl, ?_⟩) hS ?_
            · intro U hU
              obtain ⟨s0, s1, s2⟩ := hU
              kernel_rfl
            simp only [Act.put, List.setIfInBounds_toArray, List.set_cons_zero, List.set_cons_succ]
            refine wpAnyL_done (by as_aux_lemma => kernel_rfl) ?_ _
            simp only [OnlyN]
            have hlen : K.length ≤ ly * 101400 := by rw [hp.length_eq]; exact Q.l1_len HOk.out ly
            refine ⟨K, A1, c1, A2, c2, ?_, by omega, own5, own4, b4⟩
            (try simp only [Act.put, List.setIfInBounds_toArray, List.set_cons_zero, List.set_cons_succ])
          rintro a' W9 ⟨K, A1, c1, A2, c2, rfl, hKb, own1, own2, h9⟩
          simp only [Act.put, List.setIfInBounds_toArray, List.set_cons_zero, List.set_cons_succ]
          obtain ⟨NK, hNK⟩ : ∃ z, K.length = z := ⟨_, rfl⟩
          rw [hNK] at own1 own2 hKb ⊢
          have HO1 := Lib.hid own1
          have HO2 := Lib.hid own2
          have HB9 := Lib.hid (HB.out.trans (h9.mono zw))
          have z9 : W8.heap.size ≤ W9.heap.size := by have := h9.size; omega
          clear h9 own1 own2 hNK HB im pm tk HLs HLr HCw zw HTK HOk HQE HD
          go_wp2_with fail
          go_loopg [10] NK (fun kz s10 wr => ∃ (k : Nat), s10 = .int .i64 (k : Int) ∧ k ≤ NK ∧ NK - k ≤ kz ∧ Hid (Below W9.heap.size W9 wr))
          case atStart => exact ⟨0, rfl, by omega, by omega, Lib.hid (Below.refl _ _)⟩
          case round =>
            obtain ⟨k, rfl, hk, hkz, HB⟩ := hrel
            by_cases hlk : k < NK
            · have hlkz : (k : Int) < (NK : Int) := by omega
              obtain ⟨g1, hg1, hg11, hg12⟩ := HO1.out.row (by omega)
              obtain ⟨g2, hg2, hg21, hg22⟩ := HO2.out.row (by omega)
              subst hg1
              subst hg2
              obtain ⟨s, hs⟩ : ∃ s, K[k]?.getD default = s := ⟨_, rfl⟩
              have k1 := (key4_of HO1.out hlk).below HB.out hg12
              have k2 := (key4_of HO2.out hlk).below HB.out hg22
              rw [hs] at k1 k2
              obtain ⟨a0, a1, a2, a3⟩ := k1
              obtain ⟨d0, d1, d2, d3⟩ := k2
              have zw := HB.out.size
              have WK := wrap_add1 (a := k) (c := k + 1) rfl (by omega)
              clear hs
              go_wp2_with fail
              refine last_cut (by kernel_rfl) (fun U => U.cell? ⟨g1, k * 4, none⟩ = some (.int .i64 s.ly) ∧ U.cell? ⟨g1, k * 4 + 1, none⟩ = some (.int .i64 s.rs) ∧ U.cell? ⟨g1, k * 4 + 2, none⟩ = some (.int .i64 s.cm) ∧ U.cell? ⟨g1, k * 4 + 3, none⟩ = some (.int .i64 s.pc) ∧ U.cell? ⟨g2, k * 4, none⟩ = some (.int .i64 s.ly) ∧ U.cell? ⟨g2, k * 4 + 1, none⟩ = some (.int .i64 s.rs) ∧ U.cell? ⟨g2, k * 4 + 2, none⟩ = some (.int .i64 s.cm) ∧ U.cell? ⟨g2, k * 4 + 3, none⟩ = some (.int .i64 s.pc)) (fun aF a' W' => a' = ((((((((((((((((((((((((((((((((((((((((((((((((((aF.put (some 58) (.slice (some ⟨g1, 0, none⟩) NK c1)).put (some 59) (.int .i64 (k : Int))).put (some 60) (.pointer (some ⟨g1, k * 4, none⟩))).put (some 61) (.pointer (some ⟨g1, k * 4, none⟩))).put (some 62) (.int .i64 s.ly)).put (some 63) (.slice (some ⟨g2, 0, none⟩) NK c2)).put (some 64) (.int .i64 (k : Int))).put (some 65) (.pointer (some ⟨g2, k * 4, none⟩))).put (some 66) (.pointer (some ⟨g2, k * 4, none⟩))).put (some 67) (.int .i64 s.ly)).put (some 68) (.bool false)).put (some 69) (.bool false)).put (some 70) (.slice (some ⟨g1, 0, none⟩) NK c1)).put (some 71) (.int .i64 (k : Int))).put (some 72) (.pointer (some ⟨g1, k * 4, none⟩))).put (some 73) (.pointer (some ⟨g1, k * 4 + 1, none⟩))).put (some 74) (.int .i64 s.rs)).put (some 75) (.slice (some ⟨g2, 0, none⟩) NK c2)).put (some 76) (.int .i64 (k : Int))).put (some 77) (.pointer (some ⟨g2, k * 4, none⟩))).put (some 78) (.pointer (some ⟨g2, k * 4 + 1, none⟩))).put (some 79) (.int .i64 s.rs)).put (some 80) (.bool false)).put (some 81) (.bool false)).put (some 82) (.bool false)).put (some 83) (.slice (some ⟨g1, 0, none⟩) NK c1)).put (some 84) (.int .i64 (k : Int))).put (some 85) (.pointer (some ⟨g1, k * 4, none⟩))).put (some 86) (.pointer (some ⟨g1, k * 4 + 2, none⟩))).put (some 87) (.int .i64 s.cm)).put (some 88) (.slice (some ⟨g2, 0, none⟩) NK c2)).put (some 89) (.int .i64 (k : Int))).put (some 90) (.pointer (some ⟨g2, k * 4, none⟩))).put (some 91) (.pointer (some ⟨g2, k * 4 + 2, none⟩))).put (some 92) (.int .i64 s.cm)).put (some 93) (.bool false)).put (some 94) (.bool false)).put (some 95) (.bool false)).put (some 96) (.slice (some ⟨g1, 0, none⟩) NK c1)).put (some 97) (.int .i64 (k : Int))).put (some 98) (.pointer (some ⟨g1, k * 4, none⟩))).put (some 99) (.pointer (some ⟨g1, k * 4 + 3, none⟩))).put (some 100) (.int .i64 s.pc)).put (some 101) (.slice (some ⟨g2, 0, none⟩) NK c2)).put (some 102) (.int .i64 (k : Int))).put (some 103) (.pointer (some ⟨g2, k * 4, none⟩))).put (some 104) (.pointer (some ⟨g2, k * 4 + 3, none⟩))).put (some 105) (.int .i64 s.pc)).put (some 106) (.bool false)).put (some 107) (.bool false)) ∧ Below wr.heap.size wr W') ⟨a0, a1, a2, a3, d0, d1, d2, d3⟩ (fun hS => ?_) ?_
              · skip
                have hSB : ∀ U : World, Below (wr.heap.size) wr U → U.cell? ⟨g1, k * 4, none⟩ = some (.int .i64 s.ly) ∧ U.cell? ⟨g1, k * 4 + 1, none⟩ = some (.int .i64 s.rs) ∧ U.cell? ⟨g1, k * 4 + 2, none⟩ = some (.int .i64 s.cm) ∧ U.cell? ⟨g1, k * 4 + 3, none⟩ = some (.int .i64 s.pc) ∧ U.cell? ⟨g2, k * 4, none⟩ = some (.int .i64 s.ly) ∧ U.cell? ⟨g2, k * 4 + 1, none⟩ = some (.int .i64 s.rs) ∧ U.cell? ⟨g2, k * 4 + 2, none⟩ = some (.int .i64 s.cm) ∧ U.cell? ⟨g2, k * 4 + 3, none⟩ = some (.int .i64 s.pc) := fun U h => ⟨(h.cell (p := ⟨g1, k * 4, none⟩) (by simp only; omega)).trans (a0), (h.cell (p := ⟨g1, k * 4 + 1, none⟩) (by simp only; omega)).trans (a1), (h.cell (p := ⟨g1, k * 4 + 2, none⟩) (by simp only; omega)).trans (a2), (h.cell (p := ⟨g1, k * 4 + 3, none⟩) (by simp only; omega)).trans (a3), (h.cell (p := ⟨g2, k * 4, none⟩) (by simp only; omega)).trans (d0), (h.cell (p := ⟨g2, k * 4 + 1, none⟩) (by simp only; omega)).trans (d1), (h.cell (p := ⟨g2, k * 4 + 2, none⟩) (by simp only; omega)).trans (d2), (h.cell (p := ⟨g2, k * 4 + 3, none⟩) (by simp only; omega)).trans (d3)⟩
                have bV : Below wr.heap.size wr wr.drew := (Below.refl _ _).drew
                generalize wr.drew = V0 at *
                change wpAnyL _ _ _ _ _ 50 #[false, false, false, false, false, false, false, false, false, false, false, false, false, false, false, false, false, false, false, false, false, false, false, false, false, false, false, false, false, false, false, false, false, false, false, false, false, false, false, false, false, false, false, false, false, false, false, false, false, false] _ _
                refine wpAnyL_take (i := 0) (v := .slice (some ⟨g1, 0, none⟩) NK c1) (by simp only [List.getElem?_toArray, List.getElem?_cons_succ, List.getElem?_cons_zero]; rfl) (by as_aux_lemma => kernel_rfl) (by as_aux_lemma => kernel_rfl) (by as_aux_lemma => kernel_rfl) (fun _ _ _ h => h) (Or.inl ⟨by rfl, ?_⟩) hS ?_
                · intro U hU
                  obtain ⟨s0, s1, s2, s3, s4, s5, s6, s7⟩ := hU
                  kernel_rfl
                simp only [Act.put, List.setIfInBounds_toArray, List.set_cons_zero, List.set_cons_succ]
                refine wpAnyL_take (i := 1) (v := .int .i64 (k : Int)) (by simp only [List.getElem?_toArray, List.getElem?_cons_succ, List.getElem?_cons_zero]; rfl) (by as_aux_lemma => kernel_rfl) (by as_aux_lemma => kernel_rfl) (by as_aux_lemma => kernel_rfl) (fun _ _ _ h => h) (Or.inl ⟨by rfl, ?_⟩) hS ?_
                · intro U hU
                  obtain ⟨s0, s1, s2, s3, s4, s5, s6, s7⟩ := hU
                  kernel_rfl
                simp only [Act.put, List.setIfInBounds_toArray, List.set_cons_zero, List.set_cons_succ]
                refine wpAnyL_take (i := 2) (v := .pointer (some ⟨g1, k * 4, none⟩)) (by simp only [List.getElem?_toArray, List.getElem?_cons_succ, List.getElem?_cons_zero]; rfl) (by as_aux_lemma => kernel_rfl) (by as_aux_lemma => kernel_rfl) (by as_aux_lemma => kernel_rfl) (fun _ _ _ h => h) (Or.inl ⟨by rfl, ?_⟩) hS ?_
                · intro U hU
                  obtain ⟨s0, s1, s2, s3, s4, s5, s6, s7⟩ := hU
                  go_simp
                simp only [Act.put, List.setIfInBounds_toArray, List.set_cons_zero, List.set_cons_succ]
                refine wpAnyL_take (i := 3) (v := .pointer (some ⟨g1, k * 4, none⟩)) (by simp only [List.getElem?_toArray, List.getElem?_cons_succ, List.getElem?_cons_zero]; rfl) (by as_aux_lemma => kernel_rfl) (by as_aux_lemma => kernel_rfl) (by as_aux_lemma => kernel_rfl) (fun _ _ _ h => h) (Or.inl ⟨by rfl, ?_⟩) hS ?_
                · intro U hU
                  obtain ⟨s0, s1, s2, s3, s4, s5, s6, s7⟩ := hU
                  kernel_rfl
                simp only [Act.put, List.setIfInBounds_toArray, List.set_cons_zero, List.set_cons_succ]
                refine wpAnyL_take (i := 4) (v := .int .i64 s.ly) (by simp only [List.getElem?_toArray, List.getElem?_cons_succ, List.getElem?_cons_zero]; rfl) (by as_aux_lemma => kernel_rfl) (by as_aux_lemma => kernel_rfl) (by as_aux_lemma => kernel_rfl) (fun _ _ _ h => h) (Or.inl ⟨by rfl, ?_⟩) hS ?_
                · intro U hU
                  obtain ⟨s0, s1, s2, s3, s4, s5, s6, s7⟩ := hU
                  exact exec_loadCell rfl rfl s0 (by kernel_rfl)
                simp only [Act.put, List.setIfInBounds_toArray, List.set_cons_zero, List.set_cons_succ]
                refine wpAnyL_take (i := 5) (v := .slice (some ⟨g2, 0, none⟩) NK c2) (by simp only [List.getElem?_toArray, List.getElem?_cons_succ, List.getElem?_cons_zero]; rfl) (by as_aux_lemma => kernel_rfl) (by as_aux_lemma => kernel_rfl) (by as_aux_lemma => kernel_rfl) (fun _ _ _ h => h) (Or.inl ⟨by rfl, ?_⟩) hS ?_
                · intro U hU
                  obtain ⟨s0, s1, s2, s3, s4, s5, s6, s7⟩ := hU
                  kernel_rfl
                simp only [Act.put, List.setIfInBounds_toArray, List.set_cons_zero, List.set_cons_succ]
                refine wpAnyL_take (i := 6) (v := .int .i64 (k : Int)) (by simp only [List.getElem?_toArray, List.getElem?_cons_succ, List.getElem?_cons_zero]; rfl) (by as_aux_lemma => kernel_rfl) (by as_aux_lemma => kernel_rfl) (by as_aux_lemma => kernel_rfl) (fun _ _ _ h => h) (Or.inl ⟨by rfl, ?_⟩) hS ?_
                · intro U hU
                  obtain ⟨s0, s1, s2, s3, s4, s5, s6, s7⟩ := hU
                  kernel_rfl
                simp only [Act.put, List.setIfInBounds_toArray, List.set_cons_zero, List.set_cons_succ]
                refine wpAnyL_take (i := 7) (v := .pointer (some ⟨g2, k * 4, none⟩)) (by simp only [List.getElem?_toArray, List.getElem?_cons_succ, List.getElem?_cons_zero]; rfl) (by as_aux_lemma => kernel_rfl) (by as_aux_lemma => kernel_rfl) (by as_aux_lemma => kernel_rfl) (fun _ _ _ h => h) (Or.inl ⟨by rfl, ?_⟩) hS ?_
                · intro U hU
                  obtain ⟨s0, s1, s2, s3, s4, s5, s6, s7⟩ := hU
                  go_simp
                simp only [Act.put, List.setIfInBounds_toArray, List.set_cons_zero, List.set_cons_succ]
                refine wpAnyL_take (i := 8) (v := .pointer (some ⟨g2, k * 4, none⟩)) (by simp only [List.getElem?_toArray, List.getElem?_cons_succ, List.getElem?_cons_zero]; rfl) (by as_aux_lemma => kernel_rfl) (by as_aux_lemma => kernel_rfl) (by as_aux_lemma => kernel_rfl) (fun _ _ _ h => h) (Or.inl ⟨by rfl, ?_⟩) hS ?_
                · intro U hU
                  obtain ⟨s0, s1, s2, s3, s4, s5, s6, s7⟩ := hU
                  kernel_rfl
                simp only [Act.put, List.setIfInBounds_toArray, List.set_cons_zero, List.set_cons_succ]
                refine wpAnyL_take (i := 9) (v := .int .i64 s.ly) (by simp only [List.getElem?_toArray, List.getElem?_cons_succ, List.getElem?_cons_zero]; rfl) (by as_aux_lemma => kernel_rfl) (by as_aux_lemma => kernel_rfl) (by as_aux_lemma => kernel_rfl) (fun _ _ _ h => h) (Or.inl ⟨by rfl, ?_⟩) hS ?_
                · intro U hU
                  obtain ⟨s0, s1, s2, s3, s4, s5, s6, s7⟩ := hU
                  exact exec_loadCell rfl rfl s4 (by kernel_rfl)
                simp only [Act.put, List.setIfInBounds_toArray, List.set_cons_zero, List.set_cons_succ]
                refine wpAnyL_take (i := 10) (v := .bool false) (by simp only [List.getElem?_toArray, List.getElem?_cons_succ, List.getElem?_cons_zero]; rfl) (by as_aux_lemma => kernel_rfl) (by as_aux_lemma => kernel_rfl) (by as_aux_lemma => kernel_rfl) (fun _ _ _ h => h) (Or.inl ⟨by rfl, ?_⟩) hS ?_
                · intro U hU
                  obtain ⟨s0, s1, s2, s3, s4, s5, s6, s7⟩ := hU
                  go_simp
                simp only [Act.put, List.setIfInBounds_toArray, List.set_cons_zero, List.set_cons_succ]
                refine wpAnyL_take (i := 11) (v := .bool false) (by simp only [List.getElem?_toArray, List.getElem?_cons_succ, List.getElem?_cons_zero]; rfl) (by as_aux_lemma => kernel_rfl) (by as_aux_lemma => kernel_rfl) (by as_aux_lemma => kernel_rfl) (fun _ _ _ h => h) (Or.inl ⟨by rfl, ?_⟩) hS ?_
                · intro U hU
                  obtain ⟨s0, s1, s2, s3, s4, s5, s6, s7⟩ := hU
                  kernel_rfl
                simp only [Act.put, List.setIfInBounds_toArray, List.set_cons_zero, List.set_cons_succ]
                refine wpAnyL_take (i := 12) (v := .slice (some ⟨g1, 0, none⟩) NK c1) (by simp only [List.getElem?_toArray, List.getElem?_cons_succ, List.getElem?_cons_zero]; rfl) (by as_aux_lemma => kernel_rfl) (by as_aux_lemma => kernel_rfl) (by as_aux_lemma => kernel_rfl) (fun _ _ _ h => h) (Or.inl ⟨by rfl, ?_⟩) hS ?_
                · intro U hU
                  obtain ⟨s0, s1, s2, s3, s4, s5, s6, s7⟩ := hU
                  kernel_rfl
                simp only [Act.put, List.setIfInBounds_toArray, List.set_cons_zero, List.set_cons_succ]
                refine wpAnyL_take (i := 13) (v := .int .i64 (k : Int)) (by simp only [List.getElem?_toArray, List.getElem?_cons_succ, List.getElem?_cons_zero]; rfl) (by as_aux_lemma => kernel_rfl) (by as_aux_lemma => kernel_rfl) (by as_aux_lemma => kernel_rfl) (fun _ _ _ h => h) (Or.inl ⟨by rfl, ?_⟩) hS ?_
                · intro U hU
                  obtain ⟨s0, s1, s2, s3, s4, s5, s6, s7⟩ := hU
                  kernel_rfl
                simp only [Act.put, List.setIfInBounds_toArray, List.set_cons_zero, List.set_cons_succ]
                refine wpAnyL_take (i := 14) (v := .pointer (some ⟨g1, k * 4, none⟩)) (by simp only [List.getElem?_toArray, List.getElem?_cons_succ, List.getElem?_cons_zero]; rfl) (by as_aux_lemma => kernel_rfl) (by as_aux_lemma => kernel_rfl) (by as_aux_lemma => kernel_rfl) (fun _ _ _ h => h) (Or.inl ⟨by rfl, ?_⟩) hS ?_
                · intro U hU
                  obtain ⟨s0, s1, s2, s3, s4, s5, s6, s7⟩ := hU
                  go_simp
                simp only [Act.put, List.setIfInBounds_toArray, List.set_cons_zero, List.set_cons_succ]
                refine wpAnyL_take (i := 15) (v := .pointer (some ⟨g1, k * 4 + 1, none⟩)) (by simp only [List.getElem?_toArray, List.getElem?_cons_succ, List.getElem?_cons_zero]; rfl) (by as_aux_lemma => kernel_rfl) (by as_aux_lemma => kernel_rfl) (by as_aux_lemma => kernel_rfl) (fun _ _ _ h => h) (Or.inl ⟨by rfl, ?_⟩) hS ?_
                · intro U hU
                  obtain ⟨s0, s1, s2, s3, s4, s5, s6, s7⟩ := hU
                  kernel_rfl
                simp only [Act.put, List.setIfInBounds_toArray, List.set_cons_zero, List.set_cons_succ]
                refine wpAnyL_take (i := 16) (v := .int .i64 s.rs) (by simp only [List.getElem?_toArray, List.getElem?_cons_succ, List.getElem?_cons_zero]; rfl) (by as_aux_lemma => kernel_rfl) (by as_aux_lemma => kernel_rfl) (by as_aux_lemma => kernel_rfl) (fun _ _ _ h => h) (Or.inl ⟨by rfl, ?_⟩) hS ?_
                · intro U hU
                  obtain ⟨s0, s1, s2, s3, s4, s5, s6, s7⟩ := hU
                  exact exec_loadCell rfl rfl s1 (by kernel_rfl)
                simp only [Act.put, List.setIfInBounds_toArray, List.set_cons_zero, List.set_cons_succ]
                refine wpAnyL_take (i := 17) (v := .slice (some ⟨g2, 0, none⟩) NK c2) (by simp only [List.getElem?_toArray, List.getElem?_cons_succ, List.getElem?_cons_zero]; rfl) (by as_aux_lemma => kernel_rfl) (by as_aux_lemma => kernel_rfl) (by as_aux_lemma => kernel_rfl) (fun _ _ _ h => h) (Or.inl ⟨by rfl, ?_⟩) hS ?_
                · intro U hU
                  obtain ⟨s0, s1, s2, s3, s4, s5, s6, s7⟩ := hU
                  kernel_rfl
                simp only [Act.put, List.setIfInBounds_toArray, List.set_cons_zero, List.set_cons_succ]
                refine wpAnyL_take (i := 18) (v := .int .i64 (k : Int)) (by simp only [List.getElem?_toArray, List.getElem?_cons_succ, List.getElem?_cons_zero]; rfl) (by as_aux_lemma => kernel_rfl) (by as_aux_lemma => kernel_rfl) (by as_aux_lemma => kernel_rfl) (fun _ _ _ h => h) (Or.inl ⟨by rfl, ?_⟩) hS ?_
                · intro U hU
                  obtain ⟨s0, s1, s2, s3, s4, s5, s6, s7⟩ := hU
                  kernel_rfl
                simp only [Act.put, List.setIfInBounds_toArray, List.set_cons_zero, List.set_cons_succ]
                refine wpAnyL_take (i := 19) (v := .pointer (some ⟨g2, k * 4, none⟩)) (by simp only [List.getElem?_toArray, List.getElem?_cons_succ, List.getElem?_cons_zero]; rfl) (by as_aux_lemma => kernel_rfl) (by as_aux_lemma => kernel_rfl) (by as_aux_lemma => kernel_rfl) (fun _ _ _ h => h) (Or.inl ⟨by rfl, ?_⟩) hS ?_
                · intro U hU
                  obtain ⟨s0, s1, s2, s3, s4, s5, s6, s7⟩ := hU
                  go_simp
                simp only [Act.put, List.setIfInBounds_toArray, List.set_cons_zero, List.set_cons_succ]
                refine wpAnyL_take (i := 20) (v := .pointer (some ⟨g2, k * 4 + 1, none⟩)) (by simp only [List.getElem?_toArray, List.getElem?_cons_succ, List.getElem?_cons_zero]; rfl) (by as_aux_lemma => kernel_rfl) (by as_aux_lemma => kernel_rfl) (by as_aux_lemma => kernel_rfl) (fun _ _ _ h => h) (Or.inl ⟨by rfl, ?_⟩) hS ?_
                · intro U hU
                  obtain ⟨s0, s1, s2, s3, s4, s5, s6, s7⟩ := hU
                  kernel_rfl
                simp only [Act.put, List.setIfInBounds_toArray, List.set_cons_zero, List.set_cons_succ]
                refine wpAnyL_take (i := 21) (v := .int .i64 s.rs) (by simp only [List.getElem?_toArray, List.getElem?_cons_succ, List.getElem?_cons_zero]; rfl) (by as_aux_lemma => kernel_rfl) (by as_aux_lemma => kernel_rfl) (by as_aux_lemma => kernel_rfl) (fun _ _ _ h => h) (Or.inl ⟨by rfl, ?_⟩) hS ?_
                · intro U hU
                  obtain ⟨s0, s1, s2, s3, s4, s5, s6, s7⟩ := hU
                  exact exec_loadCell rfl rfl s5 (by kernel_rfl)
                simp only [Act.put, List.setIfInBounds_toArray, List.set_cons_zero, List.set_cons_succ]
                refine wpAnyL_take (i := 22) (v := .bool false) (by simp only [List.getElem?_toArray, List.getElem?_cons_succ, List.getElem?_cons_zero]; rfl) (by as_aux_lemma => kernel_rfl) (by as_aux_lemma => kernel_rfl) (by as_aux_lemma => kernel_rfl) (fun _ _ _ h => h) (Or.inl ⟨by rfl, ?_⟩) hS ?_
                · intro U hU
                  obtain ⟨s0, s1, s2, s3, s4, s5, s6, s7⟩ := hU
                  go_simp
                simp only [Act.put, List.setIfInBounds_toArray, List.set_cons_zero, List.set_cons_succ]
                refine wpAnyL_take (i := 23) (v := .bool false) (by simp only [List.getElem?_toArray, List.getElem?_cons_succ, List.getElem?_cons_zero]; rfl) (by as_aux_lemma => kernel_rfl) (by as_aux_lemma => kernel_rfl) (by as_aux_lemma => kernel_rfl) (fun _ _ _ h => h) (Or.inl ⟨by rfl, ?_⟩) hS ?_
                · intro U hU
                  obtain ⟨s0, s1, s2, s3, s4, s5, s6, s7⟩ := hU
                  kernel_rfl
                simp only [Act.put, List.setIfInBounds_toArray, List.set_cons_zero, List.set_cons_succ]
                refine wpAnyL_take (i := 24) (v := .bool false) (by simp only [List.getElem?_toArray, List.getElem?_cons_succ, List.getElem?_cons_zero]; rfl) (by as_aux_lemma => kernel_rfl) (by as_aux_lemma => kernel_rfl) (by as_aux_lemma => kernel_rfl) (fun _ _ _ h => h) (Or.inl ⟨by rfl, ?_⟩) hS ?_
                · intro U hU
                  obtain ⟨s0, s1, s2, s3, s4, s5, s6, s7⟩ := hU
                  kernel_rfl
                simp only [Act.put, List.setIfInBounds_toArray, List.set_cons_zero, List.set_cons_succ]
                refine wpAnyL_take (i := 25) (v := .slice (some ⟨g1, 0, none⟩) NK c1) (by simp only [List.getElem?_toArray, List.getElem?_cons_succ, List.getElem?_cons_zero]; rfl) (by as_aux_lemma => kernel_rfl) (by as_aux_lemma => kernel_rfl) (by as_aux_lemma => kernel_rfl) (fun _ _ _ h => h) (Or.inl ⟨by rfl, ?_⟩) hS ?_
                · intro U hU
                  obtain ⟨s0, s1, s2, s3, s4, s5, s6, s7⟩ := hU
                  kernel_rfl
                simp only [Act.put, List.setIfInBounds_toArray, List.set_cons_zero, List.set_cons_succ]
                refine wpAnyL_take (i := 26) (v := .int .i64 (k : Int)) (by simp only [List.getElem?_toArray, List.getElem?_cons_succ, List.getElem?_cons_zero]; rfl) (by as_aux_lemma => kernel_rfl) (by as_aux_lemma => kernel_rfl) (by as_aux_lemma => kernel_rfl) (fun _ _ _ h => h) (Or.inl ⟨by rfl, ?_⟩) hS ?_
                · intro U hU
                  obtain ⟨s0, s1, s2, s3, s4, s5, s6, s7⟩ := hU
                  kernel_rfl
                simp only [Act.put, List.setIfInBounds_toArray, List.set_cons_zero, List.set_cons_succ]
                refine wpAnyL_take (i := 27) (v := .pointer (some ⟨g1, k * 4, none⟩)) (by simp only [List.getElem?_toArray, List.getElem?_cons_succ, List.getElem?_cons_zero]; rfl) (by as_aux_lemma => kernel_rfl) (by as_aux_lemma => kernel_rfl) (by as_aux_lemma => kernel_rfl) (fun _ _ _ h => h) (Or.inl ⟨by rfl, ?_⟩) hS ?_
                · intro U hU
                  obtain ⟨s0, s1, s2, s3, s4, s5, s6, s7⟩ := hU
                  go_simp
                simp only [Act.put, List.setIfInBounds_toArray, List.set_cons_zero, List.set_cons_succ]
                refine wpAnyL_take (i := 28) (v := .pointer (some ⟨g1, k * 4 + 2, none⟩)) (by simp only [List.getElem?_toArray, List.getElem?_cons_succ, List.getElem?_cons_zero]; rfl) (by as_aux_lemma => kernel_rfl) (by as_aux_lemma => kernel_rfl) (by as_aux_lemma => kernel_rfl) (fun _ _ _ h => h) (Or.inl ⟨by rfl, ?_⟩) hS ?_
                · intro U hU
                  obtain ⟨s0, s1, s2, s3, s4, s5, s6, s7⟩ := hU
                  kernel_rfl
                simp only [Act.put, List.setIfInBounds_toArray, List.set_cons_zero, List.set_cons_succ]
                refine wpAnyL_take (i := 29) (v := .int .i64 s.cm) (by simp only [List.getElem?_toArray, List.getElem?_cons_succ, List.getElem?_cons_zero]; rfl) (by as_aux_lemma => kernel_rfl) (by as_aux_lemma => kernel_rfl) (by as_aux_lemma => kernel_rfl) (fun _ _ _ h => h) (Or.inl ⟨by rfl, ?_⟩) hS ?_
                · intro U hU
                  obtain ⟨s0, s1, s2, s3, s4, s5, s6, s7⟩ := hU
                  exact exec_loadCell rfl rfl s2 (by kernel_rfl)
                simp only [Act.put, List.setIfInBounds_toArray, List.set_cons_zero, List.set_cons_succ]
                refine wpAnyL_take (i := 30) (v := .slice (some ⟨g2, 0, none⟩) NK c2) (by simp only [List.getElem?_toArray, List.getElem?_cons_succ, List.getElem?_cons_zero]; rfl) (by as_aux_lemma => kernel_rfl) (by as_aux_lemma => kernel_rfl) (by as_aux_lemma => kernel_rfl) (fun _ _ _ h => h) (Or.inl ⟨by rfl, ?_⟩) hS ?_
                · intro U hU
                  obtain ⟨s0, s1, s2, s3, s4, s5, s6, s7⟩ := hU
                  kernel_rfl
                simp only [Act.put, List.setIfInBounds_toArray, List.set_cons_zero, List.set_cons_succ]
                refine wpAnyL_take (i := 31) (v := .int .i64 (k : Int)) (by simp only [List.getElem?_toArray, List.getElem?_cons_succ, List.getElem?_cons_zero]; rfl) (by as_aux_lemma => kernel_rfl) (by as_aux_lemma => kernel_rfl) (by as_aux_lemma => kernel_rfl) (fun _ _ _ h => h) (Or.inl ⟨by rfl, ?_⟩) hS ?_
                · intro U hU
                  obtain ⟨s0, s1, s2, s3, s4, s5, s6, s7⟩ := hU
                  kernel_rfl
                simp only [Act.put, List.setIfInBounds_toArray, List.set_cons_zero, List.set_cons_succ]
                refine wpAnyL_take (i := 32) (v := .pointer (some ⟨g2, k * 4, none⟩)) (by simp only [List.getElem?_toArray, List.getElem?_cons_succ, List.getElem?_cons_zero]; rfl) (by as_aux_lemma => kernel_rfl) (by as_aux_lemma => kernel_rfl) (by as_aux_lemma => kernel_rfl) (fun _ _ _ h => h) (Or.inl ⟨by rfl, ?_⟩) hS ?_
                · intro U hU
                  obtain ⟨s0, s1, s2, s3, s4, s5, s6, s7⟩ := hU
                  go_simp
                simp only [Act.put, List.setIfInBounds_toArray, List.set_cons_zero, List.set_cons_succ]
                refine wpAnyL_take (i := 33) (v := .pointer (some ⟨g2, k * 4 + 2, none⟩)) (by simp only [List.getElem?_toArray, List.getElem?_cons_succ, List.getElem?_cons_zero]; rfl) (by as_aux_lemma => kernel_rfl) (by as_aux_lemma => kernel_rfl) (by as_aux_lemma => kernel_rfl) (fun _ _ _ h => h) (Or.inl ⟨by rfl, ?_⟩) hS ?_
                · intro U hU
                  obtain ⟨s0, s1, s2, s3, s4, s5, s6, s7⟩ := hU
                  kernel_rfl
                simp only [Act.put, List.setIfInBounds_toArray, List.set_cons_zero, List.set_cons_succ]
                refine wpAnyL_take (i := 34) (v := .int .i64 s.cm) (by simp only [List.getElem?_toArray, List.getElem?_cons_succ, List.getElem?_cons_zero]; rfl) (by as_aux_lemma => kernel_rfl) (by as_aux_lemma => kernel_rfl) (by as_aux_lemma => kernel_rfl) (fun _ _ _ h => h) (Or.inl ⟨by rfl, ?_⟩) hS ?_
                · intro U hU
                  obtain ⟨s0, s1, s2, s3, s4, s5, s6, s7⟩ := hU
                  exact exec_loadCell rfl rfl s6 (by kernel_rfl)
                simp only [Act.put, List.setIfInBounds_toArray, List.set_cons_zero, List.set_cons_succ]
                refine wpAnyL_take (i := 35) (v := .bool false) (by simp only [List.getElem?_toArray, List.getElem?_cons_succ, List.getElem?_cons_zero]; rfl) (by as_aux_lemma => kernel_rfl) (by as_aux_lemma => kernel_rfl) (by as_aux_lemma => kernel_rfl) (fun _ _ _ h => h) (Or.inl ⟨by rfl, ?_⟩) hS ?_
                · intro U hU
                  obtain ⟨s0, s1, s2, s3, s4, s5, s6, s7⟩ := hU
                  go_simp
                simp only [Act.put, List.setIfInBounds_toArray, List.set_cons_zero, List.set_cons_succ]
                refine wpAnyL_take (i := 36) (v := .bool false) (by simp only [List.getElem?_toArray, List.getElem?_cons_succ, List.getElem?_cons_zero]; rfl) (by as_aux_lemma => kernel_rfl) (by as_aux_lemma => kernel_rfl) (by as_aux_lemma => kernel_rfl) (fun _ _ _ h => h) (Or.inl ⟨by rfl, ?_⟩) hS ?_
                · intro U hU
                  obtain ⟨s0, s1, s2, s3, s4, s5, s6, s7⟩ := hU
                  kernel_rfl
                simp only [Act.put, List.setIfInBounds_toArray, List.set_cons_zero, List.set_cons_succ]
                refine wpAnyL_take (i := 37) (v := .bool false) (by simp only [List.getElem?_toArray, List.getElem?_cons_succ, List.getElem?_cons_zero]; rfl) (by as_aux_lemma => kernel_rfl) (by as_aux_lemma => kernel_rfl) (by as_aux_lemma => kernel_rfl) (fun _ _ _ h => h) (Or.inl ⟨by rfl, ?_⟩) hS ?_
                · intro U hU
                  obtain ⟨s0, s1, s2, s3, s4, s5, s6, s7⟩ := hU
                  kernel_rfl
                simp only [Act.put, List.setIfInBounds_toArray, List.set_cons_zero, List.set_cons_succ]
                refine wpAnyL_take (i := 38) (v := .slice (some ⟨g1, 0, none⟩) NK c1) (by simp only [List.getElem?_toArray, List.getElem?_cons_succ, List.getElem?_cons_zero]; rfl) (by as_aux_lemma => kernel_rfl) (by as_aux_lemma => kernel_rfl) (by as_aux_lemma => kernel_rfl) (fun _ _ _ h => h) (Or.inl ⟨by rfl, ?_⟩) hS ?_
                · intro U hU
                  obtain ⟨s0, s1, s2, s3, s4, s5, s6, s7⟩ := hU
                  kernel_rfl
                simp only [Act.put, List.setIfInBounds_toArray, List.set_cons_zero, List.set_cons_succ]
                refine wpAnyL_take (i := 39) (v := .int .i64 (k : Int)) (by simp only [List.getElem?_toArray, List.getElem?_cons_succ, List.getElem?_cons_zero]; rfl) (by as_aux_lemma => kernel_rfl) (by as_aux_lemma => kernel_rfl) (by as_aux_lemma => kernel_rfl) (fun _ _ _ h => h) (Or.inl ⟨by rfl, ?_⟩) hS ?_
                · intro U hU
                  obtain ⟨s0, s1, s2, s3, s4, s5, s6, s7⟩ := hU
                  kernel_rfl
                simp only [Act.put, List.setIfInBounds_toArray, List.set_cons_zero, List.set_cons_succ]
                refine wpAnyL_take (i := 40) (v := .pointer (some ⟨g1, k * 4, none⟩)) (by simp only [List.getElem?_toArray, List.getElem?_cons_succ, List.getElem?_cons_zero]; rfl) (by as_aux_lemma => kernel_rfl) (by as_aux_lemma => kernel_rfl) (by as_aux_lemma => kernel_rfl) (fun _ _ _ h => h) (Or.inl ⟨by rfl, ?_⟩) hS ?_
                · intro U hU
                  obtain ⟨s0, s1, s2, s3, s4, s5, s6, s7⟩ := hU
                  go_simp
                simp only [Act.put, List.setIfInBounds_toArray, List.set_cons_zero, List.set_cons_succ]
                refine wpAnyL_take (i := 41) (v := .pointer (some ⟨g1, k * 4 + 3, none⟩)) (by simp only [List.getElem?_toArray, List.getElem?_cons_succ, List.getElem?_cons_zero]; rfl) (by as_aux_lemma => kernel_rfl) (by as_aux_lemma => kernel_rfl) (by as_aux_lemma => kernel_rfl) (fun _ _ _ h => h) (Or.inl ⟨by rfl, ?_⟩) hS ?_
                · intro U hU
                  obtain ⟨s0, s1, s2, s3, s4, s5, s6, s7⟩ := hU
                  kernel_rfl
                simp only [Act.put, List.setIfInBounds_toArray, List.set_cons_zero, List.set_cons_succ]
                refine wpAnyL_take (i := 42) (v := .int .i64 s.pc) (by simp only [List.getElem?_toArray, List.getElem?_cons_succ, List.getElem?_cons_zero]; rfl) (by as_aux_lemma => kernel_rfl) (by as_aux_lemma => kernel_rfl) (by as_aux_lemma => kernel_rfl) (fun _ _ _ h => h) (Or.inl ⟨by rfl, ?_⟩) hS ?_
                · intro U hU
                  obtain ⟨s0, s1, s2, s3, s4, s5, s6, s7⟩ := hU
                  exact exec_loadCell rfl rfl s3 (by kernel_rfl)
                simp only [Act.put, List.setIfInBounds_toArray, List.set_cons_zero, List.set_cons_succ]
                refine wpAnyL_take (i := 43) (v := .slice (some ⟨g2, 0, none⟩) NK c2) (by simp only [List.getElem?_toArray, List.getElem?_cons_succ, List.getElem?_cons_zero]; rfl) (by as_aux_lemma => kernel_rfl) (by as_aux_lemma => kernel_rfl) (by as_aux_lemma => kernel_rfl) (fun _ _ _ h => h) (Or.inl ⟨by rfl, ?_⟩) hS ?_
                · intro U hU
                  obtain ⟨s0, s1, s2, s3, s4, s5, s6, s7⟩ := hU
                  kernel_rfl
                simp only [Act.put, List.setIfInBounds_toArray, List.set_cons_zero, List.set_cons_succ]
                refine wpAnyL_take (i := 44) (v := .int .i64 (k : Int)) (by simp only [List.getElem?_toArray, List.getElem?_cons_succ, List.getElem?_cons_zero]; rfl) (by as_aux_lemma => kernel_rfl) (by as_aux_lemma => kernel_rfl) (by as_aux_lemma => kernel_rfl) (fun _ _ _ h => h) (Or.inl ⟨by rfl, ?_⟩) hS ?_
                · intro U hU
                  obtain ⟨s0, s1, s2, s3, s4, s5, s6, s7⟩ := hU
                  kernel_rfl
                simp only [Act.put, List.setIfInBounds_toArray, List.set_cons_zero, List.set_cons_succ]
                refine wpAnyL_take (i := 45) (v := .pointer (some ⟨g2, k * 4, none⟩)) (by simp only [List.getElem?_toArray, List.getElem?_cons_succ, List.getElem?_cons_zero]; rfl) (by as_aux_lemma => kernel_rfl) (by as_aux_lemma => kernel_rfl) (by as_aux_lemma => kernel_rfl) (fun _ _ _ h => h) (Or.inl ⟨by rfl, ?_⟩) hS ?_
                · intro U hU
                  obtain ⟨s0, s1, s2, s3, s4, s5, s6, s7⟩ := hU
                  go_simp
                simp only [Act.put, List.setIfInBounds_toArray, List.set_cons_zero, List.set_cons_succ]
                refine wpAnyL_take (i := 46) (v := .pointer (some ⟨g2, k * 4 + 3, none⟩)) (by simp only [List.getElem?_toArray, List.getElem?_cons_succ, List.getElem?_cons_zero]; rfl) (by as_aux_lemma => kernel_rfl) (by as_aux_lemma => kernel_rfl) (by as_aux_lemma => kernel_rfl) (fun _ _ _ h => h) (Or.inl ⟨by rfl, ?_⟩) hS ?_
                · intro U hU
                  obtain ⟨s0, s1, s2, s3, s4, s5, s6, s7⟩ := hU
                  kernel_rfl
                simp only [Act.put, List.setIfInBounds_toArray, List.set_cons_zero, List.set_cons_succ]
                refine wpAnyL_take (i := 47) (v := .int .i64 s.pc) (by simp only [List.getElem?_toArray, List.getElem?_cons_succ, List.getElem?_cons_zero]; rfl) (by as_aux_lemma => kernel_rfl) (by as_aux_lemma => kernel_rfl) (by as_aux_lemma => kernel_rfl) (fun _ _ _ h => h) (Or.inl ⟨by rfl, ?_⟩) hS ?_
                · intro U hU
                  obtain ⟨s0, s1, s2, s3, s4, s5, s6, s7⟩ := hU
                  exact exec_loadCell rfl rfl s7 (by kernel_rfl)
                simp only [Act.put, List.setIfInBounds_toArray, List.set_cons_zero, List.set_cons_succ]
                refine wpAnyL_take (i := 48) (v := .bool false) (by simp only [List.getElem?_toArray, List.getElem?_cons_succ, List.getElem?_cons_zero]; rfl) (by as_aux_lemma => kernel_rfl) (by as_aux_lemma => kernel_rfl) (by as_aux_lemma => kernel_rfl) (fun _ _ _ h => h) (Or.inl ⟨by rfl, ?_⟩) hS ?_
                · intro U hU
                  obtain ⟨s0, s1, s2, s3, s4, s5, s6, s7⟩ := hU
                  go_simp
                simp only [Act.put, List.setIfInBounds_toArray, List.set_cons_zero, List.set_cons_succ]
                refine wpAnyL_take (i := 49) (v := .bool false) (by simp only [List.getElem?_toArray, List.getElem?_cons_succ, List.getElem?_cons_zero]; rfl) (by as_aux_lemma => kernel_rfl) (by as_aux_lemma => kernel_rfl) (by as_aux_lemma => kernel_rfl) (fun _ _ _ h => h) (Or.inl ⟨by rfl, ?_⟩) hS ?_
                · intro U hU
                  obtain ⟨s0, s1, s2, s3, s4, s5, s6, s7⟩ := hU
                  kernel_rfl
                simp only [Act.put, List.setIfInBounds_toArray, List.set_cons_zero, List.set_cons_succ]
                refine wpAnyL_done (by as_aux_lemma => kernel_rfl) ?_ _
                simp only [OnlyN]
                refine ⟨?_, bV⟩
                (try simp only [Act.put, List.setIfInBounds_toArray, List.set_cons_zero, List.set_cons_succ])
              rintro a' Wa ⟨rfl, ha⟩
              simp only [Act.put, List.setIfInBounds_toArray, List.set_cons_zero, List.set_cons_succ]
              have HBa := Lib.hid (HB.out.trans (ha.mono zw))
              clear ha HB a0 a1 a2 a3 d0 d1 d2 d3
              go_wp2_with fail
              go_roundg (NK - (k + 1))
              case measure => omega
              case rel => exact ⟨k + 1, by go_num, by omega, Nat.le_refl _, HBa⟩
            · have hlkz : ¬ (k : Int) < (NK : Int) := by omega
              have WI := wrap_add1 (a := i) (c := i + 1) rfl (by omega)
              have HBz := Lib.hid (HB9.out.trans (HB.out.mono z9))
              go_wp2_with fail
              go_roundg (NT - (i + 1))
              case measure => omega
              case rel => exact ⟨i + 1, by go_num, by omega, Nat.le_refl _, HBz⟩
        · have hltiz : ¬ (i : Int) < (NT : Int) := by omega
          have WO := wrap_add1 (a := o) (c := o + 1) rfl (by omega)
          have HZ := Lib.hid (And.intro (HB8.out.trans (HB.out.mono (by omega))) (And.intro (show gm + 2 ≤ wr.heap.size by have := HB.out.size; omega) (And.intro (HC8.out.below (HB.out.mono (by omega))) (HOT8.out.below HB.out))))
          have HRz := Lib.hid (And.intro ((HB.out.block gm (by omega)).trans HR8.out.1) ((HB.out.block (gm + 1) (by omega)).trans HR8.out.2))
          go_wp2_with fail
          go_roundg (5 - (o + 1))
          case measure => omega
          case rel => exact ⟨o + 1, o, by go_num, by omega, Nat.le_refl _, HRz, HZ⟩
    · have hltz : ¬ (o : Int) < 5 := by omega
      have bz := HBr.out.1
      go_wp2_with fail
      go_ret
      exact ⟨rfl, bz⟩
end Go.Proofs.Ytpgkdpoehkdhcaa
namespace Go.Proofs.Ytpgkdpoehkdhcaa.orderLists
open Go.ChangeShapes Go.WideShapes Go.ChangeAt Go.RowKit Go.Joins
set_option linter.unusedVariables false
set_option linter.unusedSimpArgs false

theorem own : ownKnob Try.prog.godebug = none := by kernel_rfl
theorem laidOut : laidOutB Try.prog = true := by kernel_rfl

/-- a slice of integers that came in: nil, or a row of so many cells -/
def IsRow (k : IntKind) (w : World) (a : Option Addr) (len cap : Nat) (zs : List Int) : Prop :=
  (a = none ∧ len = 0 ∧ cap = 0 ∧ zs = []) ∨
  ∃ x, a = some x ∧ len ≤ cap ∧ cap ≤ maxLen ∧ zs.length = cap ∧ (∀ i, i < zs.length → w.cell? (x.add i) = some (.int k (zs.getD i 0))) ∧ ∀ n ∈ zs, (Lit.int k n).wf = true

theorem walk (a0_0 : Int) (a0_1 : Int) (a0_2 : Int) (a0_3 : Int) (a0_4 : Int) (a0_5 : Int) (a0_6 : Int) (a0_7 : Bool) (a0_8 : Bool) (a0_9 : Bool) (a0_10 : Bool) (a0_11 : Int) (a0_12 : Int) (a0_13 : Int) (a0_14 : Int) (a0_15 : Int) (a0_16 : Int) (a0_17 : Int) (a0_18 : Int) (a0_19 : Int) (NA0 : Option Addr) (nN0 cN0 : Nat) (z0 : List Int) (w : World) (s0 : -9223372036854775808 ≤ a0_6 ∧ a0_6 ≤ 9223372036854775807) (w0 : IsRowF w NA0 nN0 cN0 z0) :
    Calls Try.prog 3 #[.agg #[.int .i64 a0_0, .int .i64 a0_1, .int .i64 a0_2, .int .i64 a0_3, .int .i64 a0_4, .int .i64 a0_5, .int .i64 a0_6, .bool a0_7, .bool a0_8, .bool a0_9, .bool a0_10, .int .i64 a0_11, .int .i64 a0_12, .int .i64 a0_13, .int .i64 a0_14, .int .i64 a0_15, .int .i64 a0_16, .int .i64 a0_17, .int .i64 a0_18, .int .i64 a0_19, .slice NA0 nN0 cN0]] w fun e w' => e = .returned (.bool true) ∧ Below w.heap.size w w' := by
  exact ordLst_walk a0_0 a0_1 a0_2 a0_3 a0_4 a0_5 a0_6 a0_7 a0_8 a0_9 a0_10 a0_11 a0_12 a0_13 a0_14 a0_15 a0_16 a0_17 a0_18 a0_19 NA0 nN0 cN0 (fun k => z0.getD k 0) w (ints_of_row w0).1 (rowF_bd w0) (ints_of_row w0).2.1 s0

set_option maxRecDepth 100000 in
theorem lifted (os : Os) (started : os.Started) (H : Type) (enc : TypeId × Value → H) :
    ReturnsInHanded {} Try.checked os 3 .any (Rows.orderListsSpec.pre6 enc Try.prog Try.f3 Rows.orderListsRow.domain false) (Rows.orderListsSpec.post enc Try.prog Try.f3 false true false false) := by
  refine returnsInHanded_of_change (C := Try.checked) own started (by kernel_rfl) Try.func3
    (ChangeSpec.witness6 (enc := enc) (C := Try.checked) false ⟨#[], #[.agg #[.int .i64 0, .int .i64 0, .int .i64 0, .int .i64 0, .int .i64 0, .int .i64 0, .int .i64 0, .bool false, .bool false, .bool false, .bool false, .int .i64 0, .int .i64 0, .int .i64 0, .int .i64 0, .int .i64 0, .int .i64 0, .int .i64 0, .int .i64 0, .int .i64 0, .slice none 0 0]], []⟩ 8 (by kernel_rfl) (by kernel_rfl) (by kernel_rfl) (by kernel_rfl)) ?_
  intro W base args ds gs before hval0 hW hcnd _
  have hval : ∀ (j : Nat) t v, Try.f3.params[j]? = some t → args[j]? = some v → Value.okWide Try.prog W .any base t v := hval0
  have hW' := hW
  obtain ⟨p, q, hA0, hV, rfl, hfz, hnd⟩ := hW
  have hA : DataW.TrodAll enc Try.prog W 0 (fun _ => true) true Try.f3.params.toList args.toList ds p := hA0
  rw [Try.params3] at hA hval
  obtain ⟨v0, vs0, d0, ds0, p0, q0, hargs, rfl, rfl, h0, r0⟩ := trodAll_cons hA
  obtain ⟨rfl, rfl, rfl⟩ := trodAll_nil r0
  obtain rfl : args = #[v0] := by cases args; simp_all
  obtain ⟨rfl, rfl⟩ := trodVars_none hV
  have k0 := h0
  have lt0 : ∀ x ∈ p0, x.block < W.heap.size := by obtain ⟨m, hm⟩ := k0; exact DataW.trod_lt m _ _ _ hm
  obtain ⟨a0_0, a0_1, a0_2, a0_3, a0_4, a0_5, a0_6, a0_7, a0_8, a0_9, a0_10, a0_11, a0_12, a0_13, a0_14, a0_15, a0_16, a0_17, a0_18, a0_19, NA0, nN0, cN0, z0, rfl, s0, w0⟩ := open_form (fun _ => rfl) (hval 0 24 v0 rfl rfl) h0
  clear hA0 hval0
  refine (walk a0_0 a0_1 a0_2 a0_3 a0_4 a0_5 a0_6 a0_7 a0_8 a0_9 a0_10 a0_11 a0_12 a0_13 a0_14 a0_15 a0_16 a0_17 a0_18 a0_19 NA0 nN0 cN0 z0 W s0 w0).mono fun e W' ⟨he, bel⟩ => ?_
  subst he
  exact ⟨_, rfl, _, _, _, [], _, [], hW', trodAll_mk1 (shut_bool Try.underlying4 _), (trodAll_cons_mk (Below.trod laidOut (by kernel_rfl) (of_decide_eq_true (by kernel_rfl)) k0 bel lt0) trodAll_mk0), rfl, bel.frame _, fun h => by cases h⟩

theorem over : Rows.orderListsRow.holds Try.pinned (OpenSpec.ofChange Rows.orderListsSpec) :=
  OpenClaim.holds_of_wide 3 Try.f3 rfl rfl rfl rfl rfl rfl rfl ⟨rfl, rfl, rfl, rfl, rfl⟩ rfl rfl rfl rfl rfl (by kernel_rfl) Try.func3 (by kernel_rfl)
    (of_decide_eq_true (by kernel_rfl)) (by unfold Func.isWrapper; first | (rw [if_pos (by decide +kernel)]; kernel_rfl) | (rw [if_neg (by decide +kernel)]; exact ⟨rfl, rfl⟩))
    (fun os started H enc _ => lifted os started H enc)

/-- THE STATEMENT -/
theorem proved : Rows.OrderListsSaid := over
end Go.Proofs.Ytpgkdpoehkdhcaa.orderLists
