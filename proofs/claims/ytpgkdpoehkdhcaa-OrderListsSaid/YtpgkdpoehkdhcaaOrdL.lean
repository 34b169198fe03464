/- order.List: the packets of a tile, laid and sorted. -/
import Derived.Test.YtpgkdpoehkdhcaaOrdN
import Derived.Test.YtpgkdpoehkdhcaaOrdT
namespace Go.Proofs.Ytpgkdpoehkdhcaa
open Go.RowKit Go.Shelf
attribute [local go_sem] Oper.semAt_some
attribute [local go_sem] opv opnd
set_option maxHeartbeats 80000000
set_option linter.unusedVariables false
set_option linter.unusedSimpArgs false
set_option maxRecDepth 1000000

theorem list_any (Q : OrdQ) (hQ : Q.Ok) (X Y Ox Oy : Int) (IA : Option Addr) (n ic : Nat) (F : Nat → CompD) (Tx Ty Cw Ch St : Int) (rct sop eph : Bool) (x0 y0 x1 y1 lv pr od ly : Nat)
    (eQ : Q.x0 = x0 ∧ Q.y0 = y0 ∧ Q.x1 = x1 ∧ Q.y1 = y1 ∧ Q.lv = lv ∧ Q.pr = pr ∧ Q.od = od ∧ Q.ly = ly ∧ Q.n = n) (hic : n ≤ ic) (hF : ∀ k, k < n → (F k).dx = (Q.dx k : Int) ∧ (F k).dy = (Q.dy k : Int))
    (hfr : frameE X Y Ox Oy n F Tx Ty lv Cw Ch pr St od ly rct = 0) (w : World) (ha : CompsAt w w.heap.size IA n F) :
    Calls Try.prog 13 #[.agg #[.int .i64 (x0 : Int), .int .i64 (y0 : Int), .int .i64 (x1 : Int), .int .i64 (y1 : Int)], .agg #[.int .i64 X, .int .i64 Y, .int .i64 Ox, .int .i64 Oy, .slice IA n ic], .agg #[.int .i64 Tx, .int .i64 Ty, .int .i64 (lv : Int), .int .i64 Cw, .int .i64 Ch, .int .i64 (pr : Int), .int .i64 St, .int .i64 (od : Int), .int .i64 (ly : Int), .bool rct, .bool sop, .bool eph]] w fun e w' => ∃ (K : List Spot) (A : Option Addr) (c : Nat), e = .returned (.slice A K.length c) ∧ K.Perm (Q.l1 ly) ∧ K.Pairwise (fun a b => ltS b a = false) ∧ OwnC w' w.heap.size 42 4 (.slice A K.length c) K.length (fun k => (rowS K k).take 4) ∧ Below w.heap.size w w' := by
  obtain ⟨q, hq⟩ : ∃ q, w.heap.size = q := ⟨_, rfl⟩
  rw [hq] at ha
  have HA := Lib.hid ha
  have HFD := Lib.hid hF
  have HEQ := Lib.hid eQ
  have HQ := Lib.hid hQ
  have hly : ly ≤ 9 := by have := hQ.ly; omega
  have hlv : lv ≤ 5 := by have := hQ.lv; omega
  have hpr : pr ≤ 15 := by have := hQ.pr; omega
  have hod : od ≤ 4 := by have := hQ.od; omega
  have hn16 : n ≤ 4 := by have := hQ.n; omega
  have htt : x0 ≤ 64 ∧ y0 ≤ 64 ∧ x1 ≤ 64 ∧ y1 ≤ 64 := by have := hQ.t; omega
  have HFR := Lib.hid (fun V : World => fun hV : CompsAt V V.heap.size IA n F => hfr ▸ frame_any X Y Ox Oy IA n ic F Tx Ty lv Cw Ch pr St od ly rct sop eph V hV hic)
  unfold imgV parV at HFR
  clear ha hF eQ hQ hfr
  refine (callsIn_wide (n := 4)).1 ?_
  refine callsIn_of_wp_marks Try.func13 rfl trivial ?_ rfl
  simp only [Try.ntmps13, List.size_toArray, List.length_cons, List.length_nil, Nat.reduceAdd, Nat.reduceSub, Array.replicate_succ, Array.replicate_zero, List.push_toArray, List.append_toArray, List.nil_append, List.cons_append]
  refine wpIn_wide.2 ?_
  go_upto_region 1 with fail
  generalize hW0 : World.alloc (World.alloc (World.alloc w _) _) _ = W0
  have rt0 : W0.heap[q]? = some (.cells #[.int .i64 (x0 : Int), .int .i64 (y0 : Int), .int .i64 (x1 : Int), .int .i64 (y1 : Int)] 38 (0, 0)) := by rw [← hW0, ← hq]; exact (Below.heap_alloc _ _ _ (by simp; omega)).trans ((Below.heap_alloc _ _ _ (by simp)).trans (heap_alloc_new w _))
  have rm0 : W0.heap[q + 1]? = some (.cells #[.int .i64 X, .int .i64 Y, .int .i64 Ox, .int .i64 Oy, .slice IA n ic] 28 (0, 0)) := by rw [← hW0, ← hq]; exact (Below.heap_alloc _ _ _ (by simp)).trans (heap_alloc_new2 w _ _)
  have rp0 : W0.heap[q + 2]? = some (.cells #[.int .i64 Tx, .int .i64 Ty, .int .i64 (lv : Int), .int .i64 Cw, .int .i64 Ch, .int .i64 (pr : Int), .int .i64 St, .int .i64 (od : Int), .int .i64 (ly : Int), .bool rct, .bool sop, .bool eph] 30 (0, 0)) := by rw [← hW0, ← hq]; exact (by simpa using heap_alloc_new (World.alloc (World.alloc w _) _) _)
  have z0 : W0.heap.size = q + 3 := by rw [← hW0, ← hq]; simp
  have b_0 : Below q w W0 := by rw [← hW0, ← hq]; exact below_alloc (below_alloc (below_alloc (Below.refl _ _) _) _) _
  clear hW0
  refine wp_region_lit ?_
  refine wpList_loadRow rfl rfl (by kernel_rfl) rt0 (by kernel_rfl) (by kernel_rfl) ?_
  go_wp2_with fail
  refine (knownO_any x0 y0 x1 y1 htt W0).mono ?_
  rintro e' W1 ⟨rfl, h1⟩
  have rt1 := (h1.block q (by omega)).trans rt0
  have rm1 := (h1.block (q + 1) (by omega)).trans rm0
  have rp1 := (h1.block (q + 2) (by omega)).trans rp0
  have b_1 := b_0.trans (h1.mono (by omega))
  have z1 : q + 3 ≤ W1.heap.size := by have := h1.size; omega
  clear h1 rt0 rm0 rp0 b_0 z0
  have mc0 : W1.cell? ⟨q + 1, 0, none⟩ = some (.int .i64 X) := cell_of_row _ _ 0 _ _ (0, 0) rm1
  have mc1 : W1.cell? ⟨q + 1, 1, none⟩ = some (.int .i64 Y) := cell_of_row _ _ 1 _ _ (0, 0) rm1
  have mc2 : W1.cell? ⟨q + 1, 2, none⟩ = some (.int .i64 Ox) := cell_of_row _ _ 2 _ _ (0, 0) rm1
  have mc3 : W1.cell? ⟨q + 1, 3, none⟩ = some (.int .i64 Oy) := cell_of_row _ _ 3 _ _ (0, 0) rm1
  have mc4 : W1.cell? ⟨q + 1, 4, none⟩ = some (.slice IA n ic) := cell_of_row _ _ 4 _ _ (0, 0) rm1
  have pc0 : W1.cell? ⟨q + 2, 0, none⟩ = some (.int .i64 Tx) := cell_of_row _ _ 0 _ _ (0, 0) rp1
  have pc1 : W1.cell? ⟨q + 2, 1, none⟩ = some (.int .i64 Ty) := cell_of_row _ _ 1 _ _ (0, 0) rp1
  have pc2 : W1.cell? ⟨q + 2, 2, none⟩ = some (.int .i64 (lv : Int)) := cell_of_row _ _ 2 _ _ (0, 0) rp1
  have pc3 : W1.cell? ⟨q + 2, 3, none⟩ = some (.int .i64 Cw) := cell_of_row _ _ 3 _ _ (0, 0) rp1
  have pc4 : W1.cell? ⟨q + 2, 4, none⟩ = some (.int .i64 Ch) := cell_of_row _ _ 4 _ _ (0, 0) rp1
  have pc5 : W1.cell? ⟨q + 2, 5, none⟩ = some (.int .i64 (pr : Int)) := cell_of_row _ _ 5 _ _ (0, 0) rp1
  have pc6 : W1.cell? ⟨q + 2, 6, none⟩ = some (.int .i64 St) := cell_of_row _ _ 6 _ _ (0, 0) rp1
  have pc7 : W1.cell? ⟨q + 2, 7, none⟩ = some (.int .i64 (od : Int)) := cell_of_row _ _ 7 _ _ (0, 0) rp1
  have pc8 : W1.cell? ⟨q + 2, 8, none⟩ = some (.int .i64 (ly : Int)) := cell_of_row _ _ 8 _ _ (0, 0) rp1
  have pc9 : W1.cell? ⟨q + 2, 9, none⟩ = some (.bool rct) := cell_of_row _ _ 9 _ _ (0, 0) rp1
  have pc10 : W1.cell? ⟨q + 2, 10, none⟩ = some (.bool sop) := cell_of_row _ _ 10 _ _ (0, 0) rp1
  have pc11 : W1.cell? ⟨q + 2, 11, none⟩ = some (.bool eph) := cell_of_row _ _ 11 _ _ (0, 0) rp1
  go_wp2_with fail
  refine (HFR.out W1 ((HA.out.below b_1).more (by omega))).mono ?_
  rintro e' W2 ⟨rfl, h2⟩
  have rt2 := (h2.block q (by omega)).trans rt1
  have rm2 := (h2.block (q + 1) (by omega)).trans rm1
  have rp2 := (h2.block (q + 2) (by omega)).trans rp1
  have b_2 := b_1.trans (h2.mono (by omega))
  have z2 : q + 3 ≤ W2.heap.size := by have := h2.size; omega
  clear h2 rt1 rm1 rp1 b_1 z1 HFR mc0 mc1 mc2 mc3 mc4 pc0 pc1 pc2 pc3 pc4 pc5 pc6 pc7 pc8 pc9 pc10 pc11
  have pc8 : W2.cell? ⟨q + 2, 8, none⟩ = some (.int .i64 (ly : Int)) := cell_of_row _ _ 8 _ _ (0, 0) rp2
  obtain ⟨B, hB⟩ : ∃ z, W2.heap.size = z := ⟨_, rfl⟩
  rw [hB] at z2
  have HR2 := Lib.hid (And.intro rt2 (And.intro rm2 rp2))
  clear rt2 rm2
  go_wp2_with fail
  clear pc8 rp2
  go_loopg [7, 27] ly (fun kx s7 s27 wr => ∃ (j : Nat) (L : List Spot) (A : Option Addr) (c : Nat), s7 = .slice A L.length c ∧ s27 = .int .i64 (j : Int) ∧ j ≤ ly ∧ ly - j ≤ kx ∧ Hid (L = Q.l1 j) ∧ Hid (OwnC wr B 65 12 (.slice A L.length c) L.length (rowS L)) ∧ Hid (Below B W2 wr))
  case atStart => exact ⟨0, [], none, 0, rfl, rfl, by omega, by omega, Lib.hid rfl, Lib.hid (OwnC.nil_ _ _ _ _ _ (fun k => rfl)), Lib.hid (Below.refl _ _)⟩
  case round =>
    obtain ⟨j, L, A, c, rfl, rfl, hj, hk, HL, HO, HB⟩ := hrel
    by_cases hlt : j < ly
    · have hltz : (j : Int) < (ly : Int) := by omega
      have pc2 : wr.cell? ⟨q + 2, 2, none⟩ = some (.int .i64 (lv : Int)) := cell_of_row _ _ 2 _ _ (0, 0) ((HB.out.block (q + 2) (by omega)).trans HR2.out.2.2)
      have V1 := wrap_add1 (a := lv) (c := lv + 1) rfl (by omega)
      obtain ⟨m, hm⟩ : ∃ z, L.length = z := ⟨_, rfl⟩
      go_wp2_with fail
      clear V1 pc2
      go_loopg [7, 33] (lv + 1) (fun ky s7 s33 wr2 => ∃ (r : Nat) (L : List Spot) (A : Option Addr) (c : Nat), s7 = .slice A L.length c ∧ s33 = .int .i64 (r : Int) ∧ r ≤ lv + 1 ∧ lv + 1 - r ≤ ky ∧ Hid (L = Q.l1 j ++ Q.l2 j r) ∧ Hid (OwnC wr2 B 65 12 (.slice A L.length c) L.length (rowS L)) ∧ Hid (Below B W2 wr2))
      case atStart => exact ⟨0, L, A, c, by first | rfl | rw [hm], rfl, by omega, by omega, Lib.hid (by rw [HL.out]; unfold OrdQ.l2; simp), HO, HB⟩
      case round =>
        clear HL HO HB hm
        obtain ⟨r, L, A, c, rfl, rfl, hr, hk2, HL, HO, HB⟩ := hrel
        by_cases hlt2 : r < lv + 1
        · have hltz2 : (r : Int) < (lv : Int) + 1 := by omega
          have mc4 : wr.cell? ⟨q + 1, 4, none⟩ = some (.slice IA n ic) := cell_of_row _ _ 4 _ _ (0, 0) ((HB.out.block (q + 1) (by omega)).trans HR2.out.2.1)
          go_wp2_with fail
          clear mc4
          go_loopg [7, 39] n (fun kz s7 s39 wr3 => ∃ (cm : Nat) (L : List Spot) (A : Option Addr) (c : Nat), s7 = .slice A L.length c ∧ s39 = .int .i64 (cm : Int) ∧ cm ≤ n ∧ n - cm ≤ kz ∧ Hid (L = Q.l1 j ++ Q.l2 j r ++ Q.l3 j r cm) ∧ Hid (OwnC wr3 B 65 12 (.slice A L.length c) L.length (rowS L)) ∧ Hid (Below B W2 wr3))
          case atStart => exact ⟨0, L, A, c, rfl, rfl, by omega, by omega, Lib.hid (by rw [HL.out]; unfold OrdQ.l3; simp), HO, HB⟩
          case round =>
            clear HL HO HB
            obtain ⟨cm, L, A, c, rfl, rfl, hcm, hk3, HL, HO, HB⟩ := hrel
            by_cases hlt3 : cm < n
            · have hltz3 : (cm : Int) < (n : Int) := by omega
              obtain ⟨bc, oc, hIA, hbc, hcells⟩ := ((HA.out.below b_2).below (HB.out.mono (show q ≤ B by omega))) (by omega)
              obtain ⟨k0, k1, k2, k3, k4⟩ := hcells cm hlt3
              rw [(HFD.out cm hlt3).1] at k2
              rw [(HFD.out cm hlt3).2] at k3
              clear hcells hbc
              obtain ⟨DX, hDX⟩ : ∃ z, Q.dx cm = z := ⟨_, rfl⟩
              obtain ⟨DY, hDY⟩ : ∃ z, Q.dy cm = z := ⟨_, rfl⟩
              rw [hDX] at k2
              rw [hDY] at k3
              have HDD := Lib.hid (And.intro hDX hDY)
              clear hDX hDY
              generalize (F cm).dp = DP at k0
              generalize (F cm).sg = SG at k1
              generalize (F cm).A = DA at k4
              generalize (F cm).n = DN at k4
              generalize (F cm).c = DC at k4
              subst hIA
              go_upto_region 13 with fail
              clear k0 k1 k2 k3 k4
              obtain ⟨cb, hcb⟩ : ∃ z, wr.heap.size = z := ⟨_, rfl⟩
              generalize hWc : World.alloc wr _ = Wc
              have rc : Wc.heap[cb]? = some (.cells #[.int .i64 DP, .bool SG, .int .i64 (DX : Int), .int .i64 (DY : Int), .slice DA DN DC] 48 (0, 0)) := by rw [← hWc, ← hcb]; exact heap_alloc_new wr _
              have hbw : Below wr.heap.size wr Wc := by rw [← hWc]; exact below_alloc (Below.refl _ _) _
              have zc : Wc.heap.size = cb + 1 := by rw [← hWc, ← hcb]; simp
              clear hWc
              rw [hcb]
              have zB : B ≤ cb := by have := HB.out.size; omega
              have HBc := Lib.hid (HB.out.trans (hbw.mono (by omega)))
              have HOc := Lib.hid (HO.out.below hbw)
              clear hbw HB HO
              have rt := (HBc.out.block q (by omega)).trans HR2.out.1
              have rp := (HBc.out.block (q + 2) (by omega)).trans HR2.out.2.2
              have hres := HEQ.out
              have HSP := Lib.hid (spots_any x0 y0 x1 y1 DX DY lv r pr (ceN Q.x0 (Q.dx cm) (Q.lv - r)) (ceN Q.y0 (Q.dy cm) (Q.lv - r)) (ceN Q.x1 (Q.dx cm) (Q.lv - r)) (ceN Q.y1 (Q.dy cm) (Q.lv - r)) (Q.w r cm) (Q.h r cm) cm DP SG DA DN DC Tx Ty Cw Ch St od ly rct sop eph htt (by have h7 := HEQ.out; have h8 := HQ.out.d cm (by omega); rw [HDD.out.1, HDD.out.2] at h8; exact h8) (by omega) (by omega) hpr (by omega) (by
                have h := Q.wh HQ.out (r := r) (c := cm) (by have h7 := HEQ.out; omega)
                rw [HDD.out.1, HDD.out.2] at h
                rw [HDD.out.1, HDD.out.2]
                rw [hres.1, hres.2.1, hres.2.2.1, hres.2.2.2.1, hres.2.2.2.2.1, hres.2.2.2.2.2.1] at h
                rw [hres.1, hres.2.1, hres.2.2.1, hres.2.2.2.1, hres.2.2.2.2.1]
                exact h))
              clear hres
              have hN9 := (Q.wh HQ.out (r := r) (c := cm) (by have h7 := HEQ.out; omega)).wb
              obtain ⟨N9, hN9e⟩ : ∃ z, Q.w r cm * Q.h r cm = z := ⟨_, rfl⟩
              have hN9b : N9 ≤ 4225 := by rw [← hN9e]; exact Nat.mul_le_mul hN9.1 hN9.2
              rw [hN9e] at HSP
              have HNE := Lib.hid hN9e
              clear hN9 hN9e
              refine wp_region_lit ?_
              refine wpList_loadRow rfl rfl (by kernel_rfl) rt (by kernel_rfl) (by kernel_rfl) ?_
              refine wpList_loadRow rfl rfl (by kernel_rfl) rc (by kernel_rfl) (by kernel_rfl) ?_
              refine wpList_loadRow rfl rfl (by kernel_rfl) rp (by kernel_rfl) (by kernel_rfl) ?_
              go_wp2_with fail
              refine (HSP.out Wc).mono ?_
              rintro e' W9 ⟨A9, c9, rfl, o9, h9⟩
              have HB9 := Lib.hid (HBc.out.trans (h9.mono (by omega)))
              have HO9 := Lib.hid (HOc.out.below h9)
              have HSS := Lib.hid (And.intro (o9.mono (show B ≤ Wc.heap.size by omega)) (show Sep (.slice A L.length c) (.slice A9 N9 c9) from fun z h1 h2 => by
                have g1 := (HOc.out.lt z h1).2
                have g2 := (o9.lt z h2).1
                omega))
              clear h9 o9 rc rt rp HBc HOc zc HSP
              go_wp2_with fail
              go_loopg [7, 51] N9 (fun ku s7 s51 wr4 => ∃ (k : Nat) (L : List Spot) (A : Option Addr) (c : Nat), s7 = .slice A L.length c ∧ s51 = .int .i64 (k : Int) ∧ k ≤ N9 ∧ N9 - k ≤ ku ∧ Hid (L = Q.l1 j ++ Q.l2 j r ++ Q.l3 j r cm ++ Q.l4 j r cm k) ∧ Hid (OwnC wr4 B 65 12 (.slice A L.length c) L.length (rowS L)) ∧ Hid (Below B W2 wr4) ∧ Hid (OwnC wr4 B 65 12 (.slice A9 N9 c9) N9 (fun k => spotL (spotK x0 y0 (ceN Q.x0 (Q.dx cm) (Q.lv - r)) (ceN Q.y0 (Q.dy cm) (Q.lv - r)) (Q.w r cm) pr (pr + lv - r) DX DY r cm k)) ∧ Sep (.slice A L.length c) (.slice A9 N9 c9)))
              case atStart => exact ⟨0, L, A, c, rfl, rfl, by omega, by omega, Lib.hid (by rw [HL.out]; unfold OrdQ.l4; simp), HO9, HB9, HSS⟩
              case round =>
                clear HL HO9 HB9 HSS
                obtain ⟨k, L, A, c, rfl, rfl, hkN, hk4, HL, HO, HB, HSS⟩ := hrel
                by_cases hlt4 : k < N9
                · have hltz4 : (k : Int) < (N9 : Int) := by omega
                  obtain ⟨g9, hA9, hg9, hg9s⟩ := HSS.out.1.row (by omega)
                  subst hA9
                  obtain ⟨px, hpx⟩ : ∃ z, placeI x0 (ceN Q.x0 (Q.dx cm) (Q.lv - r)) pr (pr + lv - r) DX (k % Q.w r cm) = z := ⟨_, rfl⟩
                  obtain ⟨py, hpy⟩ : ∃ z, placeI y0 (ceN Q.y0 (Q.dy cm) (Q.lv - r)) pr (pr + lv - r) DY (k / Q.w r cm) = z := ⟨_, rfl⟩
                  have hcl := fun (i : Nat) (u : Value) (hu : ([.int .i64 (0 : Int), .int .i64 (r : Int), .int .i64 (cm : Int), .int .i64 (k : Int), .int .i64 px, .int .i64 py, .int .i64 0, .int .i64 0, .int .i64 0, .int .i64 0, .int .i64 0, .int .i64 0] : List Value)[i]? = some u) => HSS.out.1.at_.cells hlt4 (j := i) (u := u) (by
                    show (spotL (spotK x0 y0 (ceN Q.x0 (Q.dx cm) (Q.lv - r)) (ceN Q.y0 (Q.dy cm) (Q.lv - r)) (Q.w r cm) pr (pr + lv - r) DX DY r cm k))[i]? = some u
                    unfold spotK
                    rw [hpx, hpy]
                    exact hu)
                  simp only [Nat.zero_add] at hcl
                  have ec0 : wr.cell? ⟨g9, k * 12, none⟩ = some (.int .i64 (0 : Int)) := hcl 0 _ rfl
                  have ec1 : wr.cell? ⟨g9, k * 12 + 1, none⟩ = some (.int .i64 (r : Int)) := hcl 1 _ rfl
                  have ec2 : wr.cell? ⟨g9, k * 12 + 2, none⟩ = some (.int .i64 (cm : Int)) := hcl 2 _ rfl
                  have ec3 : wr.cell? ⟨g9, k * 12 + 3, none⟩ = some (.int .i64 (k : Int)) := hcl 3 _ rfl
                  have ec4 : wr.cell? ⟨g9, k * 12 + 4, none⟩ = some (.int .i64 px) := hcl 4 _ rfl
                  have ec5 : wr.cell? ⟨g9, k * 12 + 5, none⟩ = some (.int .i64 py) := hcl 5 _ rfl
                  have ec6 : wr.cell? ⟨g9, k * 12 + 6, none⟩ = some (.int .i64 0) := hcl 6 _ rfl
                  have ec7 : wr.cell? ⟨g9, k * 12 + 7, none⟩ = some (.int .i64 0) := hcl 7 _ rfl
                  have ec8 : wr.cell? ⟨g9, k * 12 + 8, none⟩ = some (.int .i64 0) := hcl 8 _ rfl
                  have ec9 : wr.cell? ⟨g9, k * 12 + 9, none⟩ = some (.int .i64 0) := hcl 9 _ rfl
                  have ec10 : wr.cell? ⟨g9, k * 12 + 10, none⟩ = some (.int .i64 0) := hcl 10 _ rfl
                  have ec11 : wr.cell? ⟨g9, k * 12 + 11, none⟩ = some (.int .i64 0) := hcl 11 _ rfl
                  have HPX := Lib.hid (And.intro hpx hpy)
                  clear hcl hpx hpy
                  go_upto_region 16 with fail
                  clear ec0 ec1 ec2 ec3 ec4 ec5 ec6 ec7 ec8 ec9 ec10 ec11
                  obtain ⟨sb, hsb⟩ : ∃ z, wr.heap.size = z := ⟨_, rfl⟩
                  generalize hWd : World.alloc wr _ = Wd
                  have rs : Wd.heap[sb]? = some (.cells #[.int .i64 (0 : Int), .int .i64 (r : Int), .int .i64 (cm : Int), .int .i64 (k : Int), .int .i64 px, .int .i64 py, .int .i64 0, .int .i64 0, .int .i64 0, .int .i64 0, .int .i64 0, .int .i64 0] 65 (0, 0)) := by rw [← hWd, ← hsb]; exact heap_alloc_new wr _
                  have hbd : Below wr.heap.size wr Wd := by rw [← hWd]; exact below_alloc (Below.refl _ _) _
                  clear hWd
                  rw [hsb]
                  have zB4 : B ≤ sb := by have := HB.out.size; omega
                  have sl : sb < Wd.heap.size := (Array.getElem?_eq_some_iff.1 rs).1
                  have HBd := Lib.hid (HB.out.trans (hbd.mono (by omega)))
                  have HOd := Lib.hid (HO.out.below hbd)
                  have HSd := Lib.hid (HSS.out.1.below hbd)
                  have hOl := Lib.hid (fun z (h : (Value.slice A L.length c).ownBlock = some z) => (HO.out.lt z h).2)
                  have hSl := Lib.hid (fun z (h : (Value.slice (some ⟨g9, 0, none⟩) N9 c9).ownBlock = some z) => (HSS.out.1.lt z h).2)
                  have HSep := Lib.hid HSS.out.2
                  clear hbd HB HO HSS
                  have rsc : Wd.cell? ⟨sb, 0, none⟩ = some (.int .i64 (0 : Int)) := cell_of_row _ _ 0 _ _ (0, 0) rs
                  have rsz : Wd.frozen? ⟨sb, 0, none⟩ = false := frozen_of_row _ _ 0 _ _ rs
                  go_upto_region 17 with fail
                  clear rsc rsz
                  have re : (Wd.setCell ⟨sb, 0, none⟩ (.int .i64 (j : Int))).heap[sb]? = some (.cells #[.int .i64 (j : Int), .int .i64 (r : Int), .int .i64 (cm : Int), .int .i64 (k : Int), .int .i64 px, .int .i64 py, .int .i64 0, .int .i64 0, .int .i64 0, .int .i64 0, .int .i64 0, .int .i64 0] 65 (0, 0)) := heap_setCell_same Wd sb 0 _ _ (.int .i64 (j : Int)) rs
                  have hbe : Below sb Wd (Wd.setCell ⟨sb, 0, none⟩ (.int .i64 (j : Int))) := (Below.refl _ _).setCell (p := ⟨sb, 0, none⟩) (Nat.le_refl _) _
                  have HBe := Lib.hid (HBd.out.trans (hbe.mono zB4))
                  have HOe := Lib.hid (HOd.out.other (a := ⟨sb, 0, none⟩) (fun he => by have h7 := hOl.out sb he; omega) (.int .i64 (j : Int)))
                  have HSe := Lib.hid (HSd.out.other (a := ⟨sb, 0, none⟩) (fun he => by have h7 := hSl.out sb he; omega) (.int .i64 (j : Int)))
                  have ze : sb < (Wd.setCell ⟨sb, 0, none⟩ (.int .i64 (j : Int))).heap.size := (Array.getElem?_eq_some_iff.1 re).1
                  clear rs hbe HBd HOd HSd hOl hSl
                  generalize Wd.setCell ⟨sb, 0, none⟩ (.int .i64 (j : Int)) = We at *
                  have sc0 : We.cell? ⟨sb, 0, none⟩ = some (.int .i64 (j : Int)) := cell_of_row _ _ 0 _ _ (0, 0) re
                  have sc1 : We.cell? ⟨sb, 1, none⟩ = some (.int .i64 (r : Int)) := cell_of_row _ _ 1 _ _ (0, 0) re
                  have sc2 : We.cell? ⟨sb, 2, none⟩ = some (.int .i64 (cm : Int)) := cell_of_row _ _ 2 _ _ (0, 0) re
                  have sc3 : We.cell? ⟨sb, 3, none⟩ = some (.int .i64 (k : Int)) := cell_of_row _ _ 3 _ _ (0, 0) re
                  have sc4 : We.cell? ⟨sb, 4, none⟩ = some (.int .i64 px) := cell_of_row _ _ 4 _ _ (0, 0) re
                  have sc5 : We.cell? ⟨sb, 5, none⟩ = some (.int .i64 py) := cell_of_row _ _ 5 _ _ (0, 0) re
                  have sc6 : We.cell? ⟨sb, 6, none⟩ = some (.int .i64 0) := cell_of_row _ _ 6 _ _ (0, 0) re
                  have sc7 : We.cell? ⟨sb, 7, none⟩ = some (.int .i64 0) := cell_of_row _ _ 7 _ _ (0, 0) re
                  have sc8 : We.cell? ⟨sb, 8, none⟩ = some (.int .i64 0) := cell_of_row _ _ 8 _ _ (0, 0) re
                  have sc9 : We.cell? ⟨sb, 9, none⟩ = some (.int .i64 0) := cell_of_row _ _ 9 _ _ (0, 0) re
                  have sc10 : We.cell? ⟨sb, 10, none⟩ = some (.int .i64 0) := cell_of_row _ _ 10 _ _ (0, 0) re
                  have sc11 : We.cell? ⟨sb, 11, none⟩ = some (.int .i64 0) := cell_of_row _ _ 11 _ _ (0, 0) re
                  have pc7 : We.cell? ⟨q + 2, 7, none⟩ = some (.int .i64 (od : Int)) := cell_of_row _ _ 7 _ _ (0, 0) ((HBe.out.block (q + 2) (by omega)).trans HR2.out.2.2)
                  obtain ⟨RS, hRS⟩ : ∃ z, rankS od ⟨j, r, cm, k, px, py, 0, 0, 0, 0, 0, 0⟩ = z := ⟨_, rfl⟩
                  have hrk := fun V : World => ranked_any od hod ⟨j, r, cm, k, px, py, 0, 0, 0, 0, 0, 0⟩ V
                  rw [hRS] at hrk
                  have HPK := Lib.hid (show Q.pk j r cm k = RS by
                    obtain ⟨e1, e2, e3, e4, e5, e6, e7, e8, e9⟩ := HEQ.out
                    obtain ⟨d1, d2⟩ := HDD.out
                    obtain ⟨p1, p2⟩ := HPX.out
                    unfold OrdQ.pk OrdQ.sp spotK
                    rw [← hRS, ← p1, ← p2, ← d1, ← d2, ← e1, ← e2, ← e5, ← e6, ← e7])
                  have hln : L.length ≤ 1000000 := by
                    have h7 := HEQ.out
                    rw [HL.out]
                    simp only [List.length_append]
                    have q1 := Q.l1_len HQ.out j
                    have q2 := Q.l2_len HQ.out j r
                    have q3 := Q.l3_len HQ.out j r cm (by omega)
                    have q4 := Q.l4_len j r cm k
                    omega
                  obtain ⟨a0, a1, a2, a3, a4, a5, a6, a7, a8, a9, a10, a11⟩ := RS
                  have HRK := Lib.hid (show ∀ V : World, Calls Try.prog 28 #[.agg #[.int .i64 (j : Int), .int .i64 (r : Int), .int .i64 (cm : Int), .int .i64 (k : Int), .int .i64 px, .int .i64 py, .int .i64 0, .int .i64 0, .int .i64 0, .int .i64 0, .int .i64 0, .int .i64 0], .int .i64 (od : Int)] V fun e w' => e = .returned (.agg #[.int .i64 a0, .int .i64 a1, .int .i64 a2, .int .i64 a3, .int .i64 a4, .int .i64 a5, .int .i64 a6, .int .i64 a7, .int .i64 a8, .int .i64 a9, .int .i64 a10, .int .i64 a11]) ∧ Below V.heap.size V w' from hrk)
                  clear hrk hRS
                  go_wp2_with fail
                  refine (HRK.out We).mono ?_
                  rintro e' Wf ⟨rfl, hf⟩
                  clear sc0 sc1 sc2 sc3 sc4 sc5 sc6 sc7 sc8 sc9 sc10 sc11 pc7 HRK
                  obtain ⟨x, hx⟩ : ∃ x : Spot, x = ⟨a0, a1, a2, a3, a4, a5, a6, a7, a8, a9, a10, a11⟩ := ⟨_, rfl⟩
                  rw [← hx] at HPK
                  have HBf := Lib.hid (HBe.out.trans (hf.mono (by omega)))
                  have HOf := Lib.hid ((HOe.out.below hf).congr (g := rowS (L ++ [x])) (fun _ => rfl) (fun z hz => (rowS_lt L [x] hz).symm))
                  have HSf := Lib.hid (HSe.out.below hf)
                  have zf : B ≤ Wf.heap.size := by have h7 := hf.size; omega
                  have HCE := Lib.hid (show (∀ (T : TypeId) (z : Nat) (u : Value), (rowS (L ++ [x]) L.length)[z]? = some u → (Wf.alloc (.cells #[.int .i64 a0, .int .i64 a1, .int .i64 a2, .int .i64 a3, .int .i64 a4, .int .i64 a5, .int .i64 a6, .int .i64 a7, .int .i64 a8, .int .i64 a9, .int .i64 a10, .int .i64 a11] T)).cell? ⟨Wf.heap.size, z, none⟩ = some u) ∧ ∀ u ∈ rowS (L ++ [x]) L.length, u.oneCell' = true by
                    rw [rowS_new]
                    refine ⟨fun T z u hu => ?_, one_spot x⟩
                    rw [cell_of_row _ _ _ _ _ (0, 0) (heap_alloc_new Wf _), ← hu, hx]
                    rw [List.getElem?_toArray]
                    rfl)
                  clear hf HBe HOe HSe hx
                  go_wp2_with (at_builtin; refine wpList_appC Wf ((Below.refl _ _).alloc (Nat.le_refl _) _) (KeepsOthers.alloc _ _) rfl _ _ 61 rfl 65 12 spot_elem B A L.length c (rowS (L ++ [x])) rfl HOf.out Wf.heap.size rfl (HCE.out.1 _) HCE.out.2 (by omega) zf ?_; intro g1 cap Wg og sg hg)
                  have hl1 : (L ++ [x]).length = L.length + 1 := by simp
                  have HOg := Lib.hid (show OwnC Wg B 65 12 (.slice (some ⟨g1, 0, none⟩) (L ++ [x]).length cap) (L ++ [x]).length (rowS (L ++ [x])) by rw [hl1]; exact og)
                  have HBg := Lib.hid (HBf.out.trans sg.below)
                  have HSg := Lib.hid (And.intro (sg.keep _ _ _ _ _ HSf.out HSep.out) (show Sep (.slice (some ⟨g1, 0, none⟩) (L ++ [x]).length cap) (.slice (some ⟨g9, 0, none⟩) N9 c9) by rw [hl1]; exact sg.sep _ (fun z hz => (HSf.out.lt z hz).2) HSep.out))
                  clear og sg HOf HBf HSf HCE
                  have WK := wrap_add1 (a := k) (c := k + 1) rfl (by omega)
                  go_wp2_with fail
                  go_roundg (N9 - (k + 1))
                  case measure => omega
                  case rel => exact ⟨k + 1, L ++ [x], some ⟨g1, 0, none⟩, cap, by rw [hl1], by go_num, by omega, Nat.le_refl _, Lib.hid (by rw [HL.out, Q.l4_succ, HPK.out, List.append_assoc]), HOg, HBg, HSg⟩
                · have hltz4 : ¬ (k : Int) < (N9 : Int) := by omega
                  have WK := wrap_add1 (a := cm) (c := cm + 1) rfl (by omega)
                  have he := Lib.hid (show k = N9 by omega)
                  go_wp2_with fail
                  go_roundg (n - (cm + 1))
                  case measure => omega
                  case rel => exact ⟨cm + 1, L, A, c, rfl, by go_num, by omega, Nat.le_refl _, Lib.hid (by rw [HL.out, Q.l3_succ, HNE.out, he.out, List.append_assoc]), HO, HB⟩
            · have hltz3 : ¬ (cm : Int) < (n : Int) := by omega
              have WK := wrap_add1 (a := r) (c := r + 1) rfl (by omega)
              have he := Lib.hid (show cm = n by omega)
              go_wp2_with fail
              go_roundg (lv + 1 - (r + 1))
              case measure => omega
              case rel => exact ⟨r + 1, L, A, c, rfl, by go_num, by omega, Nat.le_refl _, Lib.hid (by have h7 := HEQ.out; rw [HL.out, Q.l2_succ, h7.2.2.2.2.2.2.2.2, he.out, List.append_assoc]), HO, HB⟩
        · have hltz2 : ¬ (r : Int) < (lv : Int) + 1 := by omega
          have WK := wrap_add1 (a := j) (c := j + 1) rfl (by omega)
          have he := Lib.hid (show r = lv + 1 by omega)
          go_wp2_with fail
          go_roundg (ly - (j + 1))
          case measure => omega
          case rel => exact ⟨j + 1, L, A, c, rfl, by go_num, by omega, Nat.le_refl _, Lib.hid (by have h7 := HEQ.out; rw [HL.out, Q.l1_succ, h7.2.2.2.2.1, he.out]), HO, HB⟩
    · have hltz : ¬ (j : Int) < (ly : Int) := by omega
      have he := Lib.hid (show j = ly by omega)
      have hlen : L.length ≤ 1000000 := by
        have q1 := Q.l1_len HQ.out j
        rw [HL.out]
        omega
      go_wp2_with fail
      have zwr : B ≤ wr.heap.size := by have h7 := HB.out.size; omega
      refine (sort_own L (by omega) B A c wr zwr HO.out).mono ?_
      rintro e' Ws ⟨rfl, K, hKl, hKp, hKs, oK, hbs⟩
      rw [← hKl] at oK hlen ⊢
      have HBs := Lib.hid (HB.out.trans hbs)
      have HK := Lib.hid (show K.Perm (Q.l1 ly) ∧ K.Pairwise (fun a b => ltS b a = false) from ⟨by rw [HL.out, he.out] at hKp; exact hKp, hKs⟩)
      have zs : B ≤ Ws.heap.size := Nat.le_trans zwr hbs.size
      clear hKp hKs hKl HO HB HL hbs zwr
      obtain ⟨g, hgs, hgA⟩ : ∃ g, g < Ws.heap.size ∧ (0 < K.length → A = some ⟨g, 0, none⟩) := by
        rcases Nat.eq_zero_or_pos K.length with h0 | h0
        · exact ⟨q, by omega, fun h => by omega⟩
        · obtain ⟨g, e, _, h2⟩ := oK.row h0
          exact ⟨g, h2, fun _ => e⟩
      have HOK := Lib.hid oK
      clear oK
      have hmk := fun V : World => run_makeK K.length (by omega) V
      go_upto_region 24 with fail
      clear hmk
      obtain ⟨M, hM⟩ : ∃ z, Ws.heap.size = z := ⟨_, rfl⟩
      have own0 : OwnC (Ws.alloc (.cells (madeCells #[.int .i64 0, .int .i64 0, .int .i64 0, .int .i64 0] (K.length * 4)) 42)) M 42 4 (.slice (some ⟨M, 0, none⟩) 0 K.length) 0 (keyR K []) := by
        rw [← hM]
        exact OwnC.made_ (Nat.le_refl _) (by unfold maxLen; omega) (by simp [size_madeCells]) (fun k => keyR_len K [] k)
      generalize hWq : World.alloc Ws (.cells (madeCells #[.int .i64 0, .int .i64 0, .int .i64 0, .int .i64 0] (K.length * 4)) 42) = Wq at *
      have zq : Wq.heap.size = M + 1 := by rw [← hWq, ← hM]; simp
      have bq : Below M Ws Wq := by rw [← hWq, ← hM]; exact below_alloc (Below.refl _ _) _
      clear hWq
      rw [hM] at hgs zs ⊢
      have bD : Boxed (World.alloc Wq (.cells #[.slice (some ⟨M, 0, none⟩) 0 K.length] 35)) (M + 1) 35 (.slice (some ⟨M, 0, none⟩) 0 K.length) := by rw [← zq]; exact Boxed.new Wq _ _
      have own1 := own0.alloc (.cells #[.slice (some ⟨M, 0, none⟩) 0 K.length] 35)
      have bm := bq.trans ((Below.refl M Wq).alloc (show M ≤ Wq.heap.size by omega) (.cells #[.slice (some ⟨M, 0, none⟩) 0 K.length] 35))
      have zm : (World.alloc Wq (.cells #[.slice (some ⟨M, 0, none⟩) 0 K.length] 35)).heap.size = M + 2 := by simp [zq]
      generalize World.alloc Wq (.cells #[.slice (some ⟨M, 0, none⟩) 0 K.length] 35) = Wm at *
      clear own0 bq zq
      go_wp2_with fail
      refine (values_any A K.length c Wm).mono ?_
      rintro e' Wv0 ⟨rfl, hwv⟩
      rw [zm]
      have hp : Wv0.cell? ⟨M + 2, 0, none⟩ = some (.slice A K.length c) := by
        rw [hwv, ← zm]
        exact cell_of_row _ _ 0 _ _ (0, 0) (heap_alloc_new Wm _)
      have hpb : Boxed Wv0 (M + 1 + 1) 61 (.slice A K.length c) := by rw [hwv, ← zm]; exact Boxed.new Wm _ _
      have bD2 : Boxed Wv0 (M + 1) 35 (.slice (some ⟨M, 0, none⟩) 0 K.length) := by rw [hwv]; exact bD.alloc _
      have own2 : OwnC Wv0 M 42 4 (.slice (some ⟨M, 0, none⟩) 0 K.length) 0 (keyR K []) := by rw [hwv]; exact own1.alloc _
      have bv : Below M Ws Wv0 := by rw [hwv]; exact bm.trans ((Below.refl M Wm).alloc (by omega) _)
      have zv : Wv0.heap.size = M + 3 := by rw [hwv]; simp [zm]
      clear hwv bD own1 bm zm
      have hrow : RowV K (M + 2) g A c Wv0 := ⟨hp, hgA, fun k hk j2 u hu => by
        have e := hgA (by omega)
        have h7 := HOK.out
        rw [e] at h7
        have h8 := h7.at_.cells hk (j := j2) (u := u) hu
        rw [Nat.zero_add] at h8
        exact (bv.cell (p := ⟨g, k * 12 + j2, none⟩) hgs).trans h8⟩
      have hbq : Below q w Wv0 := b_2.trans ((HBs.out.mono (by omega)).trans (bv.mono (by omega)))
      clear hp bv HOK HBs b_2
      go_wp2_with fail
      refine wpIn_wide.1 (?_ : Code.wpIn Fence.wide 4 _ _ _ _ _)
      have hseq : SeqStopsK Fence.wide 3 Try.prog 48 #[.pointer (some ⟨M + 2, 0, none⟩)] (encS K) (Keeps2 (M + 2) g) (fun xs => xs.map Subtype.val = List.range K.length) (fun _ => True) (K.length + 1) Wv0 := fun l J Jx V hV hJ hJx hY h0 =>
        values_in 3 (by omega) l (M + 2) g c A K (by omega) J Jx V hJ hY V (Nat.lt_of_lt_of_le (by omega) hV.size) (Nat.lt_of_lt_of_le (by omega) hV.size) (hrow.keeps ⟨hV.block _ (by omega), hV.block _ (by omega)⟩) h0
      refine' wpIn_rangeFunc_ownH rfl (by omega) rfl trivial (enters_of Try.func48 (by kernel_rfl) rfl) hseq Keeps2.trans (fun V l o o' hl ho hc _ => keeps2_put (by omega) (by omega)) (Below.refl _ _) (fun _ => rfl)
        (fun pre V => KeyI K q M (M + 1) w (.slice A K.length c) (pre.map Subtype.val) V) (fun _ _ _ => False) (keyI_own (by omega) (by omega)) (fun _ _ _ _ _ hs _ _ => hs) ⟨some ⟨M, 0, none⟩, K.length, bD2, own2, hbq, by omega, hpb⟩
        (fun x a' V => ∃ (Bx : Nat) (d0 d1 d2 d3 d4 d5 d6 d7 d8 d9 d10 d11 d12 d13 d16 d17 d18 d19 d20 d21 d22 d23 d24 d25 d26 d27 d28 d29 d30 d31 d32 d33 d34 d35 d36 d37 d38 d39 d40 d41 d42 d43 d44 d45 d46 d47 d48 d49 d50 d51 d52 d53 d54 d55 d56 d57 d58 d59 d60 d61 d62 d63 d64 d65 d66 d67 d68 d69 d70 d71 d72 d73 d74 d75 d76 d77 d78 d79 d80 d81 d82 : Value), M + 3 ≤ Bx ∧ V.heap[Bx]? = some (.cells (rowS K x.1).toArray 65 (0, 0)) ∧ a' = ⟨List.toArray (d0 :: d1 :: d2 :: d3 :: d4 :: d5 :: d6 :: d7 :: d8 :: d9 :: d10 :: d11 :: d12 :: d13 :: Value.pointer (some ⟨M + 1, 0, none⟩) :: Value.pointer (some ⟨Bx, 0, none⟩) :: d16 :: d17 :: d18 :: d19 :: d20 :: d21 :: d22 :: d23 :: d24 :: d25 :: d26 :: d27 :: d28 :: d29 :: d30 :: d31 :: d32 :: d33 :: d34 :: d35 :: d36 :: d37 :: d38 :: d39 :: d40 :: d41 :: d42 :: d43 :: d44 :: d45 :: d46 :: d47 :: d48 :: d49 :: d50 :: d51 :: d52 :: d53 :: d54 :: d55 :: d56 :: d57 :: d58 :: d59 :: d60 :: d61 :: d62 :: d63 :: d64 :: d65 :: d66 :: d67 :: d68 :: d69 :: d70 :: d71 :: d72 :: d73 :: d74 :: d75 :: d76 :: d77 :: d78 :: d79 :: d80 :: d81 :: d82 :: []), []⟩) ?ax ?assign ?body ?done ?stop
      case ax =>
        rintro x a' s W W' row ⟨Bx, d0, d1, d2, d3, d4, d5, d6, d7, d8, d9, d10, d11, d12, d13, d16, d17, d18, d19, d20, d21, d22, d23, d24, d25, d26, d27, d28, d29, d30, d31, d32, d33, d34, d35, d36, d37, d38, d39, d40, d41, d42, d43, d44, d45, d46, d47, d48, d49, d50, d51, d52, d53, d54, d55, d56, d57, d58, d59, d60, d61, d62, d63, d64, d65, d66, d67, d68, d69, d70, d71, d72, d73, d74, d75, d76, d77, d78, d79, d80, d81, d82, h1, h2, h3⟩ hg hr
        refine ⟨Bx, d0, d1, d2, d3, d4, d5, d6, d7, d8, d9, d10, d11, d12, d13, d16, d17, d18, d19, d20, d21, d22, d23, d24, d25, d26, d27, d28, d29, d30, d31, d32, d33, d34, d35, d36, d37, d38, d39, d40, d41, d42, d43, d44, d45, d46, d47, d48, d49, d50, d51, d52, d53, d54, d55, d56, d57, d58, d59, d60, d61, d62, d63, d64, d65, d66, d67, d68, d69, d70, d71, d72, d73, d74, d75, d76, d77, d78, d79, d80, d81, d82, h1, (hg.block _ (Array.getElem?_eq_some_iff.1 h2).1 (fun e => ?_)).trans h2, h3⟩
        obtain ⟨_, o, ho, hc⟩ := hr Bx e.symm
        rw [h2] at ho
        cases ho
        cases hc
      case assign =>
        rintro l pre x V Kc hI hK
        obtain ⟨XX, hX⟩ : ∃ z, K[x.1]?.getD default = z := ⟨_, rfl⟩
        obtain ⟨a0, a1, a2, a3, a4, a5, a6, a7, a8, a9, a10, a11⟩ := XX
        have hro : rowS K x.1 = [.int .i64 a0, .int .i64 a1, .int .i64 a2, .int .i64 a3, .int .i64 a4, .int .i64 a5, .int .i64 a6, .int .i64 a7, .int .i64 a8, .int .i64 a9, .int .i64 a10, .int .i64 a11] := by unfold rowS; rw [hX]; rfl
        have zI : M + 3 ≤ V.heap.size := by obtain ⟨_, _, _, _, _, h6, _⟩ := hI; omega
        have hI2 := (keyI_own (K := K) (q := q) (M := M) (D := M + 1) (w := w) (P := .slice A K.length c) (g := fun (z : List (Ix K.length)) => z.map Subtype.val) (B := M + 3) (by omega) (by omega)).alloc (.cells #[.int .i64 a0, .int .i64 a1, .int .i64 a2, .int .i64 a3, .int .i64 a4, .int .i64 a5, .int .i64 a6, .int .i64 a7, .int .i64 a8, .int .i64 a9, .int .i64 a10, .int .i64 a11] 65) hI
        unfold encS
        rw [hro]
        rw [hro] at hK
        gi_wp2
        exact hK _ _ ((KeepsOthers.alloc _ _).from _) ⟨Below.heap_alloc _ _ _ (by omega), Below.heap_alloc _ _ _ (by omega)⟩ hI2 ⟨V.heap.size, _, _, _, _, _, _, _, _, _, _, _, _, _, _, _, _, _, _, _, _, _, _, _, _, _, _, _, _, _, _, _, _, _, _, _, _, _, _, _, _, _, _, _, _, _, _, _, _, _, _, _, _, _, _, _, _, _, _, _, _, _, _, _, _, _, _, _, _, _, _, _, _, _, _, _, _, _, _, _, _, _, zI, heap_alloc_new V _, rfl⟩
      case body =>
        rintro l pre x a' V hl _ ⟨X, cx, bD3, oX, hbq3, hsz, hpb3⟩ ⟨Bx, d0, d1, d2, d3, d4, d5, d6, d7, d8, d9, d10, d11, d12, d13, d16, d17, d18, d19, d20, d21, d22, d23, d24, d25, d26, d27, d28, d29, d30, d31, d32, d33, d34, d35, d36, d37, d38, d39, d40, d41, d42, d43, d44, d45, d46, d47, d48, d49, d50, d51, d52, d53, d54, d55, d56, d57, d58, d59, d60, d61, d62, d63, d64, d65, d66, d67, d68, d69, d70, d71, d72, d73, d74, d75, d76, d77, d78, d79, d80, d81, d82, hBx, rx, rfl⟩ hlen2
        obtain ⟨XX, hX⟩ : ∃ z, K[x.1]?.getD default = z := ⟨_, rfl⟩
        obtain ⟨a0, a1, a2, a3, a4, a5, a6, a7, a8, a9, a10, a11⟩ := XX
        have hro : rowS K x.1 = [.int .i64 a0, .int .i64 a1, .int .i64 a2, .int .i64 a3, .int .i64 a4, .int .i64 a5, .int .i64 a6, .int .i64 a7, .int .i64 a8, .int .i64 a9, .int .i64 a10, .int .i64 a11] := by unfold rowS; rw [hX]; rfl
        rw [hro] at rx
        have e0 : V.cell? ⟨Bx, 0, none⟩ = some (.int .i64 a0) := cell_of_row _ _ 0 _ _ (0, 0) rx
        have e1 : V.cell? ⟨Bx, 1, none⟩ = some (.int .i64 a1) := cell_of_row _ _ 1 _ _ (0, 0) rx
        have e2 : V.cell? ⟨Bx, 2, none⟩ = some (.int .i64 a2) := cell_of_row _ _ 2 _ _ (0, 0) rx
        have e3 : V.cell? ⟨Bx, 3, none⟩ = some (.int .i64 a3) := cell_of_row _ _ 3 _ _ (0, 0) rx
        have hL2 : (pre.map Subtype.val).length ≤ 1000001 := by rw [List.length_map]; omega
        have hmap : (pre ++ [x]).map Subtype.val = pre.map Subtype.val ++ [x.1] := by simp
        unfold ownPostG
        simp only [hmap]
        generalize pre.map Subtype.val = L2 at *
        have HOX := Lib.hid (oX.congr (g := keyR K (L2 ++ [x.1])) (fun k => keyR_len K _ k) (fun k hk => (keyR_lt K L2 x.1 hk).symm))
        have HCE := Lib.hid (show (∀ (T : TypeId) (z : Nat) (u : Value), (keyR K (L2 ++ [x.1]) L2.length)[z]? = some u → (V.alloc (.cells #[.int .i64 a0, .int .i64 a1, .int .i64 a2, .int .i64 a3] T)).cell? ⟨V.heap.size, z, none⟩ = some u) ∧ ∀ u ∈ keyR K (L2 ++ [x.1]) L2.length, u.oneCell' = true by
          rw [keyR_new, hro]
          refine ⟨fun T z u hu => ?_, fun u hu => ?_⟩
          · rw [cell_of_row _ _ _ _ _ (0, 0) (heap_alloc_new V _), ← hu]
            rw [List.getElem?_toArray]
            rfl
          · simp only [List.take_succ_cons, List.take_zero, List.mem_cons, List.not_mem_nil, or_false] at hu
            rcases hu with rfl | rfl | rfl | rfl <;> rfl)
        have xD := bD3.cell
        have ne1 := Lib.hid (oX.ne_block bD3 (by decide))
        have ne2 := Lib.hid (oX.ne_block hpb3 (by decide))
        have zM : M ≤ V.heap.size := by omega
        clear oX hro rx hmap hX hlen2
        gi_wp2_with (gi_at_builtin; refine wpListIn_appC V ((Below.refl _ _).alloc (Nat.le_refl _) _) (KeepsOthers.alloc _ _) rfl _ _ 35 rfl 42 4 key_elem M X L2.length cx (keyR K (L2 ++ [x.1])) rfl HOX.out V.heap.size rfl (HCE.out.1 _) HCE.out.2 (by omega) zM ?_; intro g1 cap V2 og sg hg2; have bD4 : Boxed V2 (M + 1) 35 (.slice X L2.length cx) := (sg.blocks (M + 1) (by omega) ne1.out).trans bD3; have yD := bD4.cell; have fD := bD4.frozen)
        have hp4 : V2.heap[M + 1 + 1]? = V.heap[M + 1 + 1]? := sg.blocks (M + 1 + 1) (by omega) ne2.out
        have hl3 : (L2 ++ [x.1]).length = L2.length + 1 := by simp
        refine ⟨(sg.others.trans (KeepsOthers.setCell _ _ _)).from _, ⟨(Below.heap_setCell _ _ _ _ (by simp only; omega)).trans hp4, (Below.heap_setCell _ _ _ _ (by simp only; omega)).trans (sg.below.block g hgs)⟩, ?_⟩
        unfold KeyI
        rw [hl3]
        have nog : (Value.slice (some ⟨g1, 0, none⟩) (L2.length + 1) cap).ownBlock ≠ some (M + 1) := og.ne_block bD4 (by decide)
        have zV2 := sg.below.size
        exact ⟨some ⟨g1, 0, none⟩, cap, bD4.set _, og.other (a := ⟨M + 1, 0, none⟩) nog _, (hbq3.trans (sg.below.mono (by omega))).setCell (p := ⟨M + 1, 0, none⟩) (by simp only; omega) _, by simp; omega, (Below.heap_setCell _ _ _ _ (by simp only; omega)).trans (hp4.trans hpb3)⟩
      case done =>
        rintro D2 xs V hD hxs ⟨X, cx, bD3, oX, hbq3, hsz, _⟩ hK
        rw [hxs] at bD3 oX
        simp only [List.length_range] at bD3 oX
        have xD := bD3.cell
        have HOX := Lib.hid oX
        clear oX bD3
        go_wp2_with fail
        refine ⟨by simp, .inl ⟨_, _, rfl, run_takeDeferred hK, ?_⟩⟩
        have gp := grownBy_putObj' V D2 (.deferred none)
        have gn : ∀ r, some D2 = some r → ∃ o : Obj, V.heap[r]? = some o ∧ o.isCells = false := fun r e => by cases e; exact ⟨_, hK, rfl⟩
        have o2 := HOX.out.keptNC gp gn
        have hbl7 := hbq3.grown gp (by omega) (fun k hk => by cases hk; omega)
        refine ⟨.slice X K.length cx, ?_, K, X, cx, rfl, HK.out.1, HK.out.2, (o2.mono (show w.heap.size ≤ M by omega)).congr (fun _ => rfl) (fun k hk => keyR_all K hk), by rw [hq]; exact hbl7⟩
        simp [results, Try.f13, go_sem]
      case stop =>
        rintro D cc pre W _ _ h _
        exact h.elim
end Go.Proofs.Ytpgkdpoehkdhcaa
