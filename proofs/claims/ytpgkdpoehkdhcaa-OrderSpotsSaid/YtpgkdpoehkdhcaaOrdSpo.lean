/- THE WALK of waveletlaw16.OrderSpots. -/
import Derived.Test.YtpgkdpoehkdhcaaOrdM
import Derived.Test.YtpgkdpoehkdhcaaRTiles
import Derived.Deep.LoopGhost
import Derived.Deep.CutBlock
namespace Go.Proofs.Ytpgkdpoehkdhcaa
open Go.RowKit
attribute [local go_sem] opv opnd
set_option maxHeartbeats 40000000
set_option linter.unusedVariables false
set_option linter.unusedSimpArgs false
set_option maxRecDepth 1000000
theorem MadeP.with4 {side : Nat} {fC fS : Int} {Xn Yn On Pn tx ty lv cw ch pr st od ly n dn : Nat} {rct PL : Bool} (h : MadeP side fC fS Xn Yn On Pn tx ty lv cw ch pr st od ly n dn rct PL) {lv' pr' od' ly' : Nat} (hl : lv' ≤ 5) (hp : 1 ≤ pr' ∧ pr' ≤ 15) (ho : od' ≤ 4) (hy : 1 ≤ ly' ∧ ly' ≤ 4) :
    MadeP side fC fS Xn Yn On Pn tx ty lv' cw ch pr' st od' ly' n dn rct PL := ⟨h.on, h.xs, h.ts, h.tiles, by have := h.bds; omega, h.num, h.rc, h.pl, h.dn⟩
theorem ceN_id (x : Nat) : ceN x 1 0 = x := by
  unfold ceN ceI byN
  simp
theorem place_lt {t pr k k' : Nat} (h : k < k') : placeI t t pr pr 1 k < placeI t t pr pr 1 k' := by
  unfold placeI mxI
  have he : 0 < 2 ^ pr := Nat.pow_pos (by omega)
  generalize 2 ^ pr = e at *
  have h1 := Nat.div_add_mod t e
  have h2 := Nat.mod_lt t he
  have h3 : k * e + e ≤ k' * e := by
    have := Nat.mul_le_mul_right e (show k + 1 ≤ k' from h)
    rw [Nat.add_mul, Nat.one_mul] at this
    exact this
  rw [Nat.mul_one, Nat.mul_one, Nat.add_mul, Nat.add_mul]
  rw [Nat.mul_comm] at h1
  generalize t / e * e = A at *
  generalize k * e = B at *
  generalize k' * e = C at *
  split <;> split <;> omega
structure SpotQ (q : OrdQ) : Prop where
  lv : q.lv = 0
  n : q.n = 1
  dx : q.dx 0 = 1
  dy : q.dy 0 = 1
section
variable {q : OrdQ}
theorem SpotQ.row (h : SpotQ q) : q.l1 1 = (List.range (q.w 0 0 * q.h 0 0)).map (q.pk 0 0 0) := by
  unfold OrdQ.l1 OrdQ.l2 OrdQ.l3 OrdQ.l4
  rw [h.lv, h.n]
  simp
theorem SpotQ.lt (h : SpotQ q) {a b : Nat} (hab : a < b) : ltS (q.pk 0 0 0 b) (q.pk 0 0 0 a) = false := by
  have key : (q.sp 0 0 0 a).y < (q.sp 0 0 0 b).y ∨ (q.sp 0 0 0 a).y = (q.sp 0 0 0 b).y ∧ (q.sp 0 0 0 a).x < (q.sp 0 0 0 b).x := by
    unfold OrdQ.sp spotK
    simp only
    rw [h.dx, h.dy, h.lv, ceN_id, ceN_id, Nat.add_zero, Nat.sub_zero]
    generalize q.w 0 0 = W
    rcases Nat.lt_or_ge (a / W) (b / W) with h1 | h1
    · exact Or.inl (place_lt h1)
    · have h2 : a / W ≤ b / W := Nat.div_le_div_right (Nat.le_of_lt hab)
      have h3 : a / W = b / W := Nat.le_antisymm h2 h1
      refine Or.inr ⟨by rw [h3], place_lt ?_⟩
      have ea := Nat.div_add_mod a W
      have eb := Nat.div_add_mod b W
      rw [h3] at ea
      omega
  have ky : (q.sp 0 0 0 a).ly = 0 ∧ (q.sp 0 0 0 b).ly = 0 ∧ (q.sp 0 0 0 a).rs = 0 ∧ (q.sp 0 0 0 b).rs = 0 ∧ (q.sp 0 0 0 a).cm = 0 ∧ (q.sp 0 0 0 b).cm = 0 ∧ (q.sp 0 0 0 a).pc = a ∧ (q.sp 0 0 0 b).pc = b := ⟨rfl, rfl, rfl, rfl, rfl, rfl, rfl, rfl⟩
  refine decide_eq_false (fun hc => ?_)
  unfold cfS OrdQ.pk at hc
  generalize q.sp 0 0 0 a = sa at *
  generalize q.sp 0 0 0 b = sb at *
  unfold rankS rk at hc
  split at hc <;> simp only [lexL_neg] at hc <;> omega
theorem SpotQ.sorted (h : SpotQ q) : (q.l1 1).Pairwise (fun a b => ltS b a = false) := by
  rw [h.row]
  exact List.pairwise_map.2 (List.Pairwise.imp (fun {a b} hab => h.lt hab) List.pairwise_lt_range)
theorem SpotQ.list (h : SpotQ q) {K : List Spot} (hp : K.Perm (q.l1 1)) (hs : K.Pairwise (fun a b => ltS b a = false)) : K.length = q.w 0 0 * q.h 0 0 ∧ ∀ k, k < q.w 0 0 * q.h 0 0 → (K[k]?.getD default).pc = k := by
  have e : K = q.l1 1 := OrdQ.one hp hs (List.Perm.refl _) h.sorted
  rw [e, h.row]
  refine ⟨by simp, fun k hk => ?_⟩
  rw [List.getElem?_map, List.getElem?_range hk]
  exact (q.pk_key 0 0 0 k).2.2.2
end
theorem ordSpo_walk (fX fY fOx fOy fC fD fS : Int) (fsg frct fsop feph : Bool) (fTx fTy fL fcw fch fP fSt fO fLy : Int) (NA : Option Addr) (nN cN : Nat) (Nf : Nat → Int) (prec : Int) (w : World) (hN : IntsAt w w.heap.size NA nN Nf) (hNf : ∀ k, k < nN → -9223372036854775808 ≤ Nf k ∧ Nf k ≤ 9223372036854775807) (hNn : nN ≤ 9223372036854775807) (hSb : -9223372036854775808 ≤ fS ∧ fS ≤ 9223372036854775807) (hpc : -9223372036854775808 ≤ prec ∧ prec ≤ 9223372036854775807) :
    Calls Try.prog 8 #[.agg #[.int .i64 fX, .int .i64 fY, .int .i64 fOx, .int .i64 fOy, .int .i64 fC, .int .i64 fD, .int .i64 fS, .bool fsg, .bool frct, .bool fsop, .bool feph, .int .i64 fTx, .int .i64 fTy, .int .i64 fL, .int .i64 fcw, .int .i64 fch, .int .i64 fP, .int .i64 fSt, .int .i64 fO, .int .i64 fLy, .slice NA nN cN], .int .i64 prec] w fun e w' => e = .returned (.bool true) ∧ Below w.heap.size w w' := by
  have HMk := Lib.hid (fun (v : World) (h : IntsAt v v.heap.size NA nN Nf) => make_any fX fY fOx fOy 0 fD 0 fsg frct fsop feph fTx fTy fL fcw fch fP fSt fO fLy NA nN cN Nf 20 (by omega) (by omega) v h hNf hNn (by omega))
  rw [show ((20 : Nat) : Int) = 20 from rfl] at HMk
  have HN := Lib.hid hN
  clear hN hNf hNn hSb
  go_enter Try.func8, Try.ntmps8
  go_wp2_with fail
  obtain ⟨q, hq⟩ : ∃ q, w.heap.size = q := ⟨_, rfl⟩
  generalize hw0 : World.alloc w _ = W0
  have f0 : W0.heap[q]? = some (.cells #[.int .i64 fX, .int .i64 fY, .int .i64 fOx, .int .i64 fOy, .int .i64 fC, .int .i64 fD, .int .i64 fS, .bool fsg, .bool frct, .bool fsop, .bool feph, .int .i64 fTx, .int .i64 fTy, .int .i64 fL, .int .i64 fcw, .int .i64 fch, .int .i64 fP, .int .i64 fSt, .int .i64 fO, .int .i64 fLy, .slice NA nN cN] 24 (0, 0)) := by rw [← hw0, ← hq]; exact heap_alloc_new w _
  have z0 : W0.heap.size = q + 1 := by rw [← hw0, ← hq]; simp
  have b0 : Below q w W0 := by rw [← hw0, ← hq]; exact below_alloc (Below.refl _ _) _
  clear hw0
  refine (known16_any _).mono ?_
  rintro e' W1 ⟨rfl, h1⟩
  have f1 := (h1.block q (by omega)).trans f0
  have b1 := b0.trans (h1.mono (by omega))
  have z1 : q + 1 ≤ W1.heap.size := by have := h1.size; omega
  clear h1 f0 b0 z0
  have c4 : W1.cell? ⟨q, 4, none⟩ = some (.int .i64 fC) := cell_of_row _ _ 4 _ _ (0, 0) f1
  have c6 : W1.cell? ⟨q, 6, none⟩ = some (.int .i64 fS) := cell_of_row _ _ 6 _ _ (0, 0) f1
  have d4 : W1.frozen? ⟨q, 4, none⟩ = false := frozen_of_row _ _ 4 _ _ f1
  have d6 : W1.frozen? ⟨q, 6, none⟩ = false := frozen_of_row _ _ 6 _ _ f1
  go_upto_region 4 with fail
  clear c4 c6 d4 d6
  have f1' : ((W1.setCell ⟨q, 4, none⟩ (.int .i64 0)).setCell ⟨q, 6, none⟩ (.int .i64 0)).heap[q]? = some (.cells #[.int .i64 fX, .int .i64 fY, .int .i64 fOx, .int .i64 fOy, .int .i64 0, .int .i64 fD, .int .i64 0, .bool fsg, .bool frct, .bool fsop, .bool feph, .int .i64 fTx, .int .i64 fTy, .int .i64 fL, .int .i64 fcw, .int .i64 fch, .int .i64 fP, .int .i64 fSt, .int .i64 fO, .int .i64 fLy, .slice NA nN cN] 24 (0, 0)) := heap_setCell_same _ _ 6 _ _ _ (heap_setCell_same _ _ 4 _ _ _ f1)
  have hs1 : Below q W1 ((W1.setCell ⟨q, 4, none⟩ (.int .i64 0)).setCell ⟨q, 6, none⟩ (.int .i64 0)) := ((Below.refl _ _).setCell (p := ⟨q, 4, none⟩) (by simp only; omega) _).setCell (p := ⟨q, 6, none⟩) (by simp only; omega) _
  have b1' := b1.trans (hs1.mono (by omega))
  have z1' : q + 1 ≤ ((W1.setCell ⟨q, 4, none⟩ (.int .i64 0)).setCell ⟨q, 6, none⟩ (.int .i64 0)).heap.size := by have := hs1.size; omega
  generalize (W1.setCell ⟨q, 4, none⟩ (.int .i64 0)).setCell ⟨q, 6, none⟩ (.int .i64 0) = W1' at *
  clear f1 b1 z1 hs1
  refine wp_region_lit ?_
  refine wpList_loadRow rfl rfl rfl f1' (by kernel_rfl) (by kernel_rfl) ?_
  go_wp2_with fail
  refine (HMk.out W1' ((HN.out.below (by rw [hq]; exact b1')).more (by have := b1'.size; omega))).mono ?_
  rintro e' W2 ⟨Xn, Yn, On, Pn, tx, ty, lv, cw, ch, pr, st, od, ly, n, dn, rct, PL, A, c, F, G, rfl, hP, hI, h2⟩
  have b2 := b1'.trans (h2.mono (by omega))
  have z2 : q + 1 ≤ W2.heap.size := by have := h2.size; omega
  have hI := hI.mono z1'
  clear h2 b1' f1'
  have HP := Lib.hid hP
  have HI := Lib.hid hI
  clear hP hI HMk HN
  unfold imgV parV
  go_upto_region 5 with fail
  obtain ⟨gm, hgm⟩ : ∃ g, W2.heap.size = g := ⟨_, rfl⟩
  generalize hV3 : World.alloc (World.alloc W2 _) _ = V3
  have img : V3.heap[gm]? = some (.cells #[.int .i64 Xn, .int .i64 Yn, .int .i64 On, .int .i64 Pn, .slice A n c] 28 (0, 0)) := by rw [← hV3, ← hgm]; exact (Below.heap_alloc _ _ _ (by simp)).trans (heap_alloc_new W2 _)
  have par : V3.heap[gm + 1]? = some (.cells #[.int .i64 tx, .int .i64 ty, .int .i64 lv, .int .i64 cw, .int .i64 ch, .int .i64 pr, .int .i64 st, .int .i64 od, .int .i64 ly, .bool rct, .bool fsop, .bool feph] 30 (0, 0)) := by rw [← hV3, ← hgm]; exact heap_alloc_new2 W2 _ _
  have h3 : Below gm W2 V3 := by rw [← hV3, ← hgm]; exact below_alloc (below_alloc (Below.refl _ _) _) _
  have z3 : V3.heap.size = gm + 2 := by rw [← hV3, ← hgm]; simp
  rw [hgm] at z2 ⊢
  clear hV3
  have HI3 := Lib.hid (HI.out.below (by rw [hgm]; exact h3))
  have b3 := b2.trans (h3.mono (by omega))
  clear HI b2 h3
  have hnum : 1 ≤ n ∧ n ≤ 4 := ⟨HP.out.num.1, HP.out.num.2.1⟩
  obtain ⟨g, rfl, hgq, hgl⟩ := HI3.out.comps.row (by omega)
  obtain ⟨vp, hvp, _, HK0⟩ := within16v prec 4 4 rfl (by omega) (by omega)
  have HK := Lib.hid HK0
  clear HK0
  obtain ⟨pz, hpz⟩ : ∃ z, 1 + vp = z := ⟨_, rfl⟩
  have WP : IntKind.i64.wrap (1 + (vp : Int)) = (pz : Int) := by rw [IntKind.wrap_i64]; omega
  obtain ⟨lz, hlz⟩ : ∃ z : Nat, z = 0 := ⟨_, rfl⟩
  obtain ⟨lo, hlo⟩ : ∃ z : Nat, z = 1 := ⟨_, rfl⟩
  have hlz' : (lz : Int) = 0 := by omega
  have hlo' : (lo : Int) = 1 := by omega
  have p2 : V3.cell? ⟨gm + 1, 2, none⟩ = some (.int .i64 (lv : Int)) := cell_of_row _ _ 2 _ _ (0, 0) par
  have p5 : V3.cell? ⟨gm + 1, 5, none⟩ = some (.int .i64 (pr : Int)) := cell_of_row _ _ 5 _ _ (0, 0) par
  have p8 : V3.cell? ⟨gm + 1, 8, none⟩ = some (.int .i64 (ly : Int)) := cell_of_row _ _ 8 _ _ (0, 0) par
  have q2 : V3.frozen? ⟨gm + 1, 2, none⟩ = false := frozen_of_row _ _ 2 _ _ par
  have q5 : V3.frozen? ⟨gm + 1, 5, none⟩ = false := frozen_of_row _ _ 5 _ _ par
  have q8 : V3.frozen? ⟨gm + 1, 8, none⟩ = false := frozen_of_row _ _ 8 _ _ par
  have HL0 := Lib.hid (And.intro hlz' hlo')
  have HZ := Lib.hid (And.intro hlz hlo)
  clear hlz' hlo' hlz hlo
  go_wp2_with fail
  refine (HK.out _).mono ?_
  rintro e' wa ⟨rfl, hwa⟩
  subst hwa
  go_upto_region 6 with fail
  clear p2 p5 p8 q2 q5 q8 HK WP
  have par4 : (((V3.setCell ⟨gm + 1, 2, none⟩ (.int .i64 0)).setCell ⟨gm + 1, 5, none⟩ (.int .i64 (pz : Int))).setCell ⟨gm + 1, 8, none⟩ (.int .i64 1)).heap[gm + 1]? = some (.cells #[.int .i64 (tx : Int), .int .i64 (ty : Int), .int .i64 (lz : Int), .int .i64 (cw : Int), .int .i64 (ch : Int), .int .i64 (pz : Int), .int .i64 (st : Int), .int .i64 (od : Int), .int .i64 (lo : Int), .bool rct, .bool fsop, .bool feph] 30 (0, 0)) := by rw [HL0.out.1, HL0.out.2]; exact heap_setCell_same _ _ 8 _ _ _ (heap_setCell_same _ _ 5 _ _ _ (heap_setCell_same _ _ 2 _ _ _ par))
  have hb4 : Below gm V3 (((V3.setCell ⟨gm + 1, 2, none⟩ (.int .i64 0)).setCell ⟨gm + 1, 5, none⟩ (.int .i64 (pz : Int))).setCell ⟨gm + 1, 8, none⟩ (.int .i64 1)) := (((Below.refl _ _).setCell (p := ⟨gm + 1, 2, none⟩) (by simp only; omega) _).setCell (p := ⟨gm + 1, 5, none⟩) (by simp only; omega) _).setCell (p := ⟨gm + 1, 8, none⟩) (by simp only; omega) _
  have img4 : (((V3.setCell ⟨gm + 1, 2, none⟩ (.int .i64 0)).setCell ⟨gm + 1, 5, none⟩ (.int .i64 (pz : Int))).setCell ⟨gm + 1, 8, none⟩ (.int .i64 1)).heap[gm]? = some (.cells #[.int .i64 (Xn : Int), .int .i64 (Yn : Int), .int .i64 (On : Int), .int .i64 (Pn : Int), .slice (some ⟨g, 0, none⟩) n c] 28 (0, 0)) := (Below.heap_setCell _ _ _ _ (by simp only; omega)).trans ((Below.heap_setCell _ _ _ _ (by simp only; omega)).trans ((Below.heap_setCell _ _ _ _ (by simp only; omega)).trans img))
  have hgg : g < gm := by
    have e1 : g ≠ gm := fun e => HI3.out.comps.ne_block img (by decide) (by rw [e]; rfl)
    have e2 : g ≠ gm + 1 := fun e => HI3.out.comps.ne_block par (by decide) (by rw [e]; rfl)
    omega
  have hca : CompsAt V3 gm (some ⟨g, 0, none⟩) n F := fun h0 => by
    obtain ⟨b, off, e, _, hk⟩ := HI3.out.compsAt.1 h0
    cases e
    exact ⟨g, 0, rfl, hgg, hk⟩
  have hnc := HI3.out.compsAt.2
  have HGood := Lib.hid HI3.out.good
  have hz4 : (((V3.setCell ⟨gm + 1, 2, none⟩ (.int .i64 0)).setCell ⟨gm + 1, 5, none⟩ (.int .i64 (pz : Int))).setCell ⟨gm + 1, 8, none⟩ (.int .i64 1)).heap.size = gm + 2 := by simp [z3]
  have b4 := b3.trans (hb4.mono (by omega))
  have HCA := Lib.hid (hca.below hb4)
  generalize (((V3.setCell ⟨gm + 1, 2, none⟩ (.int .i64 0)).setCell ⟨gm + 1, 5, none⟩ (.int .i64 (pz : Int))).setCell ⟨gm + 1, 8, none⟩ (.int .i64 1)) = V4 at *
  clear hb4 hca par img HI3 hI z3 b3 hgl
  have hon := HP.out.on
  have hxs := HP.out.xs
  have hts := HP.out.ts
  have hod : od ≤ 4 := by have := HP.out.bds; omega
  have hlzb : lz ≤ 5 := by have := HZ.out; omega
  have hlob : 1 ≤ lo ∧ lo ≤ 4 := by have := HZ.out; omega
  have hpzb : 1 ≤ pz ∧ pz ≤ 4 := by omega
  have hn1 := Lib.hid (show n = 1 by have := HP.out.num.2.2; omega)
  have HFR := Lib.hid (fun (o : Nat) (ho : o ≤ 4) => made_frame (HP.out.with4 (lv' := lz) (pr' := pz) (od' := o) (ly' := lo) hlzb (by omega) ho hlob) (by omega) HGood.out)
  have HDX := Lib.hid (show (F 0).dx = 1 ∧ (F 0).dy = 1 from ((HGood.out 0 (by have := hnum.1; omega)).pl (HP.out.pl.trans (by decide))).2)
  clear hpz
  refine wp_region_lit ?_
  refine wpList_loadRow rfl rfl (by kernel_rfl) img4 (by kernel_rfl) (by kernel_rfl) ?_
  refine wpList_loadRow rfl rfl (by kernel_rfl) par4 (by kernel_rfl) (by kernel_rfl) ?_
  go_wp2_with fail
  refine (rtiles_any Xn Yn On Pn tx ty (some ⟨g, 0, none⟩) n c lz cw ch pz st od lo rct fsop feph (by omega) (by omega) (by omega) (by omega) (by omega) (by omega) (by omega) (by omega) V4 _ _ rfl rfl).mono ?_
  rintro e' W5 ⟨At, ct, rfl, ot, h5⟩
  have hWp : 1 ≤ byN Xn tx := by unfold byN; exact (Nat.le_div_iff_mul_le (by omega)).2 (by omega)
  have hHp : 1 ≤ byN Yn ty := by unfold byN; exact (Nat.le_div_iff_mul_le (by omega)).2 (by omega)
  have hT0 : tileR Xn Yn On Pn tx ty (gridAt (byN Xn tx) 0) = ⟨(On : Nat), (Pn : Nat), (min Xn tx : Nat), (min Yn ty : Nat)⟩ := by
    have e : gridAt (byN Xn tx) 0 = (0, 0) := by unfold gridAt; rw [Nat.zero_mod, Nat.zero_div]
    rw [e]
    exact tile0 (by omega) (by omega)
  obtain ⟨X1, hX1⟩ : ∃ z, min Xn tx = z := ⟨_, rfl⟩
  obtain ⟨Y1, hY1⟩ : ∃ z, min Yn ty = z := ⟨_, rfl⟩
  rw [hX1, hY1] at hT0
  have hX1b : X1 ≤ 30 := by omega
  have hY1b : Y1 ≤ 30 := by omega
  clear hX1 hY1
  have hTpos : 0 < byN Xn tx * byN Yn ty := Nat.mul_pos hWp hHp
  generalize byN Xn tx * byN Yn ty = NT at *
  obtain ⟨gt, hgt, _, _⟩ := ot.row hTpos
  subst hgt
  have htc := fun (j : Nat) (u : Value) (hu : (rcL ⟨(On : Nat), (Pn : Nat), (X1 : Nat), (Y1 : Nat)⟩)[j]? = some u) => ot.at_.cells hTpos (j := j) (u := u) (by rw [hT0]; exact hu)
  simp only [Nat.zero_add, Nat.zero_mul] at htc
  have tc0 : W5.cell? ⟨gt, 0, none⟩ = some (.int .i64 (On : Int)) := htc 0 _ rfl
  have tc1 : W5.cell? ⟨gt, 1, none⟩ = some (.int .i64 (Pn : Int)) := htc 1 _ rfl
  have tc2 : W5.cell? ⟨gt, 2, none⟩ = some (.int .i64 (X1 : Int)) := htc 2 _ rfl
  have tc3 : W5.cell? ⟨gt, 3, none⟩ = some (.int .i64 (Y1 : Int)) := htc 3 _ rfl
  clear ot htc hT0 hWp hHp
  have img5 := (h5.block gm (by omega)).trans img4
  have par5 := (h5.block (gm + 1) (by omega)).trans par4
  have b5 := b4.trans (h5.mono (by omega))
  have HC5 := Lib.hid (HCA.out.below (h5.mono (by omega)))
  have z5 : gm + 2 ≤ W5.heap.size := by have := h5.size; omega
  clear h5 img4 par4 b4 HCA hz4
  go_upto_region 7 with fail
  clear tc0 tc1 tc2 tc3
  obtain ⟨tb, htb⟩ : ∃ z, W5.heap.size = z := ⟨_, rfl⟩
  generalize hV6 : World.alloc W5 _ = V6
  have rt : V6.heap[tb]? = some (.cells #[.int .i64 (On : Int), .int .i64 (Pn : Int), .int .i64 (X1 : Int), .int .i64 (Y1 : Int)] 38 (0, 0)) := by rw [← hV6, ← htb]; exact heap_alloc_new W5 _
  have hb6 : Below W5.heap.size W5 V6 := by rw [← hV6]; exact below_alloc (Below.refl _ _) _
  have z6 : V6.heap.size = tb + 1 := by rw [← hV6, ← htb]; simp
  clear hV6
  rw [htb]
  have img6 := (hb6.block gm (by omega)).trans img5
  have par6 := (hb6.block (gm + 1) (by omega)).trans par5
  have b6 := b5.trans (hb6.mono (by omega))
  have HC6 := Lib.hid (HC5.out.below (hb6.mono (by omega)))
  rw [htb] at z5
  clear hb6 img5 par5 b5 HC5 htb
  have HR := Lib.hid (And.intro rt (And.intro img6 par6))
  clear rt img6 par6
  obtain ⟨Qo, hQo⟩ : ∃ Qo : Nat → OrdQ, Qo = fun o => madeQ On Pn X1 Y1 lz pz o lo n F := ⟨_, rfl⟩
  have HOk := Lib.hid (show ∀ o, o ≤ 4 → (Qo o).Ok by rw [hQo]; exact fun o ho => madeQ_ok (by omega) hlzb (by omega) (by omega) (by omega) (by omega) HGood.out)
  have HSQ := Lib.hid (show ∀ o, SpotQ (Qo o) by
    rw [hQo]
    intro o
    refine ⟨HZ.out.1, hn1.out, ?_, ?_⟩
    · show (F 0).dx.toNat = 1
      rw [HDX.out.1]; rfl
    · show (F 0).dy.toNat = 1
      rw [HDX.out.2]; rfl)
  have HWH := Lib.hid (show ∀ o, (Qo o).w 0 0 = (Qo 0).w 0 0 ∧ (Qo o).h 0 0 = (Qo 0).h 0 0 by rw [hQo]; exact fun o => ⟨rfl, rfl⟩)
  have HLs := Lib.hid (fun (o : Nat) (ho : o ≤ 4) (V : World) => list_any (Qo o) (HOk.out o ho) Xn Yn On Pn (some ⟨g, 0, none⟩) n c F tx ty cw ch st rct fsop feph On Pn X1 Y1 lz pz o lo (by rw [hQo]; exact ⟨rfl, rfl, rfl, rfl, rfl, rfl, rfl, rfl, rfl⟩) hnc (by rw [hQo]; exact madeQ_d HGood.out) (HFR.out o ho) V)
  have hWH : preW ⟨(On : Nat), (Pn : Nat), (X1 : Nat), (Y1 : Nat)⟩ pz = ((Qo 0).w 0 0 : Nat) ∧ preH ⟨(On : Nat), (Pn : Nat), (X1 : Nat), (Y1 : Nat)⟩ pz = ((Qo 0).h 0 0 : Nat) ∧ (Qo 0).w 0 0 ≤ 65 ∧ (Qo 0).h 0 0 ≤ 65 := by
    have hres := (Qo 0).wh (HOk.out 0 (by omega)) (r := 0) (c := 0) (by rw [(HSQ.out 0).n]; omega)
    have hw := hres.w
    have hh := hres.h
    rw [(HSQ.out 0).lv, (HSQ.out 0).dx, (HSQ.out 0).dy, Nat.sub_zero, ceN_id, ceN_id, ceN_id, ceN_id] at hw hh
    have e : (Qo 0).x0 = On ∧ (Qo 0).y0 = Pn ∧ (Qo 0).x1 = X1 ∧ (Qo 0).y1 = Y1 ∧ (Qo 0).pr = pz := by rw [hQo]; exact ⟨rfl, rfl, rfl, rfl, rfl⟩
    rw [e.1, e.2.1, e.2.2.1, e.2.2.2.1, e.2.2.2.2] at hw hh
    exact ⟨hw, hh, hres.wb⟩
  have HPc := Lib.hid (precinctsR_any ⟨(On : Nat), (Pn : Nat), (X1 : Nat), (Y1 : Nat)⟩ pz (by omega) (by unfold okR; simp only; omega) (by unfold placeR; simp only; omega) (by unfold midR; simp only; omega))
  obtain ⟨WW, hWW⟩ : ∃ z, (Qo 0).w 0 0 = z := ⟨_, rfl⟩
  obtain ⟨HH, hHH⟩ : ∃ z, (Qo 0).h 0 0 = z := ⟨_, rfl⟩
  rw [hWW, hHH] at hWH
  rw [hWH.1, hWH.2.1] at HPc
  unfold rcV at HPc
  simp only at HPc
  obtain ⟨NW, hNW⟩ : ∃ z, WW * HH = z := ⟨_, rfl⟩
  have hNWb : NW ≤ 4225 := by rw [← hNW]; exact Nat.mul_le_mul hWH.2.2.1 hWH.2.2.2
  have WM := Lib.hid (show IntKind.i64.wrap ((WW : Int) * (HH : Int)) = (NW : Int) by rw [← Int.natCast_mul, hNW, IntKind.wrap_i64]; omega)
  have HSL := Lib.hid (show ∀ o (K : List Spot), K.Perm ((Qo o).l1 lo) → K.Pairwise (fun a b => ltS b a = false) → K.length = NW ∧ ∀ k, k < NW → (K[k]?.getD default).pc = k from fun o K hp hs => by
    rw [HZ.out.2] at hp
    have h7 := (HSQ.out o).list hp hs
    rw [(HWH.out o).1, (HWH.out o).2, hWW, hHH, hNW] at h7
    exact h7)
  clear hQo HOk HSQ HWH hWH hWW hHH hNW HFR HDX HGood HP HZ HL0 hn1 hlzb hlob hon hxs hts
  refine wp_region_lit ?_
  refine wpList_loadRow rfl rfl (by kernel_rfl) HR.out.1 (by kernel_rfl) (by kernel_rfl) ?_
  have pc5 : V6.cell? ⟨gm + 1, 5, none⟩ = some (.int .i64 (pz : Int)) := cell_of_row _ _ 5 _ _ (0, 0) HR.out.2.2
  go_wp2_with fail
  refine (HPc.out _).mono ?_
  rintro e' W7 ⟨rfl, h7⟩
  have HR7 := Lib.hid (And.intro ((h7.block tb (by omega)).trans HR.out.1) (And.intro ((h7.block gm (by omega)).trans HR.out.2.1) ((h7.block (gm + 1) (by omega)).trans HR.out.2.2)))
  have b7 := b6.trans (h7.mono (by omega))
  have HC7 := Lib.hid (HC6.out.below (h7.mono (by omega)))
  have z7 : tb + 1 ≤ W7.heap.size := by have := h7.size; omega
  clear h7 HR b6 HC6 z6 pc5 HPc
  go_wp2_with fail
  go_loopg [10] 5 (fun kx s10 wr => ∃ (o oz : Nat), s10 = .int .i64 (o : Int) ∧ o ≤ 5 ∧ 5 - o ≤ kx ∧ Hid (wr.heap[tb]? = some (.cells #[.int .i64 (On : Int), .int .i64 (Pn : Int), .int .i64 (X1 : Int), .int .i64 (Y1 : Int)] 38 (0, 0)) ∧ wr.heap[gm]? = some (.cells #[.int .i64 (Xn : Int), .int .i64 (Yn : Int), .int .i64 (On : Int), .int .i64 (Pn : Int), .slice (some ⟨g, 0, none⟩) n c] 28 (0, 0)) ∧ wr.heap[gm + 1]? = some (.cells #[.int .i64 (tx : Int), .int .i64 (ty : Int), .int .i64 (lz : Int), .int .i64 (cw : Int), .int .i64 (ch : Int), .int .i64 (pz : Int), .int .i64 (st : Int), .int .i64 (oz : Int), .int .i64 (lo : Int), .bool rct, .bool fsop, .bool feph] 30 (0, 0))) ∧ Hid (Below q w wr ∧ tb + 1 ≤ wr.heap.size ∧ CompsAt wr gm (some ⟨g, 0, none⟩) n F))
  case atStart => exact ⟨0, od, rfl, by omega, by omega, HR7, Lib.hid ⟨b7, z7, HC7.out⟩⟩
  case round =>
    clear HR7 b7 HC7 z7
    obtain ⟨o, oz, rfl, ho, hkx, HRr, HBr⟩ := hrel
    by_cases hlt : o < 5
    · have hltz : (o : Int) < 5 := by omega
      have p7 : wr.cell? ⟨gm + 1, 7, none⟩ = some (.int .i64 (oz : Int)) := cell_of_row _ _ 7 _ _ (0, 0) HRr.out.2.2
      have f7 : wr.frozen? ⟨gm + 1, 7, none⟩ = false := frozen_of_row _ _ 7 _ _ HRr.out.2.2
      have zw := HBr.out.2.1
      go_upto_region 12 with fail
      clear p7 f7
      have HR8 := Lib.hid (show (wr.setCell ⟨gm + 1, 7, none⟩ (.int .i64 (o : Int))).heap[tb]? = some (.cells #[.int .i64 (On : Int), .int .i64 (Pn : Int), .int .i64 (X1 : Int), .int .i64 (Y1 : Int)] 38 (0, 0)) ∧ (wr.setCell ⟨gm + 1, 7, none⟩ (.int .i64 (o : Int))).heap[gm]? = some (.cells #[.int .i64 (Xn : Int), .int .i64 (Yn : Int), .int .i64 (On : Int), .int .i64 (Pn : Int), .slice (some ⟨g, 0, none⟩) n c] 28 (0, 0)) ∧ (wr.setCell ⟨gm + 1, 7, none⟩ (.int .i64 (o : Int))).heap[gm + 1]? = some (.cells #[.int .i64 (tx : Int), .int .i64 (ty : Int), .int .i64 (lz : Int), .int .i64 (cw : Int), .int .i64 (ch : Int), .int .i64 (pz : Int), .int .i64 (st : Int), .int .i64 (o : Int), .int .i64 (lo : Int), .bool rct, .bool fsop, .bool feph] 30 (0, 0)) from ⟨(Below.heap_setCell _ _ _ _ (by simp only; omega)).trans HRr.out.1, (Below.heap_setCell _ _ _ _ (by simp only; omega)).trans HRr.out.2.1, heap_setCell_same _ _ 7 _ _ _ HRr.out.2.2⟩)
      have hb7 : Below (gm + 1) wr (wr.setCell ⟨gm + 1, 7, none⟩ (.int .i64 (o : Int))) := (Below.refl _ _).setCell (p := ⟨gm + 1, 7, none⟩) (by simp only; omega) _
      have z8 : tb + 1 ≤ (wr.setCell ⟨gm + 1, 7, none⟩ (.int .i64 (o : Int))).heap.size := by have := hb7.size; omega
      have b8 := HBr.out.1.trans (hb7.mono (by omega))
      have HC8 := Lib.hid (HBr.out.2.2.below (hb7.mono (by omega)))
      generalize wr.setCell ⟨gm + 1, 7, none⟩ (.int .i64 (o : Int)) = W8 at *
      clear hb7 HRr HBr zw
      refine wp_region_lit ?_
      refine wpList_loadRow rfl rfl (by kernel_rfl) HR8.out.1 (by kernel_rfl) (by kernel_rfl) ?_
      refine wpList_loadRow rfl rfl (by kernel_rfl) HR8.out.2.1 (by kernel_rfl) (by kernel_rfl) ?_
      refine wpList_loadRow rfl rfl (by kernel_rfl) HR8.out.2.2 (by kernel_rfl) (by kernel_rfl) ?_
      go_wp2_with fail
      refine (HLs.out o (by omega) W8 (HC8.out.more (by omega))).mono ?_
      rintro e' W9 ⟨K, AK, cK, rfl, hp, hs, own, h9⟩
      obtain ⟨hKl, hKp⟩ := HSL.out o K hp hs
      rw [hKl] at own ⊢
      have HKP := Lib.hid hKp
      have HR9 := Lib.hid (And.intro ((h9.block tb (by omega)).trans HR8.out.1) (And.intro ((h9.block gm (by omega)).trans HR8.out.2.1) ((h9.block (gm + 1) (by omega)).trans HR8.out.2.2)))
      have b9 := b8.trans (h9.mono (by omega))
      have HC9 := Lib.hid (HC8.out.below (h9.mono (by omega)))
      have z9 : tb + 1 ≤ W9.heap.size := by have := h9.size; omega
      have HOW := Lib.hid own
      have WM2 := WM.out
      clear h9 own hp hs hKl hKp HR8 b8 HC8 z8
      go_wp2_with fail
      clear WM2
      go_loopg [12] NW (fun ky s12 wr => ∃ (k : Nat), s12 = .int .i64 (k : Int) ∧ k ≤ NW ∧ NW - k ≤ ky ∧ Hid (Below W9.heap.size W9 wr))
      case atStart => exact ⟨0, rfl, by omega, by omega, Lib.hid (Below.refl _ _)⟩
      case round =>
        obtain ⟨k, rfl, hk, hky, HB⟩ := hrel
        by_cases hlk : k < NW
        · have hlkz : (k : Int) < (NW : Int) := by omega
          obtain ⟨gk, hgk, hgk1, hgk2⟩ := HOW.out.row (by omega)
          subst hgk
          have k4 := (key4_of HOW.out hlk).below HB.out hgk2
          rw [HKP.out k hlk] at k4
          have k43 := k4.2.2.2
          have WK := wrap_add1 (a := k) (c := k + 1) rfl (by omega)
          clear k4
          go_wp2_with fail
          go_roundg (NW - (k + 1))
          case measure => omega
          case rel => exact ⟨k + 1, by go_num, by omega, Nat.le_refl _, HB⟩
        · have hlkz : ¬ (k : Int) < (NW : Int) := by omega
          have WO := wrap_add1 (a := o) (c := o + 1) rfl (by omega)
          have zb := HB.out.size
          go_wp2_with fail
          go_roundg (5 - (o + 1))
          case measure => omega
          case rel => exact ⟨o + 1, o, by go_num, by omega, Nat.le_refl _, Lib.hid ⟨(HB.out.block tb (by omega)).trans HR9.out.1, (HB.out.block gm (by omega)).trans HR9.out.2.1, (HB.out.block (gm + 1) (by omega)).trans HR9.out.2.2⟩, Lib.hid ⟨b9.trans (HB.out.mono (by omega)), by omega, HC9.out.below (HB.out.mono (by omega))⟩⟩
    · have hltz : ¬ (o : Int) < 5 := by omega
      have bz := HBr.out.1
      go_wp2_with fail
      go_ret
      exact ⟨rfl, bz⟩
end Go.Proofs.Ytpgkdpoehkdhcaa
