/- THE WALK of waveletlaw16.OrderSame. -/
import Derived.Test.YtpgkdpoehkdhcaaOrdM
import Derived.Test.YtpgkdpoehkdhcaaRTiles
import Derived.Deep.LoopGhost
import Derived.Deep.CutBlock
import Derived.Laws.MakeOwn
namespace Go.Proofs.Ytpgkdpoehkdhcaa
open Go.RowKit
attribute [local go_sem] opv opnd
set_option maxHeartbeats 40000000
set_option linter.unusedVariables false
set_option linter.unusedSimpArgs false
set_option maxRecDepth 1000000
/-- a row of marks -/
def csB (s : Nat → Bool) (N : Nat) : Array Value := ((List.range N).map fun p => Value.bool (s p)).toArray
theorem csB_congr {s t : Nat → Bool} {N : Nat} (h : ∀ p, p < N → s p = t p) : csB s N = csB t N := by
  unfold csB
  congr 1
  apply List.map_congr_left
  intro p hp
  rw [h p (List.mem_range.1 hp)]
theorem csB_size (s : Nat → Bool) (N : Nat) : (csB s N).size = N := by simp [csB]
theorem csB_get {s : Nat → Bool} {N p : Nat} (hp : p < N) : (csB s N)[p]? = some (.bool (s p)) := by
  simp [csB, hp]
theorem csB_set {s : Nat → Bool} {N p : Nat} (hp : p < N) : (csB s N).setIfInBounds p (.bool true) = csB (fun q => s q || decide (q = p)) N := by
  apply Array.ext
  · simp [csB_size]
  · intro i h1 h2
    have hi : i < N := by simpa [csB_size] using h2
    have e2 : (csB (fun q => s q || decide (q = p)) N)[i] = .bool (s i || decide (i = p)) := by
      simp [csB]
    rw [e2, Array.getElem_setIfInBounds (by simpa [csB_size] using hi)]
    by_cases h : p = i
    · subst h; simp
    · rw [if_neg h]
      have : ¬ i = p := fun e => h e.symm
      simp [csB, this]
/-- nothing but block gs has changed; it has these cells now -/
def SeenW (w w' : World) (gs : Nat) (cs : Array Value) : Prop :=
  w'.heap[gs]? = some (.cells cs 4 (0, 0)) ∧ Below gs w w'
theorem SeenW.refl {w : World} {gs : Nat} {cs : Array Value} (h : w.heap[gs]? = some (.cells cs 4 (0, 0))) : SeenW w w gs cs := ⟨h, Below.refl _ _⟩
theorem SeenW.quiet {w w' w'' : World} {gs : Nat} {cs : Array Value} (h : SeenW w w' gs cs) (hb : Below w'.heap.size w' w'') (hlt : gs < w'.heap.size) : SeenW w w'' gs cs :=
  ⟨(hb.block gs hlt).trans h.1, h.2.trans (hb.mono (Nat.le_of_lt hlt))⟩
theorem SeenW.set {w w' : World} {gs p N : Nat} {s : Nat → Bool} (h : SeenW w w' gs (csB s N)) (hp : p < N) : SeenW w (w'.setCell ⟨gs, p, none⟩ (.bool true)) gs (csB (fun q => s q || decide (q = p)) N) :=
  ⟨by rw [← csB_set hp]; exact heap_setCell_same w' gs p _ _ _ h.1, h.2.setCell (p := ⟨gs, p, none⟩) (Nat.le_refl _) _⟩
theorem SeenW.congr {w w' : World} {gs N : Nat} {s t : Nat → Bool} (h : SeenW w w' gs (csB s N)) (e : ∀ p, p < N → s p = t p) : SeenW w w' gs (csB t N) := by rw [← csB_congr e]; exact h
theorem SeenW.seen {w w' : World} {gs p N : Nat} {s : Nat → Bool} (h : SeenW w w' gs (csB s N)) (hp : p < N) : w'.cell? ⟨gs, p, none⟩ = some (.bool (s p)) := by
  rw [cell_of_row _ _ p _ _ (0, 0) h.1]
  exact csB_get hp
theorem SeenW.free {w w' : World} {gs p : Nat} {cs : Array Value} (h : SeenW w w' gs cs) : w'.frozen? ⟨gs, p, none⟩ = false := frozen_of_row _ _ p _ _ h.1
theorem made_csB (N : Nat) : madeCells #[.bool false] N = csB (fun _ => false) N := by
  apply Array.ext'
  rw [toList_madeCells_one]
  simp [csB, List.map_const']
theorem run_makeB (N : Nat) (hN : N ≤ 16777216) (w : World) :
    (Instr.makeSlice 51 (.int .i64 (N : Int)) (.int .i64 (N : Int))).run Try.prog w = .ok (.slice (some ⟨w.heap.size, 0, none⟩) N N) (w.alloc (.cells (madeCells #[.bool false] N) 4)) := by
  have hinfo : (Try.prog.info? 4).map (fun i => (i.zero, i.size, i.bytes)) = some (some (.bool false), 1, 1) := by kernel_rfl
  rcases hi : Try.prog.info? 4 with _ | i
  · rw [hi] at hinfo; cases hinfo
  · rw [hi] at hinfo
    simp only [Option.map_some, Option.some.injEq, Prod.mk.injEq] at hinfo
    obtain ⟨hz0, hz1, hz2⟩ := hinfo
    have hr := run_make (P := Try.prog) w 51 4 i (.bool false) (by kernel_rfl) hi hz0 .i64 .i64 N N (by omega) (by omega) (by rw [hz2]; omega) (by omega)
    simpa [hz1, Value.cells] using hr
/-- two rows of keys, each without a second time, every one of the first in the second -/
structure SameK (X Y : Nat → List Int) (N M : Nat) : Prop where
  nx : ∀ i j, i < N → j < N → X i = X j → i = j
  ny : ∀ i j, i < M → j < M → Y i = Y j → i = j
  ex : ∀ i, i < N → ∃ k, k < M ∧ Y k = X i
def usedB (X Y : Nat → List Int) (i k : Nat) : Bool := (List.range i).any (fun j => X j == Y k)
section
variable {X Y : Nat → List Int} {N M i k : Nat}
theorem usedB_iff : usedB X Y i k = true ↔ ∃ j, j < i ∧ X j = Y k := by simp [usedB]
theorem usedB_zero : usedB X Y 0 k = false := by simp [usedB]
theorem SameK.skip (h : SameK X Y N M) (hi : i < N) (hu : usedB X Y i k = true) : ¬ X i = Y k := fun e => by
  obtain ⟨j, hj, ej⟩ := usedB_iff.1 hu
  have := h.nx j i (by omega) hi (ej.trans e.symm)
  omega
theorem SameK.hit (h : SameK X Y N M) (hk : k < M) (he : X i = Y k) : ∀ p, p < M → (usedB X Y i p || decide (p = k)) = usedB X Y (i + 1) p := fun p hp => by
  by_cases hpk : p = k
  · subst hpk
    have : usedB X Y (i + 1) p = true := usedB_iff.2 ⟨i, by omega, he⟩
    simp [this]
  · rw [decide_eq_false hpk, Bool.or_false]
    rw [Bool.eq_iff_iff, usedB_iff, usedB_iff]
    constructor
    · rintro ⟨j, hj, e⟩
      exact ⟨j, by omega, e⟩
    · rintro ⟨j, hj, e⟩
      rcases Nat.lt_or_ge j i with h1 | h1
      · exact ⟨j, h1, e⟩
      · have : j = i := by omega
        subst this
        exact absurd (h.ny p k hp hk (e.symm.trans he)) hpk
end
def keyS (s : Spot) : List Int := [s.ly, s.rs, s.cm, s.pc]
def keyK (K : List Spot) (i : Nat) : List Int := keyS (K[i]?.getD default)
theorem keyK_inj {q : OrdQ} {m : Nat} {K : List Spot} (hp : K.Perm (q.l1 m)) (i j : Nat) (hi : i < K.length) (hj : j < K.length) (e : keyK K i = keyK K j) : i = j := by
  have hnd : K.Nodup := hp.nodup_iff.2 (q.l1_nodup m)
  unfold keyK at e
  rw [List.getElem?_eq_getElem hi, List.getElem?_eq_getElem hj] at e
  simp only [Option.getD_some, keyS, List.cons.injEq, and_true] at e
  have := OrdQ.key_inj (hp.mem_iff.1 (List.getElem_mem hi)) (hp.mem_iff.1 (List.getElem_mem hj)) e.1 e.2.1 e.2.2.1 e.2.2.2
  exact (List.getElem_inj hnd).1 this
theorem OrdQ.same {q q' : OrdQ} {b m : Nat} {Ka Kb : List Spot} (hqa : q' = { q with od := b }) (ha : Ka.Perm (q.l1 m)) (hb : Kb.Perm (q'.l1 m)) : SameK (keyK Ka) (keyK Kb) Ka.length Kb.length ∧ Ka.length = Kb.length := by
  refine ⟨⟨keyK_inj ha, keyK_inj hb, fun i hi => ?_⟩, ?_⟩
  · obtain ⟨l, r, c, k, hl, hr, hc, hk, e⟩ := OrdQ.mem.1 (ha.mem_iff.1 (List.getElem_mem hi))
    have h2 : q'.pk l r c k ∈ Kb := hb.mem_iff.2 (OrdQ.mem.2 ⟨l, r, c, k, hl, by rw [hqa]; exact hr, by rw [hqa]; exact hc, by rw [hqa]; exact hk, rfl⟩)
    obtain ⟨j, hj, ej⟩ := List.getElem_of_mem h2
    refine ⟨j, hj, ?_⟩
    unfold keyK
    rw [List.getElem?_eq_getElem hi, List.getElem?_eq_getElem hj, e, ej]
    simp only [Option.getD_some, keyS, (q.pk_key l r c k).1, (q.pk_key l r c k).2.1, (q.pk_key l r c k).2.2.1, (q.pk_key l r c k).2.2.2, (q'.pk_key l r c k).1, (q'.pk_key l r c k).2.1, (q'.pk_key l r c k).2.2.1, (q'.pk_key l r c k).2.2.2]
  · rw [ha.length_eq, hb.length_eq, q.l1_cnt, q'.l1_cnt, hqa]
    rfl
theorem ordSam_walk (fX fY fOx fOy fC fD fS : Int) (fsg frct fsop feph : Bool) (fTx fTy fL fcw fch fP fSt fO fLy : Int) (NA : Option Addr) (nN cN : Nat) (Nf : Nat → Int) (oa ob : Int) (w : World) (hN : IntsAt w w.heap.size NA nN Nf) (hNf : ∀ k, k < nN → -9223372036854775808 ≤ Nf k ∧ Nf k ≤ 9223372036854775807) (hNn : nN ≤ 9223372036854775807) (hSb : -9223372036854775808 ≤ fS ∧ fS ≤ 9223372036854775807) (hoa : -9223372036854775808 ≤ oa ∧ oa ≤ 9223372036854775807) (hob : -9223372036854775808 ≤ ob ∧ ob ≤ 9223372036854775807) :
    Calls Try.prog 6 #[.agg #[.int .i64 fX, .int .i64 fY, .int .i64 fOx, .int .i64 fOy, .int .i64 fC, .int .i64 fD, .int .i64 fS, .bool fsg, .bool frct, .bool fsop, .bool feph, .int .i64 fTx, .int .i64 fTy, .int .i64 fL, .int .i64 fcw, .int .i64 fch, .int .i64 fP, .int .i64 fSt, .int .i64 fO, .int .i64 fLy, .slice NA nN cN], .int .i64 oa, .int .i64 ob] w fun e w' => e = .returned (.bool true) ∧ Below w.heap.size w w' := by
  have HMk := Lib.hid (fun (v : World) (h : IntsAt v v.heap.size NA nN Nf) => make_any fX fY fOx fOy fC fD fS fsg frct fsop feph fTx fTy fL fcw fch fP fSt fO fLy NA nN cN Nf 14 (by omega) (by omega) v h hNf hNn hSb)
  rw [show ((14 : Nat) : Int) = 14 from rfl] at HMk
  have HN := Lib.hid hN
  clear hN hNf hNn hSb
  go_enter Try.func6, Try.ntmps6
  go_wp2_with fail
  obtain ⟨q, hq⟩ : ∃ q, w.heap.size = q := ⟨_, rfl⟩
  generalize hw0 : World.alloc w _ = W0
  have f0 : W0.heap[q]? = some (.cells #[.int .i64 fX, .int .i64 fY, .int .i64 fOx, .int .i64 fOy, .int .i64 fC, .int .i64 fD, .int .i64 fS, .bool fsg, .bool frct, .bool fsop, .bool feph, .int .i64 fTx, .int .i64 fTy, .int .i64 fL, .int .i64 fcw, .int .i64 fch, .int .i64 fP, .int .i64 fSt, .int .i64 fO, .int .i64 fLy, .slice NA nN cN] 24 (0, 0)) := by rw [← hw0, ← hq]; exact heap_alloc_new w _
  have z0 : W0.heap.size = q + 1 := by rw [← hw0, ← hq]; simp
  have b0 : Below q w W0 := by rw [← hw0, ← hq]; exact below_alloc (Below.refl _ _) _
  clear hw0
  refine (known16_any _).mono ?_
  rintro e' W1 ⟨rfl, h1⟩
  have f1 := (h1.block q (by omega)).trans f0
  have b1 := b0.trans (h1.mono (by omega))
  have z1 : q + 1 ≤ W1.heap.size := by have := h1.size; omega
  clear h1 f0 b0 z0
  go_upto_region 3 with fail
  refine wp_region_lit ?_
  refine wpList_loadRow rfl rfl rfl f1 (by kernel_rfl) (by kernel_rfl) ?_
  go_wp2_with fail
  refine (HMk.out W1 ((HN.out.below (by rw [hq]; exact b1)).more (by have := b1.size; omega))).mono ?_
  rintro e' W2 ⟨Xn, Yn, On, Pn, tx, ty, lv, cw, ch, pr, st, od, ly, n, dn, rct, PL, A, c, F, G, rfl, hP, hI, h2⟩
  have b2 := b1.trans (h2.mono (by omega))
  have z2 : q + 1 ≤ W2.heap.size := by have := h2.size; omega
  have hI := hI.mono z1
  clear h2 b1 f1
  have HP := Lib.hid hP
  have HI := Lib.hid hI
  clear hP hI HMk HN
  unfold imgV parV
  go_upto_region 4 with fail
  obtain ⟨gm, hgm⟩ : ∃ g, W2.heap.size = g := ⟨_, rfl⟩
  generalize hV3 : World.alloc (World.alloc W2 _) _ = V3
  have img : V3.heap[gm]? = some (.cells #[.int .i64 Xn, .int .i64 Yn, .int .i64 On, .int .i64 Pn, .slice A n c] 28 (0, 0)) := by rw [← hV3, ← hgm]; exact (Below.heap_alloc _ _ _ (by simp)).trans (heap_alloc_new W2 _)
  have par : V3.heap[gm + 1]? = some (.cells #[.int .i64 tx, .int .i64 ty, .int .i64 lv, .int .i64 cw, .int .i64 ch, .int .i64 pr, .int .i64 st, .int .i64 od, .int .i64 ly, .bool rct, .bool fsop, .bool feph] 30 (0, 0)) := by rw [← hV3, ← hgm]; exact heap_alloc_new2 W2 _ _
  have h3 : Below gm W2 V3 := by rw [← hV3, ← hgm]; exact below_alloc (below_alloc (Below.refl _ _) _) _
  have z3 : V3.heap.size = gm + 2 := by rw [← hV3, ← hgm]; simp
  rw [hgm] at z2 ⊢
  clear hV3
  have HI3 := Lib.hid (HI.out.below (by rw [hgm]; exact h3))
  have b3 := b2.trans (h3.mono (by omega))
  clear HI b2 h3
  have hnum : 1 ≤ n ∧ n ≤ 4 := ⟨HP.out.num.1, HP.out.num.2.1⟩
  obtain ⟨g, rfl, hgq, hgl⟩ := HI3.out.comps.row (by omega)
  obtain ⟨oa5, hoa5, _, HKa0⟩ := within16v oa 5 5 rfl (by omega) (by omega)
  obtain ⟨ob5, hob5, _, HKb0⟩ := within16v ob 5 5 rfl (by omega) (by omega)
  have HKa := Lib.hid HKa0
  have HKb := Lib.hid HKb0
  clear HKa0 HKb0
  have HFA := Lib.hid (made_frame (HP.out.with_ (pr' := pr) (od' := oa5) (by have := HP.out.bds; omega) (by omega)) (by omega) HI3.out.good)
  have HFB := Lib.hid (made_frame (HP.out.with_ (pr' := pr) (od' := ob5) (by have := HP.out.bds; omega) (by omega)) (by omega) HI3.out.good)
  have hgg : g < gm := by
    have e1 : g ≠ gm := fun e => HI3.out.comps.ne_block img (by decide) (by rw [e]; rfl)
    have e2 : g ≠ gm + 1 := fun e => HI3.out.comps.ne_block par (by decide) (by rw [e]; rfl)
    omega
  have hca : CompsAt V3 gm (some ⟨g, 0, none⟩) n F := fun h0 => by
    obtain ⟨b, off, e, _, hk⟩ := HI3.out.compsAt.1 h0
    cases e
    exact ⟨g, 0, rfl, hgg, hk⟩
  have hnc := HI3.out.compsAt.2
  have HGood := Lib.hid HI3.out.good
  have HCA := Lib.hid hca
  clear hca HI3 hI hgl
  have hon := HP.out.on
  have hxs := HP.out.xs
  have hts := HP.out.ts
  have hlv : lv ≤ 5 := HP.out.bds.1
  have hpr : pr ≤ 15 := by have := HP.out.bds; omega
  have hod : od ≤ 4 := by have := HP.out.bds; omega
  have hly : 1 ≤ ly ∧ ly ≤ 4 := by have := HP.out.bds; omega
  refine wp_region_lit ?_
  refine wpList_loadRow rfl rfl (by kernel_rfl) img (by kernel_rfl) (by kernel_rfl) ?_
  refine wpList_loadRow rfl rfl (by kernel_rfl) par (by kernel_rfl) (by kernel_rfl) ?_
  go_wp2_with fail
  refine (rtiles_any Xn Yn On Pn tx ty (some ⟨g, 0, none⟩) n c lv cw ch pr st od ly rct fsop feph (by omega) (by omega) (by omega) (by omega) (by omega) (by omega) (by omega) (by omega) V3 _ _ rfl rfl).mono ?_
  rintro e' W5 ⟨At, ct, rfl, ot, h5⟩
  have hWp : 1 ≤ byN Xn tx := by unfold byN; exact (Nat.le_div_iff_mul_le (by omega)).2 (by omega)
  have hHp : 1 ≤ byN Yn ty := by unfold byN; exact (Nat.le_div_iff_mul_le (by omega)).2 (by omega)
  have hT0 : tileR Xn Yn On Pn tx ty (gridAt (byN Xn tx) 0) = ⟨(On : Nat), (Pn : Nat), (min Xn tx : Nat), (min Yn ty : Nat)⟩ := by
    have e : gridAt (byN Xn tx) 0 = (0, 0) := by unfold gridAt; rw [Nat.zero_mod, Nat.zero_div]
    rw [e]
    exact tile0 (by omega) (by omega)
  obtain ⟨X1, hX1⟩ : ∃ z, min Xn tx = z := ⟨_, rfl⟩
  obtain ⟨Y1, hY1⟩ : ∃ z, min Yn ty = z := ⟨_, rfl⟩
  rw [hX1, hY1] at hT0
  have hX1b : X1 ≤ 20 := by omega
  have hY1b : Y1 ≤ 20 := by omega
  clear hX1 hY1
  have hTpos : 0 < byN Xn tx * byN Yn ty := Nat.mul_pos hWp hHp
  generalize byN Xn tx * byN Yn ty = NT at *
  obtain ⟨gt, hgt, _, _⟩ := ot.row hTpos
  subst hgt
  have htc := fun (j : Nat) (u : Value) (hu : (rcL ⟨(On : Nat), (Pn : Nat), (X1 : Nat), (Y1 : Nat)⟩)[j]? = some u) => ot.at_.cells hTpos (j := j) (u := u) (by rw [hT0]; exact hu)
  simp only [Nat.zero_add, Nat.zero_mul] at htc
  have tc0 : W5.cell? ⟨gt, 0, none⟩ = some (.int .i64 (On : Int)) := htc 0 _ rfl
  have tc1 : W5.cell? ⟨gt, 1, none⟩ = some (.int .i64 (Pn : Int)) := htc 1 _ rfl
  have tc2 : W5.cell? ⟨gt, 2, none⟩ = some (.int .i64 (X1 : Int)) := htc 2 _ rfl
  have tc3 : W5.cell? ⟨gt, 3, none⟩ = some (.int .i64 (Y1 : Int)) := htc 3 _ rfl
  clear ot htc hT0 hWp hHp
  have img5 := (h5.block gm (by omega)).trans img
  have par5 := (h5.block (gm + 1) (by omega)).trans par
  have b5 := b3.trans (h5.mono (by omega))
  have HC5 := Lib.hid (HCA.out.below (h5.mono (by omega)))
  have z5 : gm + 2 ≤ W5.heap.size := by have := h5.size; omega
  clear h5 img par b3 HCA z3
  go_upto_region 5 with fail
  clear tc0 tc1 tc2 tc3
  obtain ⟨tb, htb⟩ : ∃ z, W5.heap.size = z := ⟨_, rfl⟩
  generalize hV6 : World.alloc W5 _ = V6
  have rt : V6.heap[tb]? = some (.cells #[.int .i64 (On : Int), .int .i64 (Pn : Int), .int .i64 (X1 : Int), .int .i64 (Y1 : Int)] 38 (0, 0)) := by rw [← hV6, ← htb]; exact heap_alloc_new W5 _
  have hb6 : Below W5.heap.size W5 V6 := by rw [← hV6]; exact below_alloc (Below.refl _ _) _
  have z6 : V6.heap.size = tb + 1 := by rw [← hV6, ← htb]; simp
  clear hV6
  rw [htb]
  have img6 := (hb6.block gm (by omega)).trans img5
  have par6 := (hb6.block (gm + 1) (by omega)).trans par5
  have b6 := b5.trans (hb6.mono (by omega))
  have HC6 := Lib.hid (HC5.out.below (hb6.mono (by omega)))
  rw [htb] at z5
  clear hb6 img5 par5 b5 HC5 htb
  have HR := Lib.hid (And.intro rt (And.intro img6 par6))
  clear rt img6 par6
  obtain ⟨Qa, hQa⟩ : ∃ Q, Q = madeQ On Pn X1 Y1 lv pr oa5 ly n F := ⟨_, rfl⟩
  obtain ⟨Qb, hQb⟩ : ∃ Q, Q = madeQ On Pn X1 Y1 lv pr ob5 ly n F := ⟨_, rfl⟩
  have HQQ := Lib.hid (show Qb = { Qa with od := ob5 } by rw [hQa, hQb]; rfl)
  have HOa := Lib.hid (show Qa.Ok by rw [hQa]; exact madeQ_ok (by omega) hlv (by omega) (by omega) (by omega) hnum.2 HGood.out)
  have HOb := Lib.hid (show Qb.Ok by rw [hQb]; exact madeQ_ok (by omega) hlv (by omega) (by omega) (by omega) hnum.2 HGood.out)
  have HLa := Lib.hid (fun V : World => list_any Qa HOa.out Xn Yn On Pn (some ⟨g, 0, none⟩) n c F tx ty cw ch st rct fsop feph On Pn X1 Y1 lv pr oa5 ly (by rw [hQa]; exact ⟨rfl, rfl, rfl, rfl, rfl, rfl, rfl, rfl, rfl⟩) hnc (by rw [hQa]; exact madeQ_d HGood.out) HFA.out V)
  have HLb := Lib.hid (fun V : World => list_any Qb HOb.out Xn Yn On Pn (some ⟨g, 0, none⟩) n c F tx ty cw ch st rct fsop feph On Pn X1 Y1 lv pr ob5 ly (by rw [hQb]; exact ⟨rfl, rfl, rfl, rfl, rfl, rfl, rfl, rfl, rfl⟩) hnc (by rw [hQb]; exact madeQ_d HGood.out) HFB.out V)
  clear hQa hQb HFA HFB HGood HOb HP
  have p7 : V6.cell? ⟨gm + 1, 7, none⟩ = some (.int .i64 (od : Int)) := cell_of_row _ _ 7 _ _ (0, 0) HR.out.2.2
  have f7 : V6.frozen? ⟨gm + 1, 7, none⟩ = false := frozen_of_row _ _ 7 _ _ HR.out.2.2
  go_wp2_with fail
  refine (HKa.out _).mono ?_
  rintro e' wa ⟨rfl, hwa⟩
  subst hwa
  go_upto_region 6 with fail
  clear p7 f7 HKa
  have HR7 := Lib.hid (show (V6.setCell ⟨gm + 1, 7, none⟩ (.int .i64 (oa5 : Int))).heap[tb]? = some (.cells #[.int .i64 (On : Int), .int .i64 (Pn : Int), .int .i64 (X1 : Int), .int .i64 (Y1 : Int)] 38 (0, 0)) ∧ (V6.setCell ⟨gm + 1, 7, none⟩ (.int .i64 (oa5 : Int))).heap[gm]? = some (.cells #[.int .i64 (Xn : Int), .int .i64 (Yn : Int), .int .i64 (On : Int), .int .i64 (Pn : Int), .slice (some ⟨g, 0, none⟩) n c] 28 (0, 0)) ∧ (V6.setCell ⟨gm + 1, 7, none⟩ (.int .i64 (oa5 : Int))).heap[gm + 1]? = some (.cells #[.int .i64 (tx : Int), .int .i64 (ty : Int), .int .i64 (lv : Int), .int .i64 (cw : Int), .int .i64 (ch : Int), .int .i64 (pr : Int), .int .i64 (st : Int), .int .i64 (oa5 : Int), .int .i64 (ly : Int), .bool rct, .bool fsop, .bool feph] 30 (0, 0)) from ⟨(Below.heap_setCell _ _ _ _ (by simp only; omega)).trans HR.out.1, (Below.heap_setCell _ _ _ _ (by simp only; omega)).trans HR.out.2.1, heap_setCell_same _ _ 7 _ _ _ HR.out.2.2⟩)
  have hb7 : Below (gm + 1) V6 (V6.setCell ⟨gm + 1, 7, none⟩ (.int .i64 (oa5 : Int))) := (Below.refl _ _).setCell (p := ⟨gm + 1, 7, none⟩) (by simp only; omega) _
  have z7 : tb + 1 ≤ (V6.setCell ⟨gm + 1, 7, none⟩ (.int .i64 (oa5 : Int))).heap.size := by have := hb7.size; omega
  have b7 := b6.trans (hb7.mono (by omega))
  have HC7 := Lib.hid (HC6.out.below (hb7.mono (by omega)))
  
  generalize V6.setCell ⟨gm + 1, 7, none⟩ (.int .i64 (oa5 : Int)) = V7 at *
  clear hb7 HR b6 HC6 z6
  refine wp_region_lit ?_
  refine wpList_loadRow rfl rfl (by kernel_rfl) HR7.out.1 (by kernel_rfl) (by kernel_rfl) ?_
  refine wpList_loadRow rfl rfl (by kernel_rfl) HR7.out.2.1 (by kernel_rfl) (by kernel_rfl) ?_
  refine wpList_loadRow rfl rfl (by kernel_rfl) HR7.out.2.2 (by kernel_rfl) (by kernel_rfl) ?_
  go_wp2_with fail
  refine (HLa.out V7 (HC7.out.more (by omega))).mono ?_
  rintro e' W8 ⟨Ka, Aa, ca, rfl, hpKa, hsKa, owKa, h8⟩
  obtain ⟨NX, hNX⟩ : ∃ z, Ka.length = z := ⟨_, rfl⟩
  rw [hNX] at owKa ⊢
  have HNX := Lib.hid hNX
  clear hNX hsKa
  have HR8 := Lib.hid (And.intro ((h8.block tb (by omega)).trans HR7.out.1) (And.intro ((h8.block gm (by omega)).trans HR7.out.2.1) ((h8.block (gm + 1) (by omega)).trans HR7.out.2.2)))
  have b8 := b7.trans (h8.mono (by omega))
  have HC8 := Lib.hid (HC7.out.below (h8.mono (by omega)))
  have z8 : tb + 1 ≤ W8.heap.size := by have := h8.size; omega
  have HPA := Lib.hid hpKa
  have HXA := Lib.hid (owKa.mono (base' := tb + 1) (by omega))
  clear h8 HR7 b7 HC7 z7 hpKa owKa HLa
  go_upto_region 7 with fail
  have p7 : W8.cell? ⟨gm + 1, 7, none⟩ = some (.int .i64 (oa5 : Int)) := cell_of_row _ _ 7 _ _ (0, 0) HR8.out.2.2
  have f7 : W8.frozen? ⟨gm + 1, 7, none⟩ = false := frozen_of_row _ _ 7 _ _ HR8.out.2.2
  go_wp2_with fail
  refine (HKb.out _).mono ?_
  rintro e' wa ⟨rfl, hwa⟩
  subst hwa
  go_upto_region 8 with fail
  clear p7 f7 HKb
  have HR9 := Lib.hid (show (W8.setCell ⟨gm + 1, 7, none⟩ (.int .i64 (ob5 : Int))).heap[tb]? = some (.cells #[.int .i64 (On : Int), .int .i64 (Pn : Int), .int .i64 (X1 : Int), .int .i64 (Y1 : Int)] 38 (0, 0)) ∧ (W8.setCell ⟨gm + 1, 7, none⟩ (.int .i64 (ob5 : Int))).heap[gm]? = some (.cells #[.int .i64 (Xn : Int), .int .i64 (Yn : Int), .int .i64 (On : Int), .int .i64 (Pn : Int), .slice (some ⟨g, 0, none⟩) n c] 28 (0, 0)) ∧ (W8.setCell ⟨gm + 1, 7, none⟩ (.int .i64 (ob5 : Int))).heap[gm + 1]? = some (.cells #[.int .i64 (tx : Int), .int .i64 (ty : Int), .int .i64 (lv : Int), .int .i64 (cw : Int), .int .i64 (ch : Int), .int .i64 (pr : Int), .int .i64 (st : Int), .int .i64 (ob5 : Int), .int .i64 (ly : Int), .bool rct, .bool fsop, .bool feph] 30 (0, 0)) from ⟨(Below.heap_setCell _ _ _ _ (by simp only; omega)).trans HR8.out.1, (Below.heap_setCell _ _ _ _ (by simp only; omega)).trans HR8.out.2.1, heap_setCell_same _ _ 7 _ _ _ HR8.out.2.2⟩)
  have hb7 : Below (gm + 1) W8 (W8.setCell ⟨gm + 1, 7, none⟩ (.int .i64 (ob5 : Int))) := (Below.refl _ _).setCell (p := ⟨gm + 1, 7, none⟩) (by simp only; omega) _
  have z9 : tb + 1 ≤ (W8.setCell ⟨gm + 1, 7, none⟩ (.int .i64 (ob5 : Int))).heap.size := by have := hb7.size; omega
  have b9 := b8.trans (hb7.mono (by omega))
  have HC9 := Lib.hid (HC8.out.below (hb7.mono (by omega)))
  have HX9 := Lib.hid (HXA.out.other (a := ⟨gm + 1, 7, none⟩) (fun e => by have := (HXA.out.lt _ e).1; simp only at this; omega) (.int .i64 (ob5 : Int)))
  clear HXA
  generalize W8.setCell ⟨gm + 1, 7, none⟩ (.int .i64 (ob5 : Int)) = V9 at *
  clear hb7 HR8 b8 HC8 z8
  refine wp_region_lit ?_
  refine wpList_loadRow rfl rfl (by kernel_rfl) HR9.out.1 (by kernel_rfl) (by kernel_rfl) ?_
  refine wpList_loadRow rfl rfl (by kernel_rfl) HR9.out.2.1 (by kernel_rfl) (by kernel_rfl) ?_
  refine wpList_loadRow rfl rfl (by kernel_rfl) HR9.out.2.2 (by kernel_rfl) (by kernel_rfl) ?_
  go_wp2_with fail
  refine (HLb.out V9 (HC9.out.more (by omega))).mono ?_
  rintro e' V1 ⟨Kb, Ab, cb, rfl, hpKb, hsKb, owKb, h8⟩
  obtain ⟨NY, hNY⟩ : ∃ z, Kb.length = z := ⟨_, rfl⟩
  rw [hNY] at owKb ⊢
  have HSM := Lib.hid (OrdQ.same HQQ.out HPA.out hpKb)
  have HXN := HNX.out
  rw [HXN, hNY] at HSM
  have hNXY := Lib.hid (show NX = NY from HSM.out.2)
  have hNXb : NX ≤ 405600 := by
    have h7 := Qa.l1_len HOa.out ly
    have h8 := HPA.out.length_eq
    omega
  have hNYb : NY ≤ 405600 := by have := hNXY.out; omega
  have HX1 := Lib.hid (HX9.out.below (h8.mono (by omega)))
  have HY1 := Lib.hid (owKb.mono (base' := tb + 1) (by omega))
  have z1 : tb + 1 ≤ V1.heap.size := by have := h8.size; omega
  have b1 := b9.trans (h8.mono (by omega))
  clear h8 owKb hpKb hsKb HXN HR9 HX9 HC9 b9 HQQ HPA HLb HOa HNX hNY z9
  have hmk := run_makeB NY (by have := hNXY.out; omega) V1
  go_upto_region 10 with fail
  clear hmk
  obtain ⟨gu, hgu⟩ : ∃ g, V1.heap.size = g := ⟨_, rfl⟩
  generalize hV2 : World.alloc V1 _ = V2
  have sn2 : V2.heap[gu]? = some (.cells (csB (usedB (keyK Ka) (keyK Kb) 0) NY) 4 (0, 0)) := by
    rw [csB_congr (t := fun _ => false) (fun p _ => usedB_zero), ← made_csB, ← hV2, ← hgu]; exact heap_alloc_new V1 _
  have h2 : Below V1.heap.size V1 V2 := by rw [← hV2]; exact below_alloc (Below.refl _ _) _
  have HX2 := Lib.hid (HX1.out.below h2)
  have HY2 := Lib.hid (HY1.out.below h2)
  have b2 := b1.trans (h2.mono (by omega))
  have z2 : V2.heap.size = gu + 1 := by rw [← hV2, ← hgu]; simp
  have HLX := Lib.hid (show ∀ k, (Value.slice Aa NX ca).ownBlock = some k → k < gu from fun k hk => by rw [← hgu]; exact (HX1.out.lt k hk).2)
  have HLY := Lib.hid (show ∀ k, (Value.slice Ab NY cb).ownBlock = some k → k < gu from fun k hk => by rw [← hgu]; exact (HY1.out.lt k hk).2)
  rw [hgu] at z1 ⊢
  clear hV2 hgu h2 HX1 HY1 b1
  go_wp2_with fail
  go_loopg [13] NX (fun kx s13 wr => ∃ (i : Nat), s13 = .int .i64 (i : Int) ∧ i ≤ NX ∧ NX - i ≤ kx ∧ Hid (SeenW V2 wr gu (csB (usedB (keyK Ka) (keyK Kb) i) NY)))
  case atStart => exact ⟨0, rfl, by omega, by omega, Lib.hid (SeenW.refl sn2)⟩
  case round =>
    obtain ⟨i, rfl, hi, hkx, HS⟩ := hrel
    by_cases hlt : i < NX
    · have hltz : (i : Int) < (NX : Int) := by omega
      obtain ⟨ga, hga, hga1, hga2⟩ := HX2.out.row (by omega)
      subst hga
      have hga3 : ga < gu := HLX.out ga rfl
      obtain ⟨sa, hsa⟩ : ∃ s, Ka[i]?.getD default = s := ⟨_, rfl⟩
      have ka := key4_of HX2.out hlt
      rw [hsa] at ka
      have HSA := Lib.hid (show keyK Ka i = keyS sa by unfold keyK; rw [hsa])
      have KA4 := Lib.hid ka
      clear ka hsa
      obtain ⟨wo, hwo⟩ : ∃ wo, wo = wr := ⟨_, rfl⟩
      subst hwo
      go_wp2_with fail
      go_loopg [14, 15] NY (fun ky s14 s15 wr => ∃ (k : Nat), s15 = .int .i64 (k : Int) ∧ k ≤ NY ∧ NY - k ≤ ky ∧ ((s14 = .bool false ∧ Hid ((∀ k', k' < k → ¬ keyS sa = keyK Kb k') ∧ SeenW V2 wr gu (csB (usedB (keyK Ka) (keyK Kb) i) NY))) ∨ (s14 = .bool true ∧ Hid (SeenW V2 wr gu (csB (usedB (keyK Ka) (keyK Kb) (i + 1)) NY)))))
      case atStart => exact ⟨0, rfl, by omega, by omega, Or.inl ⟨rfl, Lib.hid ⟨fun _ h => absurd h (by omega), HS.out⟩⟩⟩
      case round =>
        clear HS
        obtain ⟨k, rfl, hk, hky, hcs⟩ := hrel
        rcases hcs with ⟨rfl, HS⟩ | ⟨rfl, HS⟩
        · by_cases hlk : k < NY
          · have hlkz : (k : Int) < (NY : Int) := by omega
            obtain ⟨gb, hgb, hgb1, hgb2⟩ := HY2.out.row (by omega)
            subst hgb
            have hgb3 : gb < gu := HLY.out gb rfl
            obtain ⟨sb, hsb⟩ : ∃ s, Kb[k]?.getD default = s := ⟨_, rfl⟩
            have kb := (key4_of HY2.out hlk).below HS.out.2.2 hgb3
            have ka := KA4.out.below HS.out.2.2 hga3
            rw [hsb] at kb
            have HSB := Lib.hid (show keyK Kb k = keyS sb by unfold keyK; rw [hsb])
            clear hsb
            have hun := HS.out.2.seen hlk
            have zw : gu + 1 ≤ wr.heap.size := by have h7 := HS.out.2.2.size; omega
            have WK := wrap_add1 (a := k) (c := k + 1) rfl (by omega)
            by_cases hu : usedB (keyK Ka) (keyK Kb) i k = true
            · rw [hu] at hun
              have HN2 := Lib.hid (show ∀ k', k' < k + 1 → ¬ keyS sa = keyK Kb k' from fun k' h' => by
                rcases Nat.lt_or_ge k' k with h | h
                · exact HS.out.1 k' h
                · have : k' = k := by omega
                  subst this
                  rw [← HSA.out]
                  exact HSM.out.1.skip hlt hu)
              clear hu
              go_wp2_with fail
              refine last_cut (by kernel_rfl) (fun U => U.cell? ⟨gu, k, none⟩ = some (.bool true)) (fun aF a' W' => a' = ((((((((((((((((aF.put (some 61) (.slice (some ⟨gu, 0, none⟩) NY NY)).put (some 62) (.int .i64 (k : Int))).put (some 63) (.pointer (some ⟨gu, k, none⟩))).put (some 64) (.bool true)).put (some 65) (.bool false)).put (some 66) (.bool false)).put (some 67) (undef)).put (some 68) (undef)).put (some 69) (undef)).put (some 70) (undef)).put (some 71) (undef)).put (some 72) (undef)).put (some 73) (undef)).put (some 74) (undef)).put (some 75) (undef)).put (some 76) (.bool false)) ∧ Below wr.heap.size wr W') (hun) (fun hS => ?_) ?_
              · skip
                have hSB : ∀ U : World, Below (wr.heap.size) wr U → U.cell? ⟨gu, k, none⟩ = some (.bool true) := fun U h => ((h.cell (p := ⟨gu, k, none⟩) (by simp only; omega)).trans (hun))
                have bV : Below wr.heap.size wr wr.drew := (Below.refl _ _).drew
                generalize wr.drew = V0 at *
                change wpAnyL _ _ _ _ _ 16 #[false, false, false, false, false, false, false, false, false, false, false, false, false, false, false, false] _ _
                refine wpAnyL_take (i := 0) (v := .slice (some ⟨gu, 0, none⟩) NY NY) (by simp only [List.getElem?_toArray, List.getElem?_cons_succ, List.getElem?_cons_zero]; rfl) (by as_aux_lemma => kernel_rfl) (by as_aux_lemma => kernel_rfl) (by as_aux_lemma => kernel_rfl) (fun _ _ _ h => h) (Or.inl ⟨by rfl, ?_⟩) hS ?_
                · intro U hU
                  have s0 := hU
                  show _ = _
                  kernel_rfl
                simp only [Act.put, List.setIfInBounds_toArray, List.set_cons_zero, List.set_cons_succ]
                refine wpAnyL_take (i := 1) (v := .int .i64 (k : Int)) (by simp only [List.getElem?_toArray, List.getElem?_cons_succ, List.getElem?_cons_zero]; rfl) (by as_aux_lemma => kernel_rfl) (by as_aux_lemma => kernel_rfl) (by as_aux_lemma => kernel_rfl) (fun _ _ _ h => h) (Or.inl ⟨by rfl, ?_⟩) hS ?_
                · intro U hU
                  have s0 := hU
                  show _ = _
                  kernel_rfl
                simp only [Act.put, List.setIfInBounds_toArray, List.set_cons_zero, List.set_cons_succ]
                refine wpAnyL_take (i := 2) (v := .pointer (some ⟨gu, k, none⟩)) (by simp only [List.getElem?_toArray, List.getElem?_cons_succ, List.getElem?_cons_zero]; rfl) (by as_aux_lemma => kernel_rfl) (by as_aux_lemma => kernel_rfl) (by as_aux_lemma => kernel_rfl) (fun _ _ _ h => h) (Or.inl ⟨by rfl, ?_⟩) hS ?_
                · intro U hU
                  have s0 := hU
                  show _ = _
                  go_simp
                simp only [Act.put, List.setIfInBounds_toArray, List.set_cons_zero, List.set_cons_succ]
                refine wpAnyL_take (i := 3) (v := .bool true) (by simp only [List.getElem?_toArray, List.getElem?_cons_succ, List.getElem?_cons_zero]; rfl) (by as_aux_lemma => kernel_rfl) (by as_aux_lemma => kernel_rfl) (by as_aux_lemma => kernel_rfl) (fun _ _ _ h => h) (Or.inl ⟨by rfl, ?_⟩) hS ?_
                · intro U hU
                  have s0 := hU
                  show _ = _
                  exact exec_loadCell rfl rfl s0 (by kernel_rfl)
                simp only [Act.put, List.setIfInBounds_toArray, List.set_cons_zero, List.set_cons_succ]
                refine wpAnyL_take (i := 4) (v := .bool false) (by simp only [List.getElem?_toArray, List.getElem?_cons_succ, List.getElem?_cons_zero]; rfl) (by as_aux_lemma => kernel_rfl) (by as_aux_lemma => kernel_rfl) (by as_aux_lemma => kernel_rfl) (fun _ _ _ h => h) (Or.inl ⟨by rfl, ?_⟩) hS ?_
                · intro U hU
                  have s0 := hU
                  show _ = _
                  go_simp
                simp only [Act.put, List.setIfInBounds_toArray, List.set_cons_zero, List.set_cons_succ]
                refine wpAnyL_take (i := 5) (v := .bool false) (by simp only [List.getElem?_toArray, List.getElem?_cons_succ, List.getElem?_cons_zero]; rfl) (by as_aux_lemma => kernel_rfl) (by as_aux_lemma => kernel_rfl) (by as_aux_lemma => kernel_rfl) (fun _ _ _ h => h) (Or.inl ⟨by rfl, ?_⟩) hS ?_
                · intro U hU
                  have s0 := hU
                  show _ = _
                  kernel_rfl
                simp only [Act.put, List.setIfInBounds_toArray, List.set_cons_zero, List.set_cons_succ]
                refine wpAnyL_take (i := 6) (v := undef) (by simp only [List.getElem?_toArray, List.getElem?_cons_succ, List.getElem?_cons_zero]; rfl) (by as_aux_lemma => kernel_rfl) (by as_aux_lemma => kernel_rfl) (by as_aux_lemma => kernel_rfl) (fun _ _ _ h => h) (Or.inr ⟨by rfl, rfl⟩) hS ?_
                simp only [Act.put, List.setIfInBounds_toArray, List.set_cons_zero, List.set_cons_succ]
                refine wpAnyL_take (i := 7) (v := undef) (by simp only [List.getElem?_toArray, List.getElem?_cons_succ, List.getElem?_cons_zero]; rfl) (by as_aux_lemma => kernel_rfl) (by as_aux_lemma => kernel_rfl) (by as_aux_lemma => kernel_rfl) (fun _ _ _ h => h) (Or.inr ⟨by rfl, rfl⟩) hS ?_
                simp only [Act.put, List.setIfInBounds_toArray, List.set_cons_zero, List.set_cons_succ]
                refine wpAnyL_take (i := 8) (v := undef) (by simp only [List.getElem?_toArray, List.getElem?_cons_succ, List.getElem?_cons_zero]; rfl) (by as_aux_lemma => kernel_rfl) (by as_aux_lemma => kernel_rfl) (by as_aux_lemma => kernel_rfl) (fun _ _ _ h => h) (Or.inr ⟨by rfl, rfl⟩) hS ?_
                simp only [Act.put, List.setIfInBounds_toArray, List.set_cons_zero, List.set_cons_succ]
                refine wpAnyL_take (i := 9) (v := undef) (by simp only [List.getElem?_toArray, List.getElem?_cons_succ, List.getElem?_cons_zero]; rfl) (by as_aux_lemma => kernel_rfl) (by as_aux_lemma => kernel_rfl) (by as_aux_lemma => kernel_rfl) (fun _ _ _ h => h) (Or.inr ⟨by rfl, rfl⟩) hS ?_
                simp only [Act.put, List.setIfInBounds_toArray, List.set_cons_zero, List.set_cons_succ]
                refine wpAnyL_take (i := 10) (v := undef) (by simp only [List.getElem?_toArray, List.getElem?_cons_succ, List.getElem?_cons_zero]; rfl) (by as_aux_lemma => kernel_rfl) (by as_aux_lemma => kernel_rfl) (by as_aux_lemma => kernel_rfl) (fun _ _ _ h => h) (Or.inr ⟨by rfl, rfl⟩) hS ?_
                simp only [Act.put, List.setIfInBounds_toArray, List.set_cons_zero, List.set_cons_succ]
                refine wpAnyL_take (i := 11) (v := undef) (by simp only [List.getElem?_toArray, List.getElem?_cons_succ, List.getElem?_cons_zero]; rfl) (by as_aux_lemma => kernel_rfl) (by as_aux_lemma => kernel_rfl) (by as_aux_lemma => kernel_rfl) (fun _ _ _ h => h) (Or.inr ⟨by rfl, rfl⟩) hS ?_
                simp only [Act.put, List.setIfInBounds_toArray, List.set_cons_zero, List.set_cons_succ]
                refine wpAnyL_take (i := 12) (v := undef) (by simp only [List.getElem?_toArray, List.getElem?_cons_succ, List.getElem?_cons_zero]; rfl) (by as_aux_lemma => kernel_rfl) (by as_aux_lemma => kernel_rfl) (by as_aux_lemma => kernel_rfl) (fun _ _ _ h => h) (Or.inr ⟨by rfl, rfl⟩) hS ?_
                simp only [Act.put, List.setIfInBounds_toArray, List.set_cons_zero, List.set_cons_succ]
                refine wpAnyL_take (i := 13) (v := undef) (by simp only [List.getElem?_toArray, List.getElem?_cons_succ, List.getElem?_cons_zero]; rfl) (by as_aux_lemma => kernel_rfl) (by as_aux_lemma => kernel_rfl) (by as_aux_lemma => kernel_rfl) (fun _ _ _ h => h) (Or.inr ⟨by rfl, rfl⟩) hS ?_
                simp only [Act.put, List.setIfInBounds_toArray, List.set_cons_zero, List.set_cons_succ]
                refine wpAnyL_take (i := 14) (v := undef) (by simp only [List.getElem?_toArray, List.getElem?_cons_succ, List.getElem?_cons_zero]; rfl) (by as_aux_lemma => kernel_rfl) (by as_aux_lemma => kernel_rfl) (by as_aux_lemma => kernel_rfl) (fun _ _ _ h => h) (Or.inr ⟨by rfl, rfl⟩) hS ?_
                simp only [Act.put, List.setIfInBounds_toArray, List.set_cons_zero, List.set_cons_succ]
                refine wpAnyL_take (i := 15) (v := .bool false) (by simp only [List.getElem?_toArray, List.getElem?_cons_succ, List.getElem?_cons_zero]; rfl) (by as_aux_lemma => kernel_rfl) (by as_aux_lemma => kernel_rfl) (by as_aux_lemma => kernel_rfl) (fun _ _ _ h => h) (Or.inl ⟨by rfl, ?_⟩) hS ?_
                · intro U hU
                  have s0 := hU
                  show _ = _
                  kernel_rfl
                simp only [Act.put, List.setIfInBounds_toArray, List.set_cons_zero, List.set_cons_succ]
                refine wpAnyL_done (by as_aux_lemma => kernel_rfl) ?_ _
                simp only [OnlyN]
                refine ⟨?_, bV⟩
                (try simp only [Act.put, List.setIfInBounds_toArray, List.set_cons_zero, List.set_cons_succ])
              rintro a' Wa ⟨rfl, ha⟩
              simp only [Act.put, List.setIfInBounds_toArray, List.set_cons_zero, List.set_cons_succ]
              have HSa := Lib.hid (And.intro HN2.out (HS.out.2.quiet ha (by omega)))
              clear HS ha hun ka kb HN2
              go_wp2_with fail
              go_roundg (NY - (k + 1))
              case measure => omega
              case rel => exact ⟨k + 1, by go_num, by omega, Nat.le_refl _, Or.inl ⟨rfl, HSa⟩⟩
            · rw [show usedB (keyK Ka) (keyK Kb) i k = false by simpa using hu] at hun
              have hfr : ∀ V : World, Below wr.heap.size wr V → V.frozen? ⟨gu, k, none⟩ = false := fun V hV => (HS.out.2.quiet hV (by omega)).free
              clear hu
              obtain ⟨eqv, heq⟩ : ∃ z, (keyS sa == keyS sb) = z := ⟨_, rfl⟩
              go_wp2_with fail
              refine last_cut (by kernel_rfl) (fun U => U.cell? ⟨gu, k, none⟩ = some (.bool false) ∧ Key4 U ga (i * 4) (.int .i64 sa.ly) (.int .i64 sa.rs) (.int .i64 sa.cm) (.int .i64 sa.pc) ∧ Key4 U gb (k * 4) (.int .i64 sb.ly) (.int .i64 sb.rs) (.int .i64 sb.cm) (.int .i64 sb.pc)) (fun aF a' W' => a' = ((((((((((((((((aF.put (some 61) (.slice (some ⟨gu, 0, none⟩) NY NY)).put (some 62) (.int .i64 (k : Int))).put (some 63) (.pointer (some ⟨gu, k, none⟩))).put (some 64) (.bool false)).put (some 65) (.bool true)).put (some 66) (.bool true)).put (some 67) (.slice (some ⟨ga, 0, none⟩) NX ca)).put (some 68) (.int .i64 (i : Int))).put (some 69) (.pointer (some ⟨ga, i * 4, none⟩))).put (some 70) (.agg #[.int .i64 sa.ly, .int .i64 sa.rs, .int .i64 sa.cm, .int .i64 sa.pc])).put (some 71) (.slice (some ⟨gb, 0, none⟩) NY cb)).put (some 72) (.int .i64 (k : Int))).put (some 73) (.pointer (some ⟨gb, k * 4, none⟩))).put (some 74) (.agg #[.int .i64 sb.ly, .int .i64 sb.rs, .int .i64 sb.cm, .int .i64 sb.pc])).put (some 75) (.bool eqv)).put (some 76) (.bool eqv)) ∧ Below wr.heap.size wr W') ⟨hun, ka, kb⟩ (fun hS => ?_) ?_
              · skip
                have hSB : ∀ U : World, Below (wr.heap.size) wr U → U.cell? ⟨gu, k, none⟩ = some (.bool false) ∧ Key4 U ga (i * 4) (.int .i64 sa.ly) (.int .i64 sa.rs) (.int .i64 sa.cm) (.int .i64 sa.pc) ∧ Key4 U gb (k * 4) (.int .i64 sb.ly) (.int .i64 sb.rs) (.int .i64 sb.cm) (.int .i64 sb.pc) := fun U h => ⟨(h.cell (p := ⟨gu, k, none⟩) (by simp only; omega)).trans (hun), (ka).below (h) (by omega), (kb).below (h) (by omega)⟩
                have bV : Below wr.heap.size wr wr.drew := (Below.refl _ _).drew
                generalize wr.drew = V0 at *
                change wpAnyL _ _ _ _ _ 16 #[false, false, false, false, false, false, false, false, false, false, false, false, false, false, false, false] _ _
                refine wpAnyL_take (i := 0) (v := .slice (some ⟨gu, 0, none⟩) NY NY) (by simp only [List.getElem?_toArray, List.getElem?_cons_succ, List.getElem?_cons_zero]; rfl) (by as_aux_lemma => kernel_rfl) (by as_aux_lemma => kernel_rfl) (by as_aux_lemma => kernel_rfl) (fun _ _ _ h => h) (Or.inl ⟨by rfl, ?_⟩) hS ?_
                · intro U hU
                  obtain ⟨s0, s1, s2⟩ := hU
                  kernel_rfl
                simp only [Act.put, List.setIfInBounds_toArray, List.set_cons_zero, List.set_cons_succ]
                refine wpAnyL_take (i := 1) (v := .int .i64 (k : Int)) (by simp only [List.getElem?_toArray, List.getElem?_cons_succ, List.getElem?_cons_zero]; rfl) (by as_aux_lemma => kernel_rfl) (by as_aux_lemma => kernel_rfl) (by as_aux_lemma => kernel_rfl) (fun _ _ _ h => h) (Or.inl ⟨by rfl, ?_⟩) hS ?_
                · intro U hU
                  obtain ⟨s0, s1, s2⟩ := hU
                  kernel_rfl
                simp only [Act.put, List.setIfInBounds_toArray, List.set_cons_zero, List.set_cons_succ]
                refine wpAnyL_take (i := 2) (v := .pointer (some ⟨gu, k, none⟩)) (by simp only [List.getElem?_toArray, List.getElem?_cons_succ, List.getElem?_cons_zero]; rfl) (by as_aux_lemma => kernel_rfl) (by as_aux_lemma => kernel_rfl) (by as_aux_lemma => kernel_rfl) (fun _ _ _ h => h) (Or.inl ⟨by rfl, ?_⟩) hS ?_
                · intro U hU
                  obtain ⟨s0, s1, s2⟩ := hU
                  go_simp
                simp only [Act.put, List.setIfInBounds_toArray, List.set_cons_zero, List.set_cons_succ]
                refine wpAnyL_take (i := 3) (v := .bool false) (by simp only [List.getElem?_toArray, List.getElem?_cons_succ, List.getElem?_cons_zero]; rfl) (by as_aux_lemma => kernel_rfl) (by as_aux_lemma => kernel_rfl) (by as_aux_lemma => kernel_rfl) (fun _ _ _ h => h) (Or.inl ⟨by rfl, ?_⟩) hS ?_
                · intro U hU
                  obtain ⟨s0, s1, s2⟩ := hU
                  exact exec_loadCell rfl rfl s0 (by kernel_rfl)
                simp only [Act.put, List.setIfInBounds_toArray, List.set_cons_zero, List.set_cons_succ]
                refine wpAnyL_take (i := 4) (v := .bool true) (by simp only [List.getElem?_toArray, List.getElem?_cons_succ, List.getElem?_cons_zero]; rfl) (by as_aux_lemma => kernel_rfl) (by as_aux_lemma => kernel_rfl) (by as_aux_lemma => kernel_rfl) (fun _ _ _ h => h) (Or.inl ⟨by rfl, ?_⟩) hS ?_
                · intro U hU
                  obtain ⟨s0, s1, s2⟩ := hU
                  go_simp
                simp only [Act.put, List.setIfInBounds_toArray, List.set_cons_zero, List.set_cons_succ]
                refine wpAnyL_take (i := 5) (v := .bool true) (by simp only [List.getElem?_toArray, List.getElem?_cons_succ, List.getElem?_cons_zero]; rfl) (by as_aux_lemma => kernel_rfl) (by as_aux_lemma => kernel_rfl) (by as_aux_lemma => kernel_rfl) (fun _ _ _ h => h) (Or.inl ⟨by rfl, ?_⟩) hS ?_
                · intro U hU
                  obtain ⟨s0, s1, s2⟩ := hU
                  kernel_rfl
                simp only [Act.put, List.setIfInBounds_toArray, List.set_cons_zero, List.set_cons_succ]
                refine wpAnyL_take (i := 6) (v := .slice (some ⟨ga, 0, none⟩) NX ca) (by simp only [List.getElem?_toArray, List.getElem?_cons_succ, List.getElem?_cons_zero]; rfl) (by as_aux_lemma => kernel_rfl) (by as_aux_lemma => kernel_rfl) (by as_aux_lemma => kernel_rfl) (fun _ _ _ h => h) (Or.inl ⟨by rfl, ?_⟩) hS ?_
                · intro U hU
                  obtain ⟨s0, s1, s2⟩ := hU
                  kernel_rfl
                simp only [Act.put, List.setIfInBounds_toArray, List.set_cons_zero, List.set_cons_succ]
                refine wpAnyL_take (i := 7) (v := .int .i64 (i : Int)) (by simp only [List.getElem?_toArray, List.getElem?_cons_succ, List.getElem?_cons_zero]; rfl) (by as_aux_lemma => kernel_rfl) (by as_aux_lemma => kernel_rfl) (by as_aux_lemma => kernel_rfl) (fun _ _ _ h => h) (Or.inl ⟨by rfl, ?_⟩) hS ?_
                · intro U hU
                  obtain ⟨s0, s1, s2⟩ := hU
                  kernel_rfl
                simp only [Act.put, List.setIfInBounds_toArray, List.set_cons_zero, List.set_cons_succ]
                refine wpAnyL_take (i := 8) (v := .pointer (some ⟨ga, i * 4, none⟩)) (by simp only [List.getElem?_toArray, List.getElem?_cons_succ, List.getElem?_cons_zero]; rfl) (by as_aux_lemma => kernel_rfl) (by as_aux_lemma => kernel_rfl) (by as_aux_lemma => kernel_rfl) (fun _ _ _ h => h) (Or.inl ⟨by rfl, ?_⟩) hS ?_
                · intro U hU
                  obtain ⟨s0, s1, s2⟩ := hU
                  go_simp
                simp only [Act.put, List.setIfInBounds_toArray, List.set_cons_zero, List.set_cons_succ]
                refine wpAnyL_take (i := 9) (v := .agg #[.int .i64 sa.ly, .int .i64 sa.rs, .int .i64 sa.cm, .int .i64 sa.pc]) (by simp only [List.getElem?_toArray, List.getElem?_cons_succ, List.getElem?_cons_zero]; rfl) (by as_aux_lemma => kernel_rfl) (by as_aux_lemma => kernel_rfl) (by as_aux_lemma => kernel_rfl) (fun _ _ _ h => h) (Or.inl ⟨by rfl, ?_⟩) hS ?_
                · intro U hU
                  obtain ⟨s0, s1, s2⟩ := hU
                  exact exec_loadK rfl rfl (by kernel_rfl) (by kernel_rfl) s1.load
                simp only [Act.put, List.setIfInBounds_toArray, List.set_cons_zero, List.set_cons_succ]
                refine wpAnyL_take (i := 10) (v := .slice (some ⟨gb, 0, none⟩) NY cb) (by simp only [List.getElem?_toArray, List.getElem?_cons_succ, List.getElem?_cons_zero]; rfl) (by as_aux_lemma => kernel_rfl) (by as_aux_lemma => kernel_rfl) (by as_aux_lemma => kernel_rfl) (fun _ _ _ h => h) (Or.inl ⟨by rfl, ?_⟩) hS ?_
                · intro U hU
                  obtain ⟨s0, s1, s2⟩ := hU
                  kernel_rfl
                simp only [Act.put, List.setIfInBounds_toArray, List.set_cons_zero, List.set_cons_succ]
                refine wpAnyL_take (i := 11) (v := .int .i64 (k : Int)) (by simp only [List.getElem?_toArray, List.getElem?_cons_succ, List.getElem?_cons_zero]; rfl) (by as_aux_lemma => kernel_rfl) (by as_aux_lemma => kernel_rfl) (by as_aux_lemma => kernel_rfl) (fun _ _ _ h => h) (Or.inl ⟨by rfl, ?_⟩) hS ?_
                · intro U hU
                  obtain ⟨s0, s1, s2⟩ := hU
                  kernel_rfl
                simp only [Act.put, List.setIfInBounds_toArray, List.set_cons_zero, List.set_cons_succ]
                refine wpAnyL_take (i := 12) (v := .pointer (some ⟨gb, k * 4, none⟩)) (by simp only [List.getElem?_toArray, List.getElem?_cons_succ, List.getElem?_cons_zero]; rfl) (by as_aux_lemma => kernel_rfl) (by as_aux_lemma => kernel_rfl) (by as_aux_lemma => kernel_rfl) (fun _ _ _ h => h) (Or.inl ⟨by rfl, ?_⟩) hS ?_
                · intro U hU
                  obtain ⟨s0, s1, s2⟩ := hU
                  go_simp
                simp only [Act.put, List.setIfInBounds_toArray, List.set_cons_zero, List.set_cons_succ]
                refine wpAnyL_take (i := 13) (v := .agg #[.int .i64 sb.ly, .int .i64 sb.rs, .int .i64 sb.cm, .int .i64 sb.pc]) (by simp only [List.getElem?_toArray, List.getElem?_cons_succ, List.getElem?_cons_zero]; rfl) (by as_aux_lemma => kernel_rfl) (by as_aux_lemma => kernel_rfl) (by as_aux_lemma => kernel_rfl) (fun _ _ _ h => h) (Or.inl ⟨by rfl, ?_⟩) hS ?_
                · intro U hU
                  obtain ⟨s0, s1, s2⟩ := hU
                  exact exec_loadK rfl rfl (by kernel_rfl) (by kernel_rfl) s2.load
                simp only [Act.put, List.setIfInBounds_toArray, List.set_cons_zero, List.set_cons_succ]
                refine wpAnyL_take (i := 14) (v := .bool eqv) (by simp only [List.getElem?_toArray, List.getElem?_cons_succ, List.getElem?_cons_zero]; rfl) (by as_aux_lemma => kernel_rfl) (by as_aux_lemma => kernel_rfl) (by as_aux_lemma => kernel_rfl) (fun _ _ _ h => h) (Or.inl ⟨by rfl, ?_⟩) hS ?_
                · intro U hU
                  obtain ⟨s0, s1, s2⟩ := hU
                  go_simp
                  rw [← heq]
                  unfold keyS
                  by_cases h1 : sa.ly = sb.ly <;> by_cases h2 : sa.rs = sb.rs <;> by_cases h3 : sa.cm = sb.cm <;> by_cases h4 : sa.pc = sb.pc <;> simp [h1, h2, h3, h4]
                simp only [Act.put, List.setIfInBounds_toArray, List.set_cons_zero, List.set_cons_succ]
                refine wpAnyL_take (i := 15) (v := .bool eqv) (by simp only [List.getElem?_toArray, List.getElem?_cons_succ, List.getElem?_cons_zero]; rfl) (by as_aux_lemma => kernel_rfl) (by as_aux_lemma => kernel_rfl) (by as_aux_lemma => kernel_rfl) (fun _ _ _ h => h) (Or.inl ⟨by rfl, ?_⟩) hS ?_
                · intro U hU
                  obtain ⟨s0, s1, s2⟩ := hU
                  kernel_rfl
                simp only [Act.put, List.setIfInBounds_toArray, List.set_cons_zero, List.set_cons_succ]
                refine wpAnyL_done (by as_aux_lemma => kernel_rfl) ?_ _
                simp only [OnlyN]
                refine ⟨?_, bV⟩
                (try simp only [Act.put, List.setIfInBounds_toArray, List.set_cons_zero, List.set_cons_succ])
              rintro a' Wa ⟨rfl, ha⟩
              simp only [Act.put, List.setIfInBounds_toArray, List.set_cons_zero, List.set_cons_succ]
              have HSa := Lib.hid (And.intro HS.out.1 (HS.out.2.quiet ha (by omega)))
              have hfa := hfr _ ha
              have hua := (HSa.out.2.seen hlk)
              clear HS ha hun ka kb hfr
              cases eqv with
              | false =>
                have HN2 := Lib.hid (show ∀ k', k' < k + 1 → ¬ keyS sa = keyK Kb k' from fun k' h' => by
                  rcases Nat.lt_or_ge k' k with h | h
                  · exact HSa.out.1 k' h
                  · have : k' = k := by omega
                    subst this
                    rw [HSB.out]
                    simpa using heq)
                have HSc := Lib.hid (And.intro HN2.out HSa.out.2)
                clear heq hfa hua HSa HN2
                go_wp2_with fail
                go_roundg (NY - (k + 1))
                case measure => omega
                case rel => exact ⟨k + 1, by go_num, by omega, Nat.le_refl _, Or.inl ⟨rfl, HSc⟩⟩
              | true =>
                have HSc := Lib.hid ((HSa.out.2.set hlk).congr (HSM.out.1.hit hlk (by rw [HSA.out, HSB.out]; simpa using heq)))
                clear heq HSa
                go_wp2_with fail
                go_roundg (NY - (k + 1))
                case measure => omega
                case rel => exact ⟨k + 1, by go_num, by omega, Nat.le_refl _, Or.inr ⟨rfl, HSc⟩⟩
          · have hlkz : ¬ (k : Int) < (NY : Int) := by omega
            exfalso
            obtain ⟨j, hj, e⟩ := HSM.out.1.ex i hlt
            exact HS.out.1 j (by omega) (by rw [← HSA.out]; exact e.symm)
        · have WI := wrap_add1 (a := i) (c := i + 1) rfl (by omega)
          by_cases hlk : k < NY
          · have hlkz : (k : Int) < (NY : Int) := by omega
            go_wp2_with fail
            go_roundg (NX - (i + 1))
            case measure => omega
            case rel => exact ⟨i + 1, by go_num, by omega, Nat.le_refl _, HS⟩
          · have hlkz : ¬ (k : Int) < (NY : Int) := by omega
            go_wp2_with fail
            go_roundg (NX - (i + 1))
            case measure => omega
            case rel => exact ⟨i + 1, by go_num, by omega, Nat.le_refl _, HS⟩
    · have hltz : ¬ (i : Int) < (NX : Int) := by omega
      have hez : (NX : Int) = (NY : Int) := by have := hNXY.out; omega
      have bz := b2.trans (HS.out.2.mono (by omega))
      go_wp2_with fail
      go_ret
      exact ⟨by go_num, bz⟩
end Go.Proofs.Ytpgkdpoehkdhcaa
