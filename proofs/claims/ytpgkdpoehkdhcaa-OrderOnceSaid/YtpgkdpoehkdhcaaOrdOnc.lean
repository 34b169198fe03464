/- THE WALK of waveletlaw16.OrderOnce. -/
import Derived.Test.YtpgkdpoehkdhcaaOrdM
import Derived.Test.YtpgkdpoehkdhcaaRTiles
import Derived.Deep.LoopGhost
import Derived.Deep.CutBlock
import Derived.Laws.MakeOwn
namespace Go.Proofs.Ytpgkdpoehkdhcaa
open Go.RowKit
attribute [local go_sem] opv opnd
set_option maxHeartbeats 40000000
set_option linter.unusedVariables false
set_option linter.unusedSimpArgs false
set_option maxRecDepth 1000000
/-- a row of marks -/
def csB (s : Nat → Bool) (N : Nat) : Array Value := ((List.range N).map fun p => Value.bool (s p)).toArray
theorem csB_congr {s t : Nat → Bool} {N : Nat} (h : ∀ p, p < N → s p = t p) : csB s N = csB t N := by
  unfold csB
  congr 1
  apply List.map_congr_left
  intro p hp
  rw [h p (List.mem_range.1 hp)]
theorem csB_size (s : Nat → Bool) (N : Nat) : (csB s N).size = N := by simp [csB]
theorem csB_get {s : Nat → Bool} {N p : Nat} (hp : p < N) : (csB s N)[p]? = some (.bool (s p)) := by
  simp [csB, hp]
theorem csB_set {s : Nat → Bool} {N p : Nat} (hp : p < N) : (csB s N).setIfInBounds p (.bool true) = csB (fun q => s q || decide (q = p)) N := by
  apply Array.ext
  · simp [csB_size]
  · intro i h1 h2
    have hi : i < N := by simpa [csB_size] using h2
    have e2 : (csB (fun q => s q || decide (q = p)) N)[i] = .bool (s i || decide (i = p)) := by
      simp [csB]
    rw [e2, Array.getElem_setIfInBounds (by simpa [csB_size] using hi)]
    by_cases h : p = i
    · subst h; simp
    · rw [if_neg h]
      have : ¬ i = p := fun e => h e.symm
      simp [csB, this]
/-- nothing but block gs has changed; it has these cells now -/
def SeenW (w w' : World) (gs : Nat) (cs : Array Value) : Prop :=
  w'.heap[gs]? = some (.cells cs 4 (0, 0)) ∧ Below gs w w'
theorem SeenW.refl {w : World} {gs : Nat} {cs : Array Value} (h : w.heap[gs]? = some (.cells cs 4 (0, 0))) : SeenW w w gs cs := ⟨h, Below.refl _ _⟩
theorem SeenW.quiet {w w' w'' : World} {gs : Nat} {cs : Array Value} (h : SeenW w w' gs cs) (hb : Below w'.heap.size w' w'') (hlt : gs < w'.heap.size) : SeenW w w'' gs cs :=
  ⟨(hb.block gs hlt).trans h.1, h.2.trans (hb.mono (Nat.le_of_lt hlt))⟩
theorem SeenW.set {w w' : World} {gs p N : Nat} {s : Nat → Bool} (h : SeenW w w' gs (csB s N)) (hp : p < N) : SeenW w (w'.setCell ⟨gs, p, none⟩ (.bool true)) gs (csB (fun q => s q || decide (q = p)) N) :=
  ⟨by rw [← csB_set hp]; exact heap_setCell_same w' gs p _ _ _ h.1, h.2.setCell (p := ⟨gs, p, none⟩) (Nat.le_refl _) _⟩
theorem SeenW.congr {w w' : World} {gs N : Nat} {s t : Nat → Bool} (h : SeenW w w' gs (csB s N)) (e : ∀ p, p < N → s p = t p) : SeenW w w' gs (csB t N) := by rw [← csB_congr e]; exact h
theorem SeenW.seen {w w' : World} {gs p N : Nat} {s : Nat → Bool} (h : SeenW w w' gs (csB s N)) (hp : p < N) : w'.cell? ⟨gs, p, none⟩ = some (.bool (s p)) := by
  rw [cell_of_row _ _ p _ _ (0, 0) h.1]
  exact csB_get hp
theorem SeenW.free {w w' : World} {gs p : Nat} {cs : Array Value} (h : SeenW w w' gs cs) : w'.frozen? ⟨gs, p, none⟩ = false := frozen_of_row _ _ p _ _ h.1
theorem made_csB (N : Nat) : madeCells #[.bool false] N = csB (fun _ => false) N := by
  apply Array.ext'
  rw [toList_madeCells_one]
  simp [csB, List.map_const']
theorem run_makeB (N : Nat) (hN : N ≤ 16777216) (w : World) :
    (Instr.makeSlice 51 (.int .i64 (N : Int)) (.int .i64 (N : Int))).run Try.prog w = .ok (.slice (some ⟨w.heap.size, 0, none⟩) N N) (w.alloc (.cells (madeCells #[.bool false] N) 4)) := by
  have hinfo : (Try.prog.info? 4).map (fun i => (i.zero, i.size, i.bytes)) = some (some (.bool false), 1, 1) := by kernel_rfl
  rcases hi : Try.prog.info? 4 with _ | i
  · rw [hi] at hinfo; cases hinfo
  · rw [hi] at hinfo
    simp only [Option.map_some, Option.some.injEq, Prod.mk.injEq] at hinfo
    obtain ⟨hz0, hz1, hz2⟩ := hinfo
    have hr := run_make (P := Try.prog) w 51 4 i (.bool false) (by kernel_rfl) hi hz0 .i64 .i64 N N (by omega) (by omega) (by rw [hz2]; omega) (by omega)
    simpa [hz1, Value.cells] using hr
/-- a rectangle whose numbers are natural and small -/
theorem tile_nat {X Y O P tx ty : Nat} (hX : X ≤ 64) (hY : Y ≤ 64) (ho : O ≤ X) (hp : P ≤ Y) (h1 : 1 ≤ tx) (h2 : 1 ≤ ty) {i : Nat} (hi : i < byN X tx * byN Y ty) :
    ∃ a b c d : Nat, tileR X Y O P tx ty (gridAt (byN X tx) i) = ⟨(a : Int), (b : Int), (c : Int), (d : Int)⟩ ∧ a ≤ 64 ∧ b ≤ 64 ∧ c ≤ 64 ∧ d ≤ 64 := by
  have hW0 : 0 < byN X tx := by
    rcases Nat.eq_zero_or_pos (byN X tx) with h | h
    · rw [h, Nat.zero_mul] at hi; omega
    · exact h
  have hx := Nat.mod_lt i hW0
  have hy : i / byN X tx < byN Y ty := by rw [Nat.div_lt_iff_lt_mul hW0, Nat.mul_comm]; exact hi
  unfold gridAt
  generalize i % byN X tx = x at *
  generalize i / byN X tx = y at *
  have key : ∀ n d k : Nat, 1 ≤ d → k < byN n d → k * d < n := fun n d k hd hk => by
    unfold byN at hk
    have h1 : k + 1 ≤ (n + d - 1) / d := hk
    rw [Nat.le_div_iff_mul_le (by omega), Nat.add_mul, Nat.one_mul] at h1
    omega
  have kx := key X tx x h1 hx
  have ky := key Y ty y h2 hy
  unfold tileR bothR mxI mnI
  simp only
  refine ⟨if O < x * tx then x * tx else O, if P < y * ty then y * ty else P, if (x + 1) * tx < X then (x + 1) * tx else X, if (y + 1) * ty < Y then (y + 1) * ty else Y, ?_, by split <;> omega, by split <;> omega, by split <;> omega, by split <;> omega⟩
  have e1 : (x : Int) * (tx : Int) = ((x * tx : Nat) : Int) := (Int.natCast_mul _ _).symm
  have e2 : (y : Int) * (ty : Int) = ((y * ty : Nat) : Int) := (Int.natCast_mul _ _).symm
  have e3 : ((x : Int) + 1) * (tx : Int) = (((x + 1) * tx : Nat) : Int) := by rw [Int.natCast_mul]; rfl
  have e4 : ((y : Int) + 1) * (ty : Int) = (((y + 1) * ty : Nat) : Int) := by rw [Int.natCast_mul]; rfl
  rw [e1, e2, e3, e4]
  generalize x * tx = m1
  generalize y * ty = m2
  generalize (x + 1) * tx = m3
  generalize (y + 1) * ty = m4
  congr 1 <;> (split <;> split <;> omega)
/-- which of a resolution's packets stood before the j-th -/
def markB (K : List Spot) (c r ly j a : Nat) : Bool := (List.range j).any (fun i => decide ((K[i]?.getD default).cm = (c : Int) ∧ (K[i]?.getD default).rs = (r : Int) ∧ (K[i]?.getD default).pc * (ly : Int) + (K[i]?.getD default).ly = (a : Int)))
section
variable {K : List Spot} {c r ly j a : Nat}
theorem markB_iff : markB K c r ly j a = true ↔ ∃ i, i < j ∧ (K[i]?.getD default).cm = (c : Int) ∧ (K[i]?.getD default).rs = (r : Int) ∧ (K[i]?.getD default).pc * (ly : Int) + (K[i]?.getD default).ly = (a : Int) := by
  simp [markB]
theorem markB_zero : markB K c r ly 0 a = false := by simp [markB]
theorem markB_succ : markB K c r ly (j + 1) a = (markB K c r ly j a || decide ((K[j]?.getD default).cm = (c : Int) ∧ (K[j]?.getD default).rs = (r : Int) ∧ (K[j]?.getD default).pc * (ly : Int) + (K[j]?.getD default).ly = (a : Int))) := by
  unfold markB
  rw [List.range_succ, List.any_append]
  simp
theorem markB_skip (h : ¬ ((K[j]?.getD default).cm = (c : Int) ∧ (K[j]?.getD default).rs = (r : Int))) : ∀ p, markB K c r ly j p = markB K c r ly (j + 1) p := fun p => by
  rw [markB_succ, decide_eq_false (fun h' => h ⟨h'.1, h'.2.1⟩), Bool.or_false]
theorem markB_hit (h1 : (K[j]?.getD default).cm = (c : Int)) (h2 : (K[j]?.getD default).rs = (r : Int)) (h3 : (K[j]?.getD default).pc * (ly : Int) + (K[j]?.getD default).ly = (a : Int)) : ∀ p, (markB K c r ly j p || decide (p = a)) = markB K c r ly (j + 1) p := fun p => by
  rw [markB_succ]
  congr 1
  rw [h1, h2, h3]
  by_cases h : p = a
  · simp [h]
  · have : ¬ (a : Int) = (p : Int) := by omega
    simp [h, this]
theorem packed {p l p' l' n : Nat} (h1 : l < n) (h2 : l' < n) (e : p * n + l = p' * n + l') : p = p' ∧ l = l' := by
  rcases Nat.lt_trichotomy p p' with h | h | h
  · have := Nat.mul_le_mul_right n (show p + 1 ≤ p' from h)
    rw [Nat.add_mul, Nat.one_mul] at this
    omega
  · subst h
    omega
  · have := Nat.mul_le_mul_right n (show p' + 1 ≤ p from h)
    rw [Nat.add_mul, Nat.one_mul] at this
    omega
theorem markB_free {q : OrdQ} (hp : K.Perm (q.l1 ly)) (hj : j < K.length) (h1 : (K[j]?.getD default).cm = (c : Int)) (h2 : (K[j]?.getD default).rs = (r : Int)) :
    ∃ p l : Nat, (K[j]?.getD default).pc = (p : Int) ∧ (K[j]?.getD default).ly = (l : Int) ∧ l < ly ∧ p < q.w r c * q.h r c ∧ p * ly + l < q.w r c * q.h r c * ly ∧ markB K c r ly j (p * ly + l) = false := by
  have spell : ∀ i, i < K.length → (K[i]?.getD default).cm = (c : Int) → (K[i]?.getD default).rs = (r : Int) → ∃ l p : Nat, l < ly ∧ p < q.w r c * q.h r c ∧ K[i]? = some (q.pk l r c p) := fun i hi g1 g2 => by
    rw [List.getElem?_eq_getElem hi] at g1 g2 ⊢
    obtain ⟨l, r', c', p, hl, hr, hc, hk, e⟩ := OrdQ.mem.1 (hp.mem_iff.1 (List.getElem_mem hi))
    simp only [Option.getD_some] at g1 g2
    rw [e, (q.pk_key _ _ _ _).2.2.1] at g1
    rw [e, (q.pk_key _ _ _ _).2.1] at g2
    have e1 : c' = c := by omega
    have e2 : r' = r := by omega
    subst e1
    subst e2
    exact ⟨l, p, hl, hk, by rw [e]⟩
  obtain ⟨l, p, hl, hk, e⟩ := spell j hj h1 h2
  refine ⟨p, l, by rw [e]; exact (q.pk_key _ _ _ _).2.2.2, by rw [e]; exact (q.pk_key _ _ _ _).1, hl, hk, ?_, ?_⟩
  · have := Nat.mul_le_mul_right ly (show p + 1 ≤ q.w r c * q.h r c from hk)
    rw [Nat.add_mul, Nat.one_mul] at this
    omega
  · rw [Bool.eq_false_iff]
    intro hm
    obtain ⟨i, hi, g1, g2, g3⟩ := markB_iff.1 hm
    have hi2 : i < K.length := by omega
    obtain ⟨l2, p2, hl2, hk2, e2⟩ := spell i hi2 g1 g2
    rw [e2] at g3
    simp only [Option.getD_some] at g3
    rw [(q.pk_key _ _ _ _).2.2.2, (q.pk_key _ _ _ _).1] at g3
    have g4 : p2 * ly + l2 = p * ly + l := by exact_mod_cast g3
    obtain ⟨rfl, rfl⟩ := packed hl2 hl g4
    have hnd : K.Nodup := hp.nodup_iff.2 (q.l1_nodup ly)
    have h5 : K[i] = K[j] := by
      rw [List.getElem?_eq_getElem hi2] at e2
      rw [List.getElem?_eq_getElem hj] at e
      exact (Option.some.inj e2).trans (Option.some.inj e).symm
    have := (List.getElem_inj hnd).1 h5
    omega
end
theorem ordOnc_walk (fX fY fOx fOy fC fD fS : Int) (fsg frct fsop feph : Bool) (fTx fTy fL fcw fch fP fSt fO fLy : Int) (NA : Option Addr) (nN cN : Nat) (Nf : Nat → Int) (o : Int) (w : World) (hN : IntsAt w w.heap.size NA nN Nf) (hNf : ∀ k, k < nN → -9223372036854775808 ≤ Nf k ∧ Nf k ≤ 9223372036854775807) (hNn : nN ≤ 9223372036854775807) (hSb : -9223372036854775808 ≤ fS ∧ fS ≤ 9223372036854775807) (ho : -9223372036854775808 ≤ o ∧ o ≤ 9223372036854775807) :
    Calls Try.prog 4 #[.agg #[.int .i64 fX, .int .i64 fY, .int .i64 fOx, .int .i64 fOy, .int .i64 fC, .int .i64 fD, .int .i64 fS, .bool fsg, .bool frct, .bool fsop, .bool feph, .int .i64 fTx, .int .i64 fTy, .int .i64 fL, .int .i64 fcw, .int .i64 fch, .int .i64 fP, .int .i64 fSt, .int .i64 fO, .int .i64 fLy, .slice NA nN cN], .int .i64 o] w fun e w' => e = .returned (.bool true) ∧ Below w.heap.size w w' := by
  have HMk := Lib.hid (fun (v : World) (h : IntsAt v v.heap.size NA nN Nf) => make_any fX fY fOx fOy fC fD fS fsg frct fsop feph fTx fTy fL fcw fch fP fSt fO fLy NA nN cN Nf 16 (by omega) (by omega) v h hNf hNn hSb)
  rw [show ((16 : Nat) : Int) = 16 from rfl] at HMk
  have HN := Lib.hid hN
  clear hN hNf hNn hSb
  go_enter Try.func4, Try.ntmps4
  go_wp2_with fail
  obtain ⟨q, hq⟩ : ∃ q, w.heap.size = q := ⟨_, rfl⟩
  generalize hw0 : World.alloc w _ = W0
  have f0 : W0.heap[q]? = some (.cells #[.int .i64 fX, .int .i64 fY, .int .i64 fOx, .int .i64 fOy, .int .i64 fC, .int .i64 fD, .int .i64 fS, .bool fsg, .bool frct, .bool fsop, .bool feph, .int .i64 fTx, .int .i64 fTy, .int .i64 fL, .int .i64 fcw, .int .i64 fch, .int .i64 fP, .int .i64 fSt, .int .i64 fO, .int .i64 fLy, .slice NA nN cN] 24 (0, 0)) := by rw [← hw0, ← hq]; exact heap_alloc_new w _
  have z0 : W0.heap.size = q + 1 := by rw [← hw0, ← hq]; simp
  have b0 : Below q w W0 := by rw [← hw0, ← hq]; exact below_alloc (Below.refl _ _) _
  clear hw0
  refine (known16_any _).mono ?_
  rintro e' W1 ⟨rfl, h1⟩
  have f1 := (h1.block q (by omega)).trans f0
  have b1 := b0.trans (h1.mono (by omega))
  have z1 : q + 1 ≤ W1.heap.size := by have := h1.size; omega
  clear h1 f0 b0 z0
  go_upto_region 3 with fail
  refine wp_region_lit ?_
  refine wpList_loadRow rfl rfl rfl f1 (by kernel_rfl) (by kernel_rfl) ?_
  go_wp2_with fail
  refine (HMk.out W1 ((HN.out.below (by rw [hq]; exact b1)).more (by have := b1.size; omega))).mono ?_
  rintro e' W2 ⟨Xn, Yn, On, Pn, tx, ty, lv, cw, ch, pr, st, od, ly, n, dn, rct, PL, A, c, F, G, rfl, hP, hI, h2⟩
  have b2 := b1.trans (h2.mono (by omega))
  have z2 : q + 1 ≤ W2.heap.size := by have := h2.size; omega
  have hI := hI.mono z1
  clear h2 b1 f1
  have HP := Lib.hid hP
  have HI := Lib.hid hI
  clear hP hI HMk HN
  unfold imgV parV
  go_upto_region 4 with fail
  obtain ⟨gm, hgm⟩ : ∃ g, W2.heap.size = g := ⟨_, rfl⟩
  generalize hV3 : World.alloc (World.alloc W2 _) _ = V3
  have img : V3.heap[gm]? = some (.cells #[.int .i64 Xn, .int .i64 Yn, .int .i64 On, .int .i64 Pn, .slice A n c] 28 (0, 0)) := by rw [← hV3, ← hgm]; exact (Below.heap_alloc _ _ _ (by simp)).trans (heap_alloc_new W2 _)
  have par : V3.heap[gm + 1]? = some (.cells #[.int .i64 tx, .int .i64 ty, .int .i64 lv, .int .i64 cw, .int .i64 ch, .int .i64 pr, .int .i64 st, .int .i64 od, .int .i64 ly, .bool rct, .bool fsop, .bool feph] 30 (0, 0)) := by rw [← hV3, ← hgm]; exact heap_alloc_new2 W2 _ _
  have h3 : Below gm W2 V3 := by rw [← hV3, ← hgm]; exact below_alloc (below_alloc (Below.refl _ _) _) _
  have z3 : V3.heap.size = gm + 2 := by rw [← hV3, ← hgm]; simp
  rw [hgm] at z2 ⊢
  clear hV3
  have HI3 := Lib.hid (HI.out.below (by rw [hgm]; exact h3))
  have b3 := b2.trans (h3.mono (by omega))
  clear HI b2 h3
  have hnum : 1 ≤ n ∧ n ≤ 4 := ⟨HP.out.num.1, HP.out.num.2.1⟩
  obtain ⟨g, rfl, hgq, hgl⟩ := HI3.out.comps.row (by omega)
  obtain ⟨o5, ho5, ho5e, HK0⟩ := within16v o 5 5 rfl (by omega) (by omega)
  have HK := Lib.hid HK0
  clear HK0 ho5e
  have p7 : V3.cell? ⟨gm + 1, 7, none⟩ = some (.int .i64 (od : Int)) := cell_of_row _ _ 7 _ _ (0, 0) par
  have f7 : V3.frozen? ⟨gm + 1, 7, none⟩ = false := frozen_of_row _ _ 7 _ _ par
  go_wp2_with fail
  refine (HK.out _).mono ?_
  rintro e' wa ⟨rfl, hwa⟩
  subst hwa
  go_upto_region 5 with fail
  clear p7 f7 HK
  have par4 : (V3.setCell ⟨gm + 1, 7, none⟩ (.int .i64 (o5 : Int))).heap[gm + 1]? = some (.cells #[.int .i64 (tx : Int), .int .i64 (ty : Int), .int .i64 (lv : Int), .int .i64 (cw : Int), .int .i64 (ch : Int), .int .i64 (pr : Int), .int .i64 (st : Int), .int .i64 (o5 : Int), .int .i64 (ly : Int), .bool rct, .bool fsop, .bool feph] 30 (0, 0)) := heap_setCell_same _ _ 7 _ _ _ par
  have hb4 : Below gm V3 (V3.setCell ⟨gm + 1, 7, none⟩ (.int .i64 (o5 : Int))) := (Below.refl _ _).setCell (p := ⟨gm + 1, 7, none⟩) (by simp only; omega) _
  have img4 : (V3.setCell ⟨gm + 1, 7, none⟩ (.int .i64 (o5 : Int))).heap[gm]? = some (.cells #[.int .i64 (Xn : Int), .int .i64 (Yn : Int), .int .i64 (On : Int), .int .i64 (Pn : Int), .slice (some ⟨g, 0, none⟩) n c] 28 (0, 0)) := (Below.heap_setCell _ _ _ _ (by simp only; omega)).trans img
  have hP2 := HP.out.with_ (pr' := pr) (od' := o5) (by have := HP.out.bds; omega) (by omega)
  have hfr := made_frame hP2 (by omega) HI3.out.good
  have hgg : g < gm := by
    have e1 : g ≠ gm := fun e => HI3.out.comps.ne_block img (by decide) (by rw [e]; rfl)
    have e2 : g ≠ gm + 1 := fun e => HI3.out.comps.ne_block par (by decide) (by rw [e]; rfl)
    omega
  have hca : CompsAt V3 gm (some ⟨g, 0, none⟩) n F := fun h0 => by
    obtain ⟨b, off, e, _, hk⟩ := HI3.out.compsAt.1 h0
    cases e
    exact ⟨g, 0, rfl, hgg, hk⟩
  have hnc := HI3.out.compsAt.2
  have HGood := Lib.hid HI3.out.good
  have hz4 : (V3.setCell ⟨gm + 1, 7, none⟩ (.int .i64 (o5 : Int))).heap.size = gm + 2 := by simp [z3]
  have b4 := b3.trans (hb4.mono (by omega))
  have HCA := Lib.hid (hca.below hb4)
  generalize V3.setCell ⟨gm + 1, 7, none⟩ (.int .i64 (o5 : Int)) = V4 at *
  clear hb4 hca par img HI3 hI z3 b3 hgl
  have hon := HP.out.on
  have hxs := HP.out.xs
  have hts := HP.out.ts
  have hlv : lv ≤ 5 := HP.out.bds.1
  have hpr : pr ≤ 15 := by have := HP.out.bds; omega
  have hly : 1 ≤ ly ∧ ly ≤ 4 := by have := HP.out.bds; omega
  have HFR := Lib.hid hfr
  clear hfr hP2
  refine wp_region_lit ?_
  refine wpList_loadRow rfl rfl (by kernel_rfl) img4 (by kernel_rfl) (by kernel_rfl) ?_
  refine wpList_loadRow rfl rfl (by kernel_rfl) par4 (by kernel_rfl) (by kernel_rfl) ?_
  go_wp2_with fail
  refine (rtiles_any Xn Yn On Pn tx ty (some ⟨g, 0, none⟩) n c lv cw ch pr st o5 ly rct fsop feph (by omega) (by omega) (by omega) (by omega) (by omega) (by omega) (by omega) (by omega) V4 _ _ rfl rfl).mono ?_
  rintro e' W5 ⟨At, ct, rfl, ot, h5⟩
  obtain ⟨NT, hNT⟩ : ∃ z, byN Xn tx * byN Yn ty = z := ⟨_, rfl⟩
  have HTN := Lib.hid (show ∀ i, i < NT → ∃ a b c d : Nat, tileR Xn Yn On Pn tx ty (gridAt (byN Xn tx) i) = ⟨(a : Int), (b : Int), (c : Int), (d : Int)⟩ ∧ a ≤ 64 ∧ b ≤ 64 ∧ c ≤ 64 ∧ d ≤ 64 from fun i hi => tile_nat (by omega) (by omega) (by omega) (by omega) (by omega) (by omega) (by rw [hNT]; exact hi))
  have hNTb : NT ≤ 6 := by rw [← hNT]; exact HP.out.tiles
  rw [hNT] at ot ⊢
  have HOT := Lib.hid ot
  have HR5 := Lib.hid (And.intro ((h5.block gm (by omega)).trans img4) ((h5.block (gm + 1) (by omega)).trans par4))
  have b5 := b4.trans (h5.mono (by omega))
  have HC5 := Lib.hid (HCA.out.below (h5.mono (by omega)))
  have z5 : gm + 2 ≤ W5.heap.size := by have := h5.size; omega
  clear h5 ot hNT img4 par4 b4 HCA hz4
  go_wp2_with fail
  go_loopg [8] NT (fun kx s8 wr => ∃ (i : Nat), s8 = .int .i64 (i : Int) ∧ i ≤ NT ∧ NT - i ≤ kx ∧ Hid (Below W5.heap.size W5 wr))
  case atStart => exact ⟨0, rfl, by omega, by omega, Lib.hid (Below.refl _ _)⟩
  case round =>
    obtain ⟨i, rfl, hi, hkx, HB⟩ := hrel
    by_cases hlt : i < NT
    · have hltz : (i : Int) < (NT : Int) := by omega
      obtain ⟨gt, hgt, hgt1, hgt2⟩ := HOT.out.row (by omega)
      subst hgt
      obtain ⟨x0, y0, x1, y1, hT, hxb⟩ := HTN.out i hlt
      have htc := fun (j : Nat) (u : Value) (hu : (rcL ⟨(x0 : Int), (y0 : Int), (x1 : Int), (y1 : Int)⟩)[j]? = some u) => HOT.out.at_.cells hlt (j := j) (u := u) (by rw [hT]; exact hu)
      simp only [Nat.zero_add] at htc
      have HTK := Lib.hid (show Key4 W5 gt (i * 4) (.int .i64 (x0 : Int)) (.int .i64 (y0 : Int)) (.int .i64 (x1 : Int)) (.int .i64 (y1 : Int)) from ⟨htc 0 _ rfl, htc 1 _ rfl, htc 2 _ rfl, htc 3 _ rfl⟩)
      clear htc hT
      obtain ⟨Q, hQ⟩ : ∃ Q, Q = madeQ x0 y0 x1 y1 lv pr o5 ly n F := ⟨_, rfl⟩
      have HOk := Lib.hid (show Q.Ok by rw [hQ]; exact madeQ_ok (by omega) hlv (by omega) (by omega) (by omega) hnum.2 HGood.out)
      have HQE := Lib.hid (show Q.x0 = x0 ∧ Q.y0 = y0 ∧ Q.x1 = x1 ∧ Q.y1 = y1 ∧ Q.lv = lv ∧ Q.pr = pr ∧ Q.od = o5 ∧ Q.ly = ly ∧ Q.n = n by rw [hQ]; exact ⟨rfl, rfl, rfl, rfl, rfl, rfl, rfl, rfl, rfl⟩)
      have HD := Lib.hid (show ∀ k, k < n → (F k).dx = (Q.dx k : Int) ∧ (F k).dy = (Q.dy k : Int) by rw [hQ]; exact madeQ_d HGood.out)
      clear hQ
      have HLs := Lib.hid (fun V : World => list_any Q HOk.out Xn Yn On Pn (some ⟨g, 0, none⟩) n c F tx ty cw ch st rct fsop feph x0 y0 x1 y1 lv pr o5 ly HQE.out hnc HD.out HFR.out V)
      have HCw := Lib.hid (HC5.out.below (HB.out.mono (show gm ≤ W5.heap.size by omega)))
      have zw := HB.out.size
      have im := (HB.out.block gm (by omega)).trans HR5.out.1
      have pm := (HB.out.block (gm + 1) (by omega)).trans HR5.out.2
      have tk := HTK.out.below HB.out hgt2
      go_wp2_with fail
      refine last_cut (by kernel_rfl) (fun U => Key4 U gt (i * 4) (.int .i64 (x0 : Int)) (.int .i64 (y0 : Int)) (.int .i64 (x1 : Int)) (.int .i64 (y1 : Int)) ∧ U.heap[gm]? = some (.cells #[.int .i64 (Xn : Int), .int .i64 (Yn : Int), .int .i64 (On : Int), .int .i64 (Pn : Int), .slice (some ⟨g, 0, none⟩) n c] 28 (0, 0)) ∧ U.heap[gm + 1]? = some (.cells #[.int .i64 (tx : Int), .int .i64 (ty : Int), .int .i64 (lv : Int), .int .i64 (cw : Int), .int .i64 (ch : Int), .int .i64 (pr : Int), .int .i64 (st : Int), .int .i64 (o5 : Int), .int .i64 (ly : Int), .bool rct, .bool fsop, .bool feph] 30 (0, 0))) (fun aF a' W' => ∃ (K : List Spot) (AK : Option Addr) (cK : Nat), a' = ((((((((aF.put (some 38) (.slice (some ⟨gt, 0, none⟩) NT ct)).put (some 39) (.int .i64 (i : Int))).put (some 40) (.pointer (some ⟨gt, i * 4, none⟩))).put (some 41) (.agg #[.int .i64 (x0 : Int), .int .i64 (y0 : Int), .int .i64 (x1 : Int), .int .i64 (y1 : Int)])).put (some 42) (.agg #[.int .i64 (Xn : Int), .int .i64 (Yn : Int), .int .i64 (On : Int), .int .i64 (Pn : Int), .slice (some ⟨g, 0, none⟩) n c])).put (some 43) (.agg #[.int .i64 (tx : Int), .int .i64 (ty : Int), .int .i64 (lv : Int), .int .i64 (cw : Int), .int .i64 (ch : Int), .int .i64 (pr : Int), .int .i64 (st : Int), .int .i64 (o5 : Int), .int .i64 (ly : Int), .bool rct, .bool fsop, .bool feph])).put (some 44) (.slice AK K.length cK)).put (some 9) (.slice AK K.length cK)) ∧ K.Perm (Q.l1 ly) ∧ OwnC W' wr.heap.size 42 4 (.slice AK K.length cK) K.length (fun k => (rowS K k).take 4) ∧ Below wr.heap.size wr W') ⟨tk, im, pm⟩ (fun hS => ?_) ?_
      · skip
        have hSB : ∀ U : World, Below (wr.heap.size) wr U → Key4 U gt (i * 4) (.int .i64 (x0 : Int)) (.int .i64 (y0 : Int)) (.int .i64 (x1 : Int)) (.int .i64 (y1 : Int)) ∧ U.heap[gm]? = some (.cells #[.int .i64 (Xn : Int), .int .i64 (Yn : Int), .int .i64 (On : Int), .int .i64 (Pn : Int), .slice (some ⟨g, 0, none⟩) n c] 28 (0, 0)) ∧ U.heap[gm + 1]? = some (.cells #[.int .i64 (tx : Int), .int .i64 (ty : Int), .int .i64 (lv : Int), .int .i64 (cw : Int), .int .i64 (ch : Int), .int .i64 (pr : Int), .int .i64 (st : Int), .int .i64 (o5 : Int), .int .i64 (ly : Int), .bool rct, .bool fsop, .bool feph] 30 (0, 0)) := fun U h => ⟨(tk).below (h) (by omega), (h.block (gm) (by omega)).trans (im), (h.block (gm + 1) (by omega)).trans (pm)⟩
        have bV : Below wr.heap.size wr wr.drew := (Below.refl _ _).drew
        generalize wr.drew = V0 at *
        change wpAnyL _ _ _ _ _ 8 #[false, false, false, false, false, false, false, false] _ _
        refine wpAnyL_take (i := 0) (v := .slice (some ⟨gt, 0, none⟩) NT ct) (by simp only [List.getElem?_toArray, List.getElem?_cons_succ, List.getElem?_cons_zero]; rfl) (by as_aux_lemma => kernel_rfl) (by as_aux_lemma => kernel_rfl) (by as_aux_lemma => kernel_rfl) (fun _ _ _ h => h) (Or.inl ⟨by rfl, ?_⟩) hS ?_
        · intro U hU
          obtain ⟨s0, s1, s2⟩ := hU
          kernel_rfl
        simp only [Act.put, List.setIfInBounds_toArray, List.set_cons_zero, List.set_cons_succ]
        refine wpAnyL_take (i := 1) (v := .int .i64 (i : Int)) (by simp only [List.getElem?_toArray, List.getElem?_cons_succ, List.getElem?_cons_zero]; rfl) (by as_aux_lemma => kernel_rfl) (by as_aux_lemma => kernel_rfl) (by as_aux_lemma => kernel_rfl) (fun _ _ _ h => h) (Or.inl ⟨by rfl, ?_⟩) hS ?_
        · intro U hU
          obtain ⟨s0, s1, s2⟩ := hU
          kernel_rfl
        simp only [Act.put, List.setIfInBounds_toArray, List.set_cons_zero, List.set_cons_succ]
        refine wpAnyL_take (i := 2) (v := .pointer (some ⟨gt, i * 4, none⟩)) (by simp only [List.getElem?_toArray, List.getElem?_cons_succ, List.getElem?_cons_zero]; rfl) (by as_aux_lemma => kernel_rfl) (by as_aux_lemma => kernel_rfl) (by as_aux_lemma => kernel_rfl) (fun _ _ _ h => h) (Or.inl ⟨by rfl, ?_⟩) hS ?_
        · intro U hU
          obtain ⟨s0, s1, s2⟩ := hU
          go_simp
        simp only [Act.put, List.setIfInBounds_toArray, List.set_cons_zero, List.set_cons_succ]
        refine wpAnyL_take (i := 3) (v := .agg #[.int .i64 (x0 : Int), .int .i64 (y0 : Int), .int .i64 (x1 : Int), .int .i64 (y1 : Int)]) (by simp only [List.getElem?_toArray, List.getElem?_cons_succ, List.getElem?_cons_zero]; rfl) (by as_aux_lemma => kernel_rfl) (by as_aux_lemma => kernel_rfl) (by as_aux_lemma => kernel_rfl) (fun _ _ _ h => h) (Or.inl ⟨by rfl, ?_⟩) hS ?_
        · intro U hU
          obtain ⟨s0, s1, s2⟩ := hU
          exact exec_loadK rfl rfl (by kernel_rfl) (by kernel_rfl) s0.load
        simp only [Act.put, List.setIfInBounds_toArray, List.set_cons_zero, List.set_cons_succ]
        refine wpAnyL_take (i := 4) (v := .agg #[.int .i64 (Xn : Int), .int .i64 (Yn : Int), .int .i64 (On : Int), .int .i64 (Pn : Int), .slice (some ⟨g, 0, none⟩) n c]) (by simp only [List.getElem?_toArray, List.getElem?_cons_succ, List.getElem?_cons_zero]; rfl) (by as_aux_lemma => kernel_rfl) (by as_aux_lemma => kernel_rfl) (by as_aux_lemma => kernel_rfl) (fun _ _ _ h => h) (Or.inl ⟨by rfl, ?_⟩) hS ?_
        · intro U hU
          obtain ⟨s0, s1, s2⟩ := hU
          exact exec_loadRow (cs := [.int .i64 (Xn : Int), .int .i64 (Yn : Int), .int .i64 (On : Int), .int .i64 (Pn : Int), .slice (some ⟨g, 0, none⟩) n c]) rfl rfl s1 (by kernel_rfl) (by kernel_rfl)
        simp only [Act.put, List.setIfInBounds_toArray, List.set_cons_zero, List.set_cons_succ]
        refine wpAnyL_take (i := 5) (v := .agg #[.int .i64 (tx : Int), .int .i64 (ty : Int), .int .i64 (lv : Int), .int .i64 (cw : Int), .int .i64 (ch : Int), .int .i64 (pr : Int), .int .i64 (st : Int), .int .i64 (o5 : Int), .int .i64 (ly : Int), .bool rct, .bool fsop, .bool feph]) (by simp only [List.getElem?_toArray, List.getElem?_cons_succ, List.getElem?_cons_zero]; rfl) (by as_aux_lemma => kernel_rfl) (by as_aux_lemma => kernel_rfl) (by as_aux_lemma => kernel_rfl) (fun _ _ _ h => h) (Or.inl ⟨by rfl, ?_⟩) hS ?_
        · intro U hU
          obtain ⟨s0, s1, s2⟩ := hU
          exact exec_loadRow (cs := [.int .i64 (tx : Int), .int .i64 (ty : Int), .int .i64 (lv : Int), .int .i64 (cw : Int), .int .i64 (ch : Int), .int .i64 (pr : Int), .int .i64 (st : Int), .int .i64 (o5 : Int), .int .i64 (ly : Int), .bool rct, .bool fsop, .bool feph]) rfl rfl s2 (by kernel_rfl) (by kernel_rfl)
        simp only [Act.put, List.setIfInBounds_toArray, List.set_cons_zero, List.set_cons_succ]
        refine wpAnyL_ready (rs := [6]) (by as_aux_lemma => kernel_rfl) (by simp) ?_
        refine AllReadyL.cons (by simp only [List.getElem?_toArray, List.getElem?_cons_succ, List.getElem?_cons_zero]; rfl) (fun K' hK' => ?_) AllReadyL.nil
        go_simp
        go_at_call 13
        refine (HLs.out _ ((HCw.out.below ((bV).mono (by omega))).more (by have h7 := (bV).size; omega))).mono ?_
        rintro e' U3 ⟨K, AK, cK, rfl, hp, hs, own, hb3⟩
        have own2 := own.mono (base' := wr.heap.size) (by have h7 := (bV).size; omega)
        have b3 := below_trans bV hb3
        have hS := hSB _ b3
        dsimp only
        refine hK'.out _ _ hS (fun _ => ?_)
        clear hb3 own
        clear hK' K'
        try simp only [Act.put, List.setIfInBounds_toArray, List.set_cons_zero, List.set_cons_succ]
        refine wpAnyL_take (i := 7) (v := .slice AK K.length cK) (by simp only [List.getElem?_toArray, List.getElem?_cons_succ, List.getElem?_cons_zero]; rfl) (by as_aux_lemma => kernel_rfl) (by as_aux_lemma => kernel_rfl) (by as_aux_lemma => kernel_rfl) (fun _ _ _ h => h) (Or.inl ⟨by rfl, ?_⟩) hS ?_
        · intro U hU
          obtain ⟨s0, s1, s2⟩ := hU
          kernel_rfl
        simp only [Act.put, List.setIfInBounds_toArray, List.set_cons_zero, List.set_cons_succ]
        refine wpAnyL_done (by as_aux_lemma => kernel_rfl) ?_ _
        simp only [OnlyN]
        refine ⟨K, AK, cK, ?_, hp, own2, b3⟩
        (try simp only [Act.put, List.setIfInBounds_toArray, List.set_cons_zero, List.set_cons_succ])
      rintro a' W9 ⟨K, AK, cK, rfl, hp, own, h9⟩
      simp only [Act.put, List.setIfInBounds_toArray, List.set_cons_zero, List.set_cons_succ]
      obtain ⟨NK, hNK⟩ : ∃ z, K.length = z := ⟨_, rfl⟩
      rw [hNK] at own ⊢
      have hNKb : NK ≤ 405600 := by
        have h7 := Q.l1_len HOk.out ly
        have h8 := hp.length_eq
        omega
      have HLM := Lib.hid (show NK = sumN (fun c => sumN (fun r => Q.w r c * Q.h r c) (lv + 1)) n * ly by
        have h7 := HQE.out
        rw [← hNK, hp.length_eq, Q.l1_cnt, h7.2.2.2.2.1, h7.2.2.2.2.2.2.2.2, Nat.mul_comm])
      have HPK := Lib.hid (And.intro hNK hp)
      have HOW := Lib.hid own
      have hB9 : wr.heap.size ≤ W9.heap.size := h9.size
      have HB9 := Lib.hid (HB.out.trans (h9.mono zw))
      have HR9 := Lib.hid (And.intro ((h9.block gm (by omega)).trans im) ((h9.block (gm + 1) (by omega)).trans pm))
      have HTK9 := Lib.hid (tk.below h9 (by omega))
      have HC9 := Lib.hid (HCw.out.below (h9.mono (show gm ≤ wr.heap.size by omega)))
      have z9 : W5.heap.size ≤ W9.heap.size := by omega
      clear h9 own hp hNK HB im pm tk HLs HCw hB9 zw HTK
      go_wp2_with fail
      go_loopg [10, 11] n (fun kc s10 s11 wr => ∃ (k m : Nat), s10 = .int .i64 (m : Int) ∧ s11 = .int .i64 (k : Int) ∧ k ≤ n ∧ n - k ≤ kc ∧ m ≤ 101400 * k ∧ Hid (m = sumN (fun c => sumN (fun r => Q.w r c * Q.h r c) (lv + 1)) k * ly) ∧ Hid (Below W9.heap.size W9 wr))
      case atStart => exact ⟨0, 0, rfl, rfl, by omega, by omega, by omega, Lib.hid (by simp [sumN]), Lib.hid (Below.refl _ _)⟩
      case round =>
        obtain ⟨k, m, rfl, rfl, hk, hkc, hm, HM, HB⟩ := hrel
        have mc4 : wr.cell? ⟨gm, 4, none⟩ = some (.slice (some ⟨g, 0, none⟩) n c) := cell_of_row _ _ 4 _ _ (0, 0) ((HB.out.block gm (by omega)).trans HR9.out.1)
        by_cases hlk : k < n
        · have hlkz : (k : Int) < (n : Int) := by omega
          clear mc4
          obtain ⟨DX, hDX⟩ : ∃ z, Q.dx k = z := ⟨_, rfl⟩
          obtain ⟨DY, hDY⟩ : ∃ z, Q.dy k = z := ⟨_, rfl⟩
          have hdb := HOk.out.d k (by have h7 := HQE.out; omega)
          rw [hDX, hDY] at hdb
          have hcc := (HC9.out.below (HB.out.mono (show gm ≤ W9.heap.size by omega))) (by omega)
          obtain ⟨bc, oc, hA, _, hcl⟩ := hcc
          cases hA
          obtain ⟨_, _, k2, k3, _⟩ := hcl k hlk
          rw [(HD.out k hlk).1, hDX] at k2
          rw [(HD.out k hlk).2, hDY] at k3
          simp only [Nat.zero_add] at k2 k3
          clear hcl
          have hb1 : byN x0 DX ≤ 64 := Nat.le_trans (byN_le hdb.1) (by omega)
          have hb2 : byN y0 DY ≤ 64 := Nat.le_trans (byN_le hdb.2.2.1) (by omega)
          have hb3 : byN x1 DX ≤ 64 := Nat.le_trans (byN_le hdb.1) (by omega)
          have hb4 : byN y1 DY ≤ 64 := Nat.le_trans (byN_le hdb.2.2.1) (by omega)
          have HPt := Lib.hid (fun V : World => by
            have := partR_any ⟨(x0 : Nat), (y0 : Nat), (x1 : Nat), (y1 : Nat)⟩ DX DY (by simp only; omega) (by simp only; omega) (by simp only; omega) (by simp only; omega) (by omega) (by omega) V
            simp only [clI_nat _ _ hdb.1, clI_nat _ _ hdb.2.2.1] at this
            exact this)
          unfold rcV at HPt
          simp only at HPt
          have HRes := Lib.hid (show ∀ r, r ≤ lv → resR ⟨(byN x0 DX : Nat), (byN y0 DY : Nat), (byN x1 DX : Nat), (byN y1 DY : Nat)⟩ (lv - r) = ⟨(ceN x0 DX (lv - r) : Nat), (ceN y0 DY (lv - r) : Nat), (ceN x1 DX (lv - r) : Nat), (ceN y1 DY (lv - r) : Nat)⟩ ∧ (ceN x0 DX (lv - r) ≤ 64 ∧ ceN y0 DY (lv - r) ≤ 64 ∧ ceN x1 DX (lv - r) ≤ 64 ∧ ceN y1 DY (lv - r) ≤ 64) ∧ (preW ⟨(ceN x0 DX (lv - r) : Nat), (ceN y0 DY (lv - r) : Nat), (ceN x1 DX (lv - r) : Nat), (ceN y1 DY (lv - r) : Nat)⟩ pr = (Q.w r k : Nat) ∧ preH ⟨(ceN x0 DX (lv - r) : Nat), (ceN y0 DY (lv - r) : Nat), (ceN x1 DX (lv - r) : Nat), (ceN y1 DY (lv - r) : Nat)⟩ pr = (Q.h r k : Nat)) ∧ Q.w r k ≤ 65 ∧ Q.h r k ≤ 65 from fun r hr => by
            have h7 := HQE.out
            have h8 := Q.wh HOk.out (r := r) (c := k) (by omega)
            have hrs := h8.rs
            have hbd := h8.bd
            have hw := h8.w
            have hh := h8.h
            rw [h7.1, h7.2.1, h7.2.2.1, h7.2.2.2.1, h7.2.2.2.2.1, hDX, hDY] at hrs hbd hw hh
            rw [h7.2.2.2.2.2.1] at hw hh
            exact ⟨hrs, hbd, ⟨hw, hh⟩, h8.wb⟩)
          generalize byN x0 DX = P0 at *
          generalize byN y0 DY = P1 at *
          generalize byN x1 DX = P2 at *
          generalize byN y1 DY = P3 at *
          have zw := HB.out.size
          have im := (HB.out.block gm (by omega)).trans HR9.out.1
          have tk := HTK9.out.below HB.out (by omega)
          have mc4 : wr.cell? ⟨gm, 4, none⟩ = some (.slice (some ⟨g, 0, none⟩) n c) := cell_of_row _ _ 4 _ _ (0, 0) im
          go_wp2_with fail
          clear mc4
          have bcl : g < wr.heap.size := by omega
          refine last_cut (by kernel_rfl) (fun U => Key4 U gt (i * 4) (.int .i64 (x0 : Int)) (.int .i64 (y0 : Int)) (.int .i64 (x1 : Int)) (.int .i64 (y1 : Int)) ∧ U.heap[gm]? = some (.cells #[.int .i64 (Xn : Int), .int .i64 (Yn : Int), .int .i64 (On : Int), .int .i64 (Pn : Int), .slice (some ⟨g, 0, none⟩) n c] 28 (0, 0)) ∧ U.cell? ⟨g, k * 5 + 2, none⟩ = some (.int .i64 (DX : Int)) ∧ U.cell? ⟨g, k * 5 + 3, none⟩ = some (.int .i64 (DY : Int))) (fun aF a' W' => ∃ g9, a' = ((((((((((((((((((aF.put (some 52) (.slice (some ⟨gt, 0, none⟩) NT ct)).put (some 53) (.int .i64 (i : Int))).put (some 54) (.pointer (some ⟨gt, i * 4, none⟩))).put (some 55) (.agg #[.int .i64 (x0 : Int), .int .i64 (y0 : Int), .int .i64 (x1 : Int), .int .i64 (y1 : Int)])).put (some 56) (.pointer (some ⟨gm, 4, none⟩))).put (some 57) (.slice (some ⟨g, 0, none⟩) n c)).put (some 58) (.int .i64 (k : Int))).put (some 59) (.pointer (some ⟨g, k * 5, none⟩))).put (some 60) (.pointer (some ⟨g, k * 5 + 2, none⟩))).put (some 61) (.int .i64 (DX : Int))).put (some 62) (.pointer (some ⟨gm, 4, none⟩))).put (some 63) (.slice (some ⟨g, 0, none⟩) n c)).put (some 64) (.int .i64 (k : Int))).put (some 65) (.pointer (some ⟨g, k * 5, none⟩))).put (some 66) (.pointer (some ⟨g, k * 5 + 3, none⟩))).put (some 67) (.int .i64 (DY : Int))).put (some 68) (.agg #[.int .i64 (P0 : Int), .int .i64 (P1 : Int), .int .i64 (P2 : Int), .int .i64 (P3 : Int)])).put (some 12) (.pointer (some ⟨g9, 0, none⟩))) ∧ W'.heap[g9]? = some (.cells #[.int .i64 (P0 : Int), .int .i64 (P1 : Int), .int .i64 (P2 : Int), .int .i64 (P3 : Int)] 38 (0, 0)) ∧ wr.heap.size ≤ g9 ∧ g9 < W'.heap.size ∧ Below wr.heap.size wr W') ⟨tk, im, k2, k3⟩ (fun hS => ?_) ?_
          · skip
            have hSB : ∀ U : World, Below (wr.heap.size) wr U → Key4 U gt (i * 4) (.int .i64 (x0 : Int)) (.int .i64 (y0 : Int)) (.int .i64 (x1 : Int)) (.int .i64 (y1 : Int)) ∧ U.heap[gm]? = some (.cells #[.int .i64 (Xn : Int), .int .i64 (Yn : Int), .int .i64 (On : Int), .int .i64 (Pn : Int), .slice (some ⟨g, 0, none⟩) n c] 28 (0, 0)) ∧ U.cell? ⟨g, k * 5 + 2, none⟩ = some (.int .i64 (DX : Int)) ∧ U.cell? ⟨g, k * 5 + 3, none⟩ = some (.int .i64 (DY : Int)) := fun U h => ⟨(tk).below (h) (by omega), (h.block (gm) (by omega)).trans (im), (h.cell (p := ⟨g, k * 5 + 2, none⟩) (by simp only; omega)).trans (k2), (h.cell (p := ⟨g, k * 5 + 3, none⟩) (by simp only; omega)).trans (k3)⟩
            have bV : Below wr.heap.size wr wr.drew := (Below.refl _ _).drew
            generalize wr.drew = V0 at *
            change wpAnyL _ _ _ _ _ 19 #[false, false, false, false, false, false, false, false, false, false, false, false, false, false, false, false, false, false, false] _ _
            refine wpAnyL_take (i := 0) (v := .slice (some ⟨gt, 0, none⟩) NT ct) (by simp only [List.getElem?_toArray, List.getElem?_cons_succ, List.getElem?_cons_zero]; rfl) (by as_aux_lemma => kernel_rfl) (by as_aux_lemma => kernel_rfl) (by as_aux_lemma => kernel_rfl) (fun _ _ _ h => h) (Or.inl ⟨by rfl, ?_⟩) hS ?_
            · intro U hU
              obtain ⟨s0, s1, s2, s3⟩ := hU
              kernel_rfl
            simp only [Act.put, List.setIfInBounds_toArray, List.set_cons_zero, List.set_cons_succ]
            refine wpAnyL_take (i := 1) (v := .int .i64 (i : Int)) (by simp only [List.getElem?_toArray, List.getElem?_cons_succ, List.getElem?_cons_zero]; rfl) (by as_aux_lemma => kernel_rfl) (by as_aux_lemma => kernel_rfl) (by as_aux_lemma => kernel_rfl) (fun _ _ _ h => h) (Or.inl ⟨by rfl, ?_⟩) hS ?_
            · intro U hU
              obtain ⟨s0, s1, s2, s3⟩ := hU
              kernel_rfl
            simp only [Act.put, List.setIfInBounds_toArray, List.set_cons_zero, List.set_cons_succ]
            refine wpAnyL_take (i := 2) (v := .pointer (some ⟨gt, i * 4, none⟩)) (by simp only [List.getElem?_toArray, List.getElem?_cons_succ, List.getElem?_cons_zero]; rfl) (by as_aux_lemma => kernel_rfl) (by as_aux_lemma => kernel_rfl) (by as_aux_lemma => kernel_rfl) (fun _ _ _ h => h) (Or.inl ⟨by rfl, ?_⟩) hS ?_
            · intro U hU
              obtain ⟨s0, s1, s2, s3⟩ := hU
              go_simp
            simp only [Act.put, List.setIfInBounds_toArray, List.set_cons_zero, List.set_cons_succ]
            refine wpAnyL_take (i := 3) (v := .agg #[.int .i64 (x0 : Int), .int .i64 (y0 : Int), .int .i64 (x1 : Int), .int .i64 (y1 : Int)]) (by simp only [List.getElem?_toArray, List.getElem?_cons_succ, List.getElem?_cons_zero]; rfl) (by as_aux_lemma => kernel_rfl) (by as_aux_lemma => kernel_rfl) (by as_aux_lemma => kernel_rfl) (fun _ _ _ h => h) (Or.inl ⟨by rfl, ?_⟩) hS ?_
            · intro U hU
              obtain ⟨s0, s1, s2, s3⟩ := hU
              exact exec_loadK rfl rfl (by kernel_rfl) (by kernel_rfl) s0.load
            simp only [Act.put, List.setIfInBounds_toArray, List.set_cons_zero, List.set_cons_succ]
            refine wpAnyL_take (i := 4) (v := .pointer (some ⟨gm, 4, none⟩)) (by simp only [List.getElem?_toArray, List.getElem?_cons_succ, List.getElem?_cons_zero]; rfl) (by as_aux_lemma => kernel_rfl) (by as_aux_lemma => kernel_rfl) (by as_aux_lemma => kernel_rfl) (fun _ _ _ h => h) (Or.inl ⟨by rfl, ?_⟩) hS ?_
            · intro U hU
              obtain ⟨s0, s1, s2, s3⟩ := hU
              kernel_rfl
            simp only [Act.put, List.setIfInBounds_toArray, List.set_cons_zero, List.set_cons_succ]
            refine wpAnyL_take (i := 5) (v := .slice (some ⟨g, 0, none⟩) n c) (by simp only [List.getElem?_toArray, List.getElem?_cons_succ, List.getElem?_cons_zero]; rfl) (by as_aux_lemma => kernel_rfl) (by as_aux_lemma => kernel_rfl) (by as_aux_lemma => kernel_rfl) (fun _ _ _ h => h) (Or.inl ⟨by rfl, ?_⟩) hS ?_
            · intro U hU
              obtain ⟨s0, s1, s2, s3⟩ := hU
              have r1_4 : U.cell? ⟨gm, 4, none⟩ = some (.slice (some ⟨g, 0, none⟩) n c) := cell_of_row _ _ 4 _ _ (0, 0) s1
              exact exec_loadCell rfl rfl r1_4 (by kernel_rfl)
            simp only [Act.put, List.setIfInBounds_toArray, List.set_cons_zero, List.set_cons_succ]
            refine wpAnyL_take (i := 6) (v := .int .i64 (k : Int)) (by simp only [List.getElem?_toArray, List.getElem?_cons_succ, List.getElem?_cons_zero]; rfl) (by as_aux_lemma => kernel_rfl) (by as_aux_lemma => kernel_rfl) (by as_aux_lemma => kernel_rfl) (fun _ _ _ h => h) (Or.inl ⟨by rfl, ?_⟩) hS ?_
            · intro U hU
              obtain ⟨s0, s1, s2, s3⟩ := hU
              kernel_rfl
            simp only [Act.put, List.setIfInBounds_toArray, List.set_cons_zero, List.set_cons_succ]
            refine wpAnyL_take (i := 7) (v := .pointer (some ⟨g, k * 5, none⟩)) (by simp only [List.getElem?_toArray, List.getElem?_cons_succ, List.getElem?_cons_zero]; rfl) (by as_aux_lemma => kernel_rfl) (by as_aux_lemma => kernel_rfl) (by as_aux_lemma => kernel_rfl) (fun _ _ _ h => h) (Or.inl ⟨by rfl, ?_⟩) hS ?_
            · intro U hU
              obtain ⟨s0, s1, s2, s3⟩ := hU
              go_simp
            simp only [Act.put, List.setIfInBounds_toArray, List.set_cons_zero, List.set_cons_succ]
            refine wpAnyL_take (i := 8) (v := .pointer (some ⟨g, k * 5 + 2, none⟩)) (by simp only [List.getElem?_toArray, List.getElem?_cons_succ, List.getElem?_cons_zero]; rfl) (by as_aux_lemma => kernel_rfl) (by as_aux_lemma => kernel_rfl) (by as_aux_lemma => kernel_rfl) (fun _ _ _ h => h) (Or.inl ⟨by rfl, ?_⟩) hS ?_
            · intro U hU
              obtain ⟨s0, s1, s2, s3⟩ := hU
              kernel_rfl
            simp only [Act.put, List.setIfInBounds_toArray, List.set_cons_zero, List.set_cons_succ]
            refine wpAnyL_take (i := 9) (v := .int .i64 (DX : Int)) (by simp only [List.getElem?_toArray, List.getElem?_cons_succ, List.getElem?_cons_zero]; rfl) (by as_aux_lemma => kernel_rfl) (by as_aux_lemma => kernel_rfl) (by as_aux_lemma => kernel_rfl) (fun _ _ _ h => h) (Or.inl ⟨by rfl, ?_⟩) hS ?_
            · intro U hU
              obtain ⟨s0, s1, s2, s3⟩ := hU
              exact exec_loadCell rfl rfl s2 (by kernel_rfl)
            simp only [Act.put, List.setIfInBounds_toArray, List.set_cons_zero, List.set_cons_succ]
            refine wpAnyL_take (i := 10) (v := .pointer (some ⟨gm, 4, none⟩)) (by simp only [List.getElem?_toArray, List.getElem?_cons_succ, List.getElem?_cons_zero]; rfl) (by as_aux_lemma => kernel_rfl) (by as_aux_lemma => kernel_rfl) (by as_aux_lemma => kernel_rfl) (fun _ _ _ h => h) (Or.inl ⟨by rfl, ?_⟩) hS ?_
            · intro U hU
              obtain ⟨s0, s1, s2, s3⟩ := hU
              kernel_rfl
            simp only [Act.put, List.setIfInBounds_toArray, List.set_cons_zero, List.set_cons_succ]
            refine wpAnyL_take (i := 11) (v := .slice (some ⟨g, 0, none⟩) n c) (by simp only [List.getElem?_toArray, List.getElem?_cons_succ, List.getElem?_cons_zero]; rfl) (by as_aux_lemma => kernel_rfl) (by as_aux_lemma => kernel_rfl) (by as_aux_lemma => kernel_rfl) (fun _ _ _ h => h) (Or.inl ⟨by rfl, ?_⟩) hS ?_
            · intro U hU
              obtain ⟨s0, s1, s2, s3⟩ := hU
              have r1_4 : U.cell? ⟨gm, 4, none⟩ = some (.slice (some ⟨g, 0, none⟩) n c) := cell_of_row _ _ 4 _ _ (0, 0) s1
              exact exec_loadCell rfl rfl r1_4 (by kernel_rfl)
            simp only [Act.put, List.setIfInBounds_toArray, List.set_cons_zero, List.set_cons_succ]
            refine wpAnyL_take (i := 12) (v := .int .i64 (k : Int)) (by simp only [List.getElem?_toArray, List.getElem?_cons_succ, List.getElem?_cons_zero]; rfl) (by as_aux_lemma => kernel_rfl) (by as_aux_lemma => kernel_rfl) (by as_aux_lemma => kernel_rfl) (fun _ _ _ h => h) (Or.inl ⟨by rfl, ?_⟩) hS ?_
            · intro U hU
              obtain ⟨s0, s1, s2, s3⟩ := hU
              kernel_rfl
            simp only [Act.put, List.setIfInBounds_toArray, List.set_cons_zero, List.set_cons_succ]
            refine wpAnyL_take (i := 13) (v := .pointer (some ⟨g, k * 5, none⟩)) (by simp only [List.getElem?_toArray, List.getElem?_cons_succ, List.getElem?_cons_zero]; rfl) (by as_aux_lemma => kernel_rfl) (by as_aux_lemma => kernel_rfl) (by as_aux_lemma => kernel_rfl) (fun _ _ _ h => h) (Or.inl ⟨by rfl, ?_⟩) hS ?_
            · intro U hU
              obtain ⟨s0, s1, s2, s3⟩ := hU
              go_simp
            simp only [Act.put, List.setIfInBounds_toArray, List.set_cons_zero, List.set_cons_succ]
            refine wpAnyL_take (i := 14) (v := .pointer (some ⟨g, k * 5 + 3, none⟩)) (by simp only [List.getElem?_toArray, List.getElem?_cons_succ, List.getElem?_cons_zero]; rfl) (by as_aux_lemma => kernel_rfl) (by as_aux_lemma => kernel_rfl) (by as_aux_lemma => kernel_rfl) (fun _ _ _ h => h) (Or.inl ⟨by rfl, ?_⟩) hS ?_
            · intro U hU
              obtain ⟨s0, s1, s2, s3⟩ := hU
              kernel_rfl
            simp only [Act.put, List.setIfInBounds_toArray, List.set_cons_zero, List.set_cons_succ]
            refine wpAnyL_take (i := 15) (v := .int .i64 (DY : Int)) (by simp only [List.getElem?_toArray, List.getElem?_cons_succ, List.getElem?_cons_zero]; rfl) (by as_aux_lemma => kernel_rfl) (by as_aux_lemma => kernel_rfl) (by as_aux_lemma => kernel_rfl) (fun _ _ _ h => h) (Or.inl ⟨by rfl, ?_⟩) hS ?_
            · intro U hU
              obtain ⟨s0, s1, s2, s3⟩ := hU
              exact exec_loadCell rfl rfl s3 (by kernel_rfl)
            simp only [Act.put, List.setIfInBounds_toArray, List.set_cons_zero, List.set_cons_succ]
            refine wpAnyL_ready (rs := [16, 17]) (by as_aux_lemma => kernel_rfl) (by simp) ?_
            refine AllReadyL.cons (by simp only [List.getElem?_toArray, List.getElem?_cons_succ, List.getElem?_cons_zero]; rfl) (fun K' hK' => ?_) (AllReadyL.cons (by simp only [List.getElem?_toArray, List.getElem?_cons_succ, List.getElem?_cons_zero]; rfl) (fun K' hK' => ?_) AllReadyL.nil)
            · go_simp
              go_at_call 16
              refine (HPt.out _).mono ?_
              rintro e' U13 ⟨rfl, hb13⟩
              have b13 := below_trans bV hb13
              have hS := hSB _ b13
              dsimp only
              refine hK'.out _ _ hS (fun _ => ?_)
              clear hb13 bV
              clear hK' K'
              try simp only [Act.put, List.setIfInBounds_toArray, List.set_cons_zero, List.set_cons_succ]
              refine wpAnyL_ready (rs := [17]) (by as_aux_lemma => kernel_rfl) (by simp) ?_
              refine AllReadyL.cons (by simp only [List.getElem?_toArray, List.getElem?_cons_succ, List.getElem?_cons_zero]; rfl) (fun K' hK' => ?_) AllReadyL.nil
              go_simp
              have hb14 := below_alloc (Below.refl U13.heap.size U13) (.cells #[.int .i64 0, .int .i64 0, .int .i64 0, .int .i64 0] 38)
              obtain ⟨g9, hg9⟩ : ∃ g, U13.heap.size = g := ⟨_, rfl⟩
              have x9 := heap_alloc_new U13 (.cells #[.int .i64 0, .int .i64 0, .int .i64 0, .int .i64 0] 38)
              have l9 : U13.heap.size < (U13.alloc (.cells #[.int .i64 0, .int .i64 0, .int .i64 0, .int .i64 0] 38)).heap.size := by simp
              have y9 : wr.heap.size ≤ U13.heap.size := b13.size
              have b14 := below_alloc b13 (.cells #[.int .i64 0, .int .i64 0, .int .i64 0, .int .i64 0] 38)
              generalize U13.alloc (.cells #[.int .i64 0, .int .i64 0, .int .i64 0, .int .i64 0] 38) = U14 at *
              rw [hg9] at x9 l9 y9 ⊢
              clear hg9 hb14 b13
              have hS := hSB _ b14
              refine hK'.out _ _ hS (fun _ => ?_)
              clear hK' K'
              try simp only [Act.put, List.setIfInBounds_toArray, List.set_cons_zero, List.set_cons_succ]
              refine wpAnyL_ready (rs := [18]) (by as_aux_lemma => kernel_rfl) (by simp) ?_
              refine AllReadyL.last (by simp only [List.getElem?_toArray, List.getElem?_cons_succ, List.getElem?_cons_zero]; rfl) (by as_aux_lemma => kernel_rfl) (fun K' hK' => ?_)
              have d0 : U14.cell? ⟨g9, 0, none⟩ = some (.int .i64 0) := cell_of_row _ _ 0 _ _ (0, 0) x9
              have d1 : U14.cell? ⟨g9, 1, none⟩ = some (.int .i64 0) := cell_of_row _ _ 1 _ _ (0, 0) x9
              have d2 : U14.cell? ⟨g9, 2, none⟩ = some (.int .i64 0) := cell_of_row _ _ 2 _ _ (0, 0) x9
              have d3 : U14.cell? ⟨g9, 3, none⟩ = some (.int .i64 0) := cell_of_row _ _ 3 _ _ (0, 0) x9
              have dz : ∀ i, U14.frozen? ⟨g9, i, none⟩ = false := fun i => frozen_of_row _ _ i _ _ x9
              go_simp
              obtain ⟨U15, hV, x9', b15⟩ : ∃ V, ((((U14.setCell ⟨g9, 0, none⟩ (.int .i64 (P0 : Int))).setCell ⟨g9, 1, none⟩ (.int .i64 (P1 : Int))).setCell ⟨g9, 2, none⟩ (.int .i64 (P2 : Int))).setCell ⟨g9, 3, none⟩ (.int .i64 (P3 : Int))) = V ∧ V.heap[g9]? = some (.cells #[.int .i64 (P0 : Int), .int .i64 (P1 : Int), .int .i64 (P2 : Int), .int .i64 (P3 : Int)] 38 (0, 0)) ∧ Below wr.heap.size wr V := ⟨_, rfl, setRow_at (old := [.int .i64 0, .int .i64 0, .int .i64 0, .int .i64 0]) [.int .i64 (P0 : Int), .int .i64 (P1 : Int), .int .i64 (P2 : Int), .int .i64 (P3 : Int)] rfl x9, setRow_below y9 [.int .i64 (P0 : Int), .int .i64 (P1 : Int), .int .i64 (P2 : Int), .int .i64 (P3 : Int)] 0 _ b14⟩
              have l9' : g9 < U15.heap.size := (Array.getElem?_eq_some_iff.1 x9').1
              rw [hV]
              clear hV
              refine hK'.out _ _ (?_)
              clear d0 d1 d2 d3 dz
              clear hK' K'
              try simp only [Act.put, List.setIfInBounds_toArray, List.set_cons_zero, List.set_cons_succ]
              refine wpAnyL_done (by as_aux_lemma => kernel_rfl) ?_ _
              simp only [OnlyN]
              refine ⟨g9, ?_, x9', y9, l9', b15⟩
              (try simp only [Act.put, List.setIfInBounds_toArray, List.set_cons_zero, List.set_cons_succ])
            · go_simp
              have hb14 := below_alloc (Below.refl V0.heap.size V0) (.cells #[.int .i64 0, .int .i64 0, .int .i64 0, .int .i64 0] 38)
              obtain ⟨g9, hg9⟩ : ∃ g, V0.heap.size = g := ⟨_, rfl⟩
              have x9 := heap_alloc_new V0 (.cells #[.int .i64 0, .int .i64 0, .int .i64 0, .int .i64 0] 38)
              have l9 : V0.heap.size < (V0.alloc (.cells #[.int .i64 0, .int .i64 0, .int .i64 0, .int .i64 0] 38)).heap.size := by simp
              have y9 : wr.heap.size ≤ V0.heap.size := bV.size
              have b14 := below_alloc bV (.cells #[.int .i64 0, .int .i64 0, .int .i64 0, .int .i64 0] 38)
              generalize V0.alloc (.cells #[.int .i64 0, .int .i64 0, .int .i64 0, .int .i64 0] 38) = U14 at *
              rw [hg9] at x9 l9 y9 ⊢
              clear hg9 hb14 bV
              have hS := hSB _ b14
              refine hK'.out _ _ hS (fun _ => ?_)
              clear hK' K'
              try simp only [Act.put, List.setIfInBounds_toArray, List.set_cons_zero, List.set_cons_succ]
              refine wpAnyL_ready (rs := [16]) (by as_aux_lemma => kernel_rfl) (by simp) ?_
              refine AllReadyL.cons (by simp only [List.getElem?_toArray, List.getElem?_cons_succ, List.getElem?_cons_zero]; rfl) (fun K' hK' => ?_) AllReadyL.nil
              go_simp
              go_at_call 16
              refine (HPt.out _).mono ?_
              rintro e' U13 ⟨rfl, hb13⟩
              replace x9 := (hb13.block g9 l9).trans x9
              replace l9 := Nat.lt_of_lt_of_le l9 hb13.size
              have b13 := below_trans b14 hb13
              have hS := hSB _ b13
              dsimp only
              refine hK'.out _ _ hS (fun _ => ?_)
              clear hb13 b14
              clear hK' K'
              try simp only [Act.put, List.setIfInBounds_toArray, List.set_cons_zero, List.set_cons_succ]
              refine wpAnyL_ready (rs := [18]) (by as_aux_lemma => kernel_rfl) (by simp) ?_
              refine AllReadyL.last (by simp only [List.getElem?_toArray, List.getElem?_cons_succ, List.getElem?_cons_zero]; rfl) (by as_aux_lemma => kernel_rfl) (fun K' hK' => ?_)
              have d0 : U13.cell? ⟨g9, 0, none⟩ = some (.int .i64 0) := cell_of_row _ _ 0 _ _ (0, 0) x9
              have d1 : U13.cell? ⟨g9, 1, none⟩ = some (.int .i64 0) := cell_of_row _ _ 1 _ _ (0, 0) x9
              have d2 : U13.cell? ⟨g9, 2, none⟩ = some (.int .i64 0) := cell_of_row _ _ 2 _ _ (0, 0) x9
              have d3 : U13.cell? ⟨g9, 3, none⟩ = some (.int .i64 0) := cell_of_row _ _ 3 _ _ (0, 0) x9
              have dz : ∀ i, U13.frozen? ⟨g9, i, none⟩ = false := fun i => frozen_of_row _ _ i _ _ x9
              go_simp
              obtain ⟨U15, hV, x9', b15⟩ : ∃ V, ((((U13.setCell ⟨g9, 0, none⟩ (.int .i64 (P0 : Int))).setCell ⟨g9, 1, none⟩ (.int .i64 (P1 : Int))).setCell ⟨g9, 2, none⟩ (.int .i64 (P2 : Int))).setCell ⟨g9, 3, none⟩ (.int .i64 (P3 : Int))) = V ∧ V.heap[g9]? = some (.cells #[.int .i64 (P0 : Int), .int .i64 (P1 : Int), .int .i64 (P2 : Int), .int .i64 (P3 : Int)] 38 (0, 0)) ∧ Below wr.heap.size wr V := ⟨_, rfl, setRow_at (old := [.int .i64 0, .int .i64 0, .int .i64 0, .int .i64 0]) [.int .i64 (P0 : Int), .int .i64 (P1 : Int), .int .i64 (P2 : Int), .int .i64 (P3 : Int)] rfl x9, setRow_below y9 [.int .i64 (P0 : Int), .int .i64 (P1 : Int), .int .i64 (P2 : Int), .int .i64 (P3 : Int)] 0 _ b13⟩
              have l9' : g9 < U15.heap.size := (Array.getElem?_eq_some_iff.1 x9').1
              rw [hV]
              clear hV
              refine hK'.out _ _ (?_)
              clear d0 d1 d2 d3 dz
              clear hK' K'
              try simp only [Act.put, List.setIfInBounds_toArray, List.set_cons_zero, List.set_cons_succ]
              refine wpAnyL_done (by as_aux_lemma => kernel_rfl) ?_ _
              simp only [OnlyN]
              refine ⟨g9, ?_, x9', y9, l9', b15⟩
              (try simp only [Act.put, List.setIfInBounds_toArray, List.set_cons_zero, List.set_cons_succ])
          rintro a' W7 ⟨pb, rfl, rp, y9, l9, h7⟩
          simp only [Act.put, List.setIfInBounds_toArray, List.set_cons_zero, List.set_cons_succ]
          have z7 : W9.heap.size ≤ W7.heap.size := by have := h7.size; omega
          have HB7 := Lib.hid (HB.out.trans (h7.mono zw))
          have HRP := Lib.hid (And.intro rp ((h7.block (gm + 1) (by omega)).trans ((HB.out.block (gm + 1) (by omega)).trans HR9.out.2)))
          clear h7 im tk k2 k3 HB rp bcl HPt
          go_wp2_with fail
          go_loopg [10, 13] (lv + 1) (fun ky s10 s13 wr => ∃ (r m2 : Nat), s10 = .int .i64 (m2 : Int) ∧ s13 = .int .i64 (r : Int) ∧ r ≤ lv + 1 ∧ lv + 1 - r ≤ ky ∧ m2 ≤ 101400 * k + 16900 * r ∧ Hid (m2 = (sumN (fun c => sumN (fun r => Q.w r c * Q.h r c) (lv + 1)) k + sumN (fun r => Q.w r k * Q.h r k) r) * ly) ∧ Hid (Below W7.heap.size W7 wr))
          case atStart => exact ⟨0, m, rfl, rfl, by omega, by omega, by omega, Lib.hid (by rw [sumN]; exact HM.out), Lib.hid (Below.refl _ _)⟩
          case round =>
            clear HM hm
            obtain ⟨r, m2, rfl, rfl, hr, hky, hm2, HM2, HB2⟩ := hrel
            have rp2 := (HB2.out.block pb (by omega)).trans HRP.out.1
            have pm2 := (HB2.out.block (gm + 1) (by omega)).trans HRP.out.2
            have pc2 : wr.cell? ⟨gm + 1, 2, none⟩ = some (.int .i64 (lv : Int)) := cell_of_row _ _ 2 _ _ (0, 0) pm2
            by_cases hle : r ≤ lv
            · have hlez : (r : Int) ≤ (lv : Int) := by omega
              obtain ⟨h_res, h_bd, h_wh, h_wb⟩ := HRes.out r hle
              have HQR := Lib.hid (resolutionR_any ⟨(P0 : Nat), (P1 : Nat), (P2 : Nat), (P3 : Nat)⟩ lv r (lv - r) (by omega) (by omega) (by omega) (by unfold okR; simp only; omega))
              rw [h_res] at HQR
              have HPc := Lib.hid (precinctsR_any ⟨(ceN x0 DX (lv - r) : Nat), (ceN y0 DY (lv - r) : Nat), (ceN x1 DX (lv - r) : Nat), (ceN y1 DY (lv - r) : Nat)⟩ pr (by omega) (by unfold okR; simp only; omega) (by unfold placeR; simp only; omega) (by unfold midR; simp only; omega))
              rw [h_wh.1, h_wh.2] at HPc
              unfold rcV at HQR HPc
              simp only at HQR HPc
              clear h_res h_wh h_bd
              generalize ceN x0 DX (lv - r) = R0 at *
              generalize ceN y0 DY (lv - r) = R1 at *
              generalize ceN x1 DX (lv - r) = R2 at *
              generalize ceN y1 DY (lv - r) = R3 at *
              obtain ⟨WW, hWW⟩ : ∃ z, Q.w r k = z := ⟨_, rfl⟩
              obtain ⟨HH, hHH⟩ : ∃ z, Q.h r k = z := ⟨_, rfl⟩
              rw [hWW, hHH] at HPc h_wb
              obtain ⟨NW, hNW⟩ : ∃ z, WW * HH = z := ⟨_, rfl⟩
              have hNWb : NW ≤ 4225 := by rw [← hNW]; exact Nat.mul_le_mul h_wb.1 h_wb.2
              obtain ⟨NS, hNS⟩ : ∃ z, NW * ly = z := ⟨_, rfl⟩
              have hNSb : NS ≤ 16900 := by rw [← hNS]; exact Nat.mul_le_mul hNWb hly.2
              have HNW := Lib.hid (show Q.w r k * Q.h r k = NW by rw [hWW, hHH]; exact hNW)
              have HNS := Lib.hid hNS
              have WM1 := Lib.hid (show IntKind.i64.wrap ((WW : Int) * (HH : Int)) = (NW : Int) by rw [← Int.natCast_mul, hNW, IntKind.wrap_i64]; omega)
              have WM2 := Lib.hid (show IntKind.i64.wrap ((NW : Int) * (ly : Int)) = (NS : Int) by rw [← Int.natCast_mul, hNS, IntKind.wrap_i64]; omega)
              clear hWW hHH hNW hNS
              have zw2 := HB2.out.size
              go_wp2_with fail
              clear pc2
              refine last_cut (by kernel_rfl) (fun U => U.heap[pb]? = some (.cells #[.int .i64 (P0 : Int), .int .i64 (P1 : Int), .int .i64 (P2 : Int), .int .i64 (P3 : Int)] 38 (0, 0)) ∧ U.heap[gm + 1]? = some (.cells #[.int .i64 (tx : Int), .int .i64 (ty : Int), .int .i64 (lv : Int), .int .i64 (cw : Int), .int .i64 (ch : Int), .int .i64 (pr : Int), .int .i64 (st : Int), .int .i64 (o5 : Int), .int .i64 (ly : Int), .bool rct, .bool fsop, .bool feph] 30 (0, 0))) (fun aF a' W' => a' = (((((((((((((aF.put (some 76) (.agg #[.int .i64 (P0 : Int), .int .i64 (P1 : Int), .int .i64 (P2 : Int), .int .i64 (P3 : Int)])).put (some 77) (.pointer (some ⟨gm + 1, 2, none⟩))).put (some 78) (.int .i64 (lv : Int))).put (some 79) (.int .i64 (r : Int))).put (some 80) (.agg #[.int .i64 (R0 : Int), .int .i64 (R1 : Int), .int .i64 (R2 : Int), .int .i64 (R3 : Int)])).put (some 81) (.pointer (some ⟨gm + 1, 5, none⟩))).put (some 82) (.int .i64 (pr : Int))).put (some 83) (.tuple #[.int .i64 (WW : Int), .int .i64 (HH : Int)])).put (some 75) (.tuple #[.int .i64 (WW : Int), .int .i64 (HH : Int)])).put (some 84) (.int .i64 (WW : Int))).put (some 85) (.int .i64 (HH : Int))).put (some 14) (.int .i64 (WW : Int))).put (some 15) (.int .i64 (HH : Int))) ∧ Below wr.heap.size wr W') ⟨rp2, pm2⟩ (fun hS => ?_) ?_
              · skip
                have hSB : ∀ U : World, Below (wr.heap.size) wr U → U.heap[pb]? = some (.cells #[.int .i64 (P0 : Int), .int .i64 (P1 : Int), .int .i64 (P2 : Int), .int .i64 (P3 : Int)] 38 (0, 0)) ∧ U.heap[gm + 1]? = some (.cells #[.int .i64 (tx : Int), .int .i64 (ty : Int), .int .i64 (lv : Int), .int .i64 (cw : Int), .int .i64 (ch : Int), .int .i64 (pr : Int), .int .i64 (st : Int), .int .i64 (o5 : Int), .int .i64 (ly : Int), .bool rct, .bool fsop, .bool feph] 30 (0, 0)) := fun U h => ⟨(h.block (pb) (by omega)).trans (rp2), (h.block (gm + 1) (by omega)).trans (pm2)⟩
                have bV : Below wr.heap.size wr wr.drew := (Below.refl _ _).drew
                generalize wr.drew = V0 at *
                change wpAnyL _ _ _ _ _ 13 #[false, false, false, false, false, false, false, false, false, false, false, false, false] _ _
                refine wpAnyL_take (i := 0) (v := .agg #[.int .i64 (P0 : Int), .int .i64 (P1 : Int), .int .i64 (P2 : Int), .int .i64 (P3 : Int)]) (by simp only [List.getElem?_toArray, List.getElem?_cons_succ, List.getElem?_cons_zero]; rfl) (by as_aux_lemma => kernel_rfl) (by as_aux_lemma => kernel_rfl) (by as_aux_lemma => kernel_rfl) (fun _ _ _ h => h) (Or.inl ⟨by rfl, ?_⟩) hS ?_
                · intro U hU
                  obtain ⟨s0, s1⟩ := hU
                  exact exec_loadRow (cs := [.int .i64 (P0 : Int), .int .i64 (P1 : Int), .int .i64 (P2 : Int), .int .i64 (P3 : Int)]) rfl rfl s0 (by kernel_rfl) (by kernel_rfl)
                simp only [Act.put, List.setIfInBounds_toArray, List.set_cons_zero, List.set_cons_succ]
                refine wpAnyL_take (i := 1) (v := .pointer (some ⟨gm + 1, 2, none⟩)) (by simp only [List.getElem?_toArray, List.getElem?_cons_succ, List.getElem?_cons_zero]; rfl) (by as_aux_lemma => kernel_rfl) (by as_aux_lemma => kernel_rfl) (by as_aux_lemma => kernel_rfl) (fun _ _ _ h => h) (Or.inl ⟨by rfl, ?_⟩) hS ?_
                · intro U hU
                  obtain ⟨s0, s1⟩ := hU
                  kernel_rfl
                simp only [Act.put, List.setIfInBounds_toArray, List.set_cons_zero, List.set_cons_succ]
                refine wpAnyL_take (i := 2) (v := .int .i64 (lv : Int)) (by simp only [List.getElem?_toArray, List.getElem?_cons_succ, List.getElem?_cons_zero]; rfl) (by as_aux_lemma => kernel_rfl) (by as_aux_lemma => kernel_rfl) (by as_aux_lemma => kernel_rfl) (fun _ _ _ h => h) (Or.inl ⟨by rfl, ?_⟩) hS ?_
                · intro U hU
                  obtain ⟨s0, s1⟩ := hU
                  have r1_2 : U.cell? ⟨gm + 1, 2, none⟩ = some (.int .i64 (lv : Int)) := cell_of_row _ _ 2 _ _ (0, 0) s1
                  exact exec_loadCell rfl rfl r1_2 (by kernel_rfl)
                simp only [Act.put, List.setIfInBounds_toArray, List.set_cons_zero, List.set_cons_succ]
                refine wpAnyL_take (i := 3) (v := .int .i64 (r : Int)) (by simp only [List.getElem?_toArray, List.getElem?_cons_succ, List.getElem?_cons_zero]; rfl) (by as_aux_lemma => kernel_rfl) (by as_aux_lemma => kernel_rfl) (by as_aux_lemma => kernel_rfl) (fun _ _ _ h => h) (Or.inl ⟨by rfl, ?_⟩) hS ?_
                · intro U hU
                  obtain ⟨s0, s1⟩ := hU
                  kernel_rfl
                simp only [Act.put, List.setIfInBounds_toArray, List.set_cons_zero, List.set_cons_succ]
                refine wpAnyL_take (i := 5) (v := .pointer (some ⟨gm + 1, 5, none⟩)) (by simp only [List.getElem?_toArray, List.getElem?_cons_succ, List.getElem?_cons_zero]; rfl) (by as_aux_lemma => kernel_rfl) (by as_aux_lemma => kernel_rfl) (by as_aux_lemma => kernel_rfl) (fun _ _ _ h => h) (Or.inl ⟨by rfl, ?_⟩) hS ?_
                · intro U hU
                  obtain ⟨s0, s1⟩ := hU
                  kernel_rfl
                simp only [Act.put, List.setIfInBounds_toArray, List.set_cons_zero, List.set_cons_succ]
                refine wpAnyL_take (i := 6) (v := .int .i64 (pr : Int)) (by simp only [List.getElem?_toArray, List.getElem?_cons_succ, List.getElem?_cons_zero]; rfl) (by as_aux_lemma => kernel_rfl) (by as_aux_lemma => kernel_rfl) (by as_aux_lemma => kernel_rfl) (fun _ _ _ h => h) (Or.inl ⟨by rfl, ?_⟩) hS ?_
                · intro U hU
                  obtain ⟨s0, s1⟩ := hU
                  have r1_5 : U.cell? ⟨gm + 1, 5, none⟩ = some (.int .i64 (pr : Int)) := cell_of_row _ _ 5 _ _ (0, 0) s1
                  exact exec_loadCell rfl rfl r1_5 (by kernel_rfl)
                simp only [Act.put, List.setIfInBounds_toArray, List.set_cons_zero, List.set_cons_succ]
                refine wpAnyL_ready (rs := [4]) (by as_aux_lemma => kernel_rfl) (by simp) ?_
                refine AllReadyL.cons (by simp only [List.getElem?_toArray, List.getElem?_cons_succ, List.getElem?_cons_zero]; rfl) (fun K' hK' => ?_) AllReadyL.nil
                go_simp
                go_at_call 18
                refine (HQR.out _).mono ?_
                rintro e' Ur4 ⟨rfl, hbr4⟩
                have br4 := below_trans bV hbr4
                have hS := hSB _ br4
                dsimp only
                refine hK'.out _ _ hS (fun _ => ?_)
                clear hbr4 bV
                clear hK' K'
                try simp only [Act.put, List.setIfInBounds_toArray, List.set_cons_zero, List.set_cons_succ]
                refine wpAnyL_ready (rs := [7]) (by as_aux_lemma => kernel_rfl) (by simp) ?_
                refine AllReadyL.cons (by simp only [List.getElem?_toArray, List.getElem?_cons_succ, List.getElem?_cons_zero]; rfl) (fun K' hK' => ?_) AllReadyL.nil
                go_simp
                go_at_call 17
                refine (HPc.out _).mono ?_
                rintro e' Ur7 ⟨rfl, hbr7⟩
                have br7 := below_trans br4 hbr7
                have hS := hSB _ br7
                dsimp only
                refine hK'.out _ _ hS (fun _ => ?_)
                clear hbr7 br4
                clear hK' K'
                try simp only [Act.put, List.setIfInBounds_toArray, List.set_cons_zero, List.set_cons_succ]
                refine wpAnyL_take (i := 8) (v := .tuple #[.int .i64 (WW : Int), .int .i64 (HH : Int)]) (by simp only [List.getElem?_toArray, List.getElem?_cons_succ, List.getElem?_cons_zero]; rfl) (by as_aux_lemma => kernel_rfl) (by as_aux_lemma => kernel_rfl) (by as_aux_lemma => kernel_rfl) (fun _ _ _ h => h) (Or.inl ⟨by rfl, ?_⟩) hS ?_
                · intro U hU
                  obtain ⟨s0, s1⟩ := hU
                  kernel_rfl
                simp only [Act.put, List.setIfInBounds_toArray, List.set_cons_zero, List.set_cons_succ]
                refine wpAnyL_take (i := 9) (v := .int .i64 (WW : Int)) (by simp only [List.getElem?_toArray, List.getElem?_cons_succ, List.getElem?_cons_zero]; rfl) (by as_aux_lemma => kernel_rfl) (by as_aux_lemma => kernel_rfl) (by as_aux_lemma => kernel_rfl) (fun _ _ _ h => h) (Or.inl ⟨by rfl, ?_⟩) hS ?_
                · intro U hU
                  obtain ⟨s0, s1⟩ := hU
                  kernel_rfl
                simp only [Act.put, List.setIfInBounds_toArray, List.set_cons_zero, List.set_cons_succ]
                refine wpAnyL_take (i := 10) (v := .int .i64 (HH : Int)) (by simp only [List.getElem?_toArray, List.getElem?_cons_succ, List.getElem?_cons_zero]; rfl) (by as_aux_lemma => kernel_rfl) (by as_aux_lemma => kernel_rfl) (by as_aux_lemma => kernel_rfl) (fun _ _ _ h => h) (Or.inl ⟨by rfl, ?_⟩) hS ?_
                · intro U hU
                  obtain ⟨s0, s1⟩ := hU
                  kernel_rfl
                simp only [Act.put, List.setIfInBounds_toArray, List.set_cons_zero, List.set_cons_succ]
                refine wpAnyL_take (i := 11) (v := .int .i64 (WW : Int)) (by simp only [List.getElem?_toArray, List.getElem?_cons_succ, List.getElem?_cons_zero]; rfl) (by as_aux_lemma => kernel_rfl) (by as_aux_lemma => kernel_rfl) (by as_aux_lemma => kernel_rfl) (fun _ _ _ h => h) (Or.inl ⟨by rfl, ?_⟩) hS ?_
                · intro U hU
                  obtain ⟨s0, s1⟩ := hU
                  kernel_rfl
                simp only [Act.put, List.setIfInBounds_toArray, List.set_cons_zero, List.set_cons_succ]
                refine wpAnyL_take (i := 12) (v := .int .i64 (HH : Int)) (by simp only [List.getElem?_toArray, List.getElem?_cons_succ, List.getElem?_cons_zero]; rfl) (by as_aux_lemma => kernel_rfl) (by as_aux_lemma => kernel_rfl) (by as_aux_lemma => kernel_rfl) (fun _ _ _ h => h) (Or.inl ⟨by rfl, ?_⟩) hS ?_
                · intro U hU
                  obtain ⟨s0, s1⟩ := hU
                  kernel_rfl
                simp only [Act.put, List.setIfInBounds_toArray, List.set_cons_zero, List.set_cons_succ]
                refine wpAnyL_done (by as_aux_lemma => kernel_rfl) ?_ _
                simp only [OnlyN]
                refine ⟨?_, br7⟩
                (try simp only [Act.put, List.setIfInBounds_toArray, List.set_cons_zero, List.set_cons_succ])
              rintro a' V1 ⟨rfl, h1⟩
              simp only [Act.put, List.setIfInBounds_toArray, List.set_cons_zero, List.set_cons_succ]
              have HV1 := Lib.hid (HB2.out.trans (h1.mono zw2))
              have pm3 := (h1.block (gm + 1) (by omega)).trans pm2
              have zv1 : W7.heap.size ≤ V1.heap.size := by have := h1.size; omega
              have p8 : V1.cell? ⟨gm + 1, 8, none⟩ = some (.int .i64 (ly : Int)) := cell_of_row _ _ 8 _ _ (0, 0) pm3
              have WN1 := WM1.out
              have WN2 := WM2.out
              have hmk := run_makeB NS (by omega) V1
              clear h1 rp2 pm2 HB2 HQR HPc
              go_upto_region 20 with fail
              clear hmk p8 WN1 WN2 WM1 WM2
              obtain ⟨gs, hgs⟩ : ∃ g, V1.heap.size = g := ⟨_, rfl⟩
              generalize hV2 : World.alloc V1 _ = V2
              have sn2 : V2.heap[gs]? = some (.cells (csB (markB K k r ly 0) NS) 4 (0, 0)) := by
                rw [csB_congr (t := fun _ => false) (fun p _ => markB_zero), ← made_csB, ← hV2, ← hgs]; exact heap_alloc_new V1 _
              have h2 : Below V1.heap.size V1 V2 := by rw [← hV2]; exact below_alloc (Below.refl _ _) _
              have HV2 := Lib.hid (HV1.out.trans (h2.mono zv1))
              have HPM := Lib.hid ((h2.block (gm + 1) (by omega)).trans pm3)
              have z2 : V2.heap.size = gs + 1 := by rw [← hV2, ← hgs]; simp
              rw [hgs] at zv1 ⊢
              clear hV2 hgs h2 HV1 pm3
              go_wp2_with fail
              go_loopg [17] NK (fun kk s17 wr => ∃ (j : Nat), s17 = .int .i64 (j : Int) ∧ j ≤ NK ∧ NK - j ≤ kk ∧ Hid (SeenW V2 wr gs (csB (markB K k r ly j) NS)))
              case atStart => exact ⟨0, rfl, by omega, by omega, Lib.hid (SeenW.refl sn2)⟩
              case round =>
                clear sn2
                obtain ⟨j, rfl, hj, hkk, HS⟩ := hrel
                by_cases hlj : j < NK
                · have hljz : (j : Int) < (NK : Int) := by omega
                  obtain ⟨gk, hgk, hgk1, hgk2⟩ := HOW.out.row (by omega)
                  subst hgk
                  have hgk3 : gk < gs := by omega
                  obtain ⟨s, hs⟩ : ∃ s, K[j]?.getD default = s := ⟨_, rfl⟩
                  have kb := (((key4_of HOW.out hlj).below HB7.out hgk2).below HV2.out (by omega)).below HS.out.2 hgk3
                  rw [hs] at kb
                  have HSE := Lib.hid hs
                  clear hs
                  have kb1 := kb.2.1
                  have kb2 := kb.2.2.1
                  have zw3 : gs + 1 ≤ wr.heap.size := by have h7 := HS.out.2.size; omega
                  have WJ := wrap_add1 (a := j) (c := j + 1) rfl (by omega)
                  by_cases hc1 : ¬ s.cm = (k : Int)
                  · have HS2 := Lib.hid (HS.out.congr (fun p _ => markB_skip (fun h' => by
                      rw [HSE.out] at h'
                      exact hc1 h'.1) p))
                    clear HS kb
                    go_wp2_with fail
                    go_roundg (NK - (j + 1))
                    case measure => omega
                    case rel => exact ⟨j + 1, by go_num, by omega, Nat.le_refl _, HS2⟩
                  · have hc1' : s.cm = (k : Int) := Classical.not_not.1 hc1
                    have g1 : (K[j]?.getD default).cm = (k : Int) := by rw [HSE.out]; exact hc1'
                    rw [hc1'] at kb2
                    clear hc1 hc1'
                    by_cases hc2 : ¬ s.rs = (r : Int)
                    · have HS2 := Lib.hid (HS.out.congr (fun p _ => markB_skip (fun h' => by
                        rw [HSE.out] at h'
                        exact hc2 h'.2) p))
                      clear HS kb g1
                      go_wp2_with fail
                      go_roundg (NK - (j + 1))
                      case measure => omega
                      case rel => exact ⟨j + 1, by go_num, by omega, Nat.le_refl _, HS2⟩
                    · have hc2' : s.rs = (r : Int) := Classical.not_not.1 hc2
                      have g2 : (K[j]?.getD default).rs = (r : Int) := by rw [HSE.out]; exact hc2'
                      rw [hc2'] at kb1
                      clear hc2 hc2'
                      obtain ⟨p, l, e1, e2, hl, hpw, hat, hfree⟩ := markB_free HPK.out.2 (by rw [HPK.out.1]; exact hlj) g1 g2
                      rw [HNW.out] at hpw hat
                      rw [HNS.out] at hat
                      obtain ⟨pl, hpl⟩ : ∃ z, p * ly = z := ⟨_, rfl⟩
                      obtain ⟨at', hat'⟩ : ∃ z, pl + l = z := ⟨_, rfl⟩
                      rw [hpl, hat'] at hat hfree
                      have WP1 := Lib.hid (show IntKind.i64.wrap ((p : Int) * (ly : Int)) = (pl : Int) by rw [← Int.natCast_mul, hpl, IntKind.wrap_i64]; omega)
                      have WP2 := Lib.hid (wrap_add hat' (by omega))
                      have HH2 := Lib.hid (fun p' (hp' : p' < NS) => markB_hit (K := K) (c := k) (r := r) (ly := ly) (j := j) (a := at') g1 g2 (by rw [e1, e2, ← Int.natCast_mul, hpl, ← Int.natCast_add, hat']) p')
                      have k3 := kb.2.2.2
                      have k0 := kb.1
                      rw [HSE.out] at e1 e2
                      rw [e1] at k3
                      rw [e2] at k0
                      have pm := (HS.out.2.block (gm + 1) (by omega)).trans HPM.out
                      clear kb g1 g2 e1 e2 hpl hat'
                      go_wp2_with fail
                      clear kb1 kb2
                      refine last_cut (by kernel_rfl) (fun U => U.cell? ⟨gk, j * 4 + 3, none⟩ = some (.int .i64 (p : Int)) ∧ U.cell? ⟨gk, j * 4, none⟩ = some (.int .i64 (l : Int)) ∧ U.heap[gm + 1]? = some (.cells #[.int .i64 (tx : Int), .int .i64 (ty : Int), .int .i64 (lv : Int), .int .i64 (cw : Int), .int .i64 (ch : Int), .int .i64 (pr : Int), .int .i64 (st : Int), .int .i64 (o5 : Int), .int .i64 (ly : Int), .bool rct, .bool fsop, .bool feph] 30 (0, 0))) (fun aF a' W' => a' = (((((((((((((((aF.put (some 115) (.slice (some ⟨gk, 0, none⟩) NK cK)).put (some 116) (.int .i64 (j : Int))).put (some 117) (.pointer (some ⟨gk, j * 4, none⟩))).put (some 118) (.pointer (some ⟨gk, j * 4 + 3, none⟩))).put (some 119) (.int .i64 (p : Int))).put (some 120) (.pointer (some ⟨gm + 1, 8, none⟩))).put (some 121) (.int .i64 (ly : Int))).put (some 122) (.int .i64 (pl : Int))).put (some 123) (.slice (some ⟨gk, 0, none⟩) NK cK)).put (some 124) (.int .i64 (j : Int))).put (some 125) (.pointer (some ⟨gk, j * 4, none⟩))).put (some 126) (.pointer (some ⟨gk, j * 4, none⟩))).put (some 127) (.int .i64 (l : Int))).put (some 128) (.int .i64 (at' : Int))).put (some 18) (.int .i64 (at' : Int))) ∧ Below wr.heap.size wr W') ⟨k3, k0, pm⟩ (fun hS => ?_) ?_
                      · skip
                        have hSB : ∀ U : World, Below (wr.heap.size) wr U → U.cell? ⟨gk, j * 4 + 3, none⟩ = some (.int .i64 (p : Int)) ∧ U.cell? ⟨gk, j * 4, none⟩ = some (.int .i64 (l : Int)) ∧ U.heap[gm + 1]? = some (.cells #[.int .i64 (tx : Int), .int .i64 (ty : Int), .int .i64 (lv : Int), .int .i64 (cw : Int), .int .i64 (ch : Int), .int .i64 (pr : Int), .int .i64 (st : Int), .int .i64 (o5 : Int), .int .i64 (ly : Int), .bool rct, .bool fsop, .bool feph] 30 (0, 0)) := fun U h => ⟨(h.cell (p := ⟨gk, j * 4 + 3, none⟩) (by simp only; omega)).trans (k3), (h.cell (p := ⟨gk, j * 4, none⟩) (by simp only; omega)).trans (k0), (h.block (gm + 1) (by omega)).trans (pm)⟩
                        have bV : Below wr.heap.size wr wr.drew := (Below.refl _ _).drew
                        generalize wr.drew = V0 at *
                        change wpAnyL _ _ _ _ _ 15 #[false, false, false, false, false, false, false, false, false, false, false, false, false, false, false] _ _
                        refine wpAnyL_take (i := 0) (v := .slice (some ⟨gk, 0, none⟩) NK cK) (by simp only [List.getElem?_toArray, List.getElem?_cons_succ, List.getElem?_cons_zero]; rfl) (by as_aux_lemma => kernel_rfl) (by as_aux_lemma => kernel_rfl) (by as_aux_lemma => kernel_rfl) (fun _ _ _ h => h) (Or.inl ⟨by rfl, ?_⟩) hS ?_
                        · intro U hU
                          obtain ⟨s0, s1, s2⟩ := hU
                          kernel_rfl
                        simp only [Act.put, List.setIfInBounds_toArray, List.set_cons_zero, List.set_cons_succ]
                        refine wpAnyL_take (i := 1) (v := .int .i64 (j : Int)) (by simp only [List.getElem?_toArray, List.getElem?_cons_succ, List.getElem?_cons_zero]; rfl) (by as_aux_lemma => kernel_rfl) (by as_aux_lemma => kernel_rfl) (by as_aux_lemma => kernel_rfl) (fun _ _ _ h => h) (Or.inl ⟨by rfl, ?_⟩) hS ?_
                        · intro U hU
                          obtain ⟨s0, s1, s2⟩ := hU
                          kernel_rfl
                        simp only [Act.put, List.setIfInBounds_toArray, List.set_cons_zero, List.set_cons_succ]
                        refine wpAnyL_take (i := 2) (v := .pointer (some ⟨gk, j * 4, none⟩)) (by simp only [List.getElem?_toArray, List.getElem?_cons_succ, List.getElem?_cons_zero]; rfl) (by as_aux_lemma => kernel_rfl) (by as_aux_lemma => kernel_rfl) (by as_aux_lemma => kernel_rfl) (fun _ _ _ h => h) (Or.inl ⟨by rfl, ?_⟩) hS ?_
                        · intro U hU
                          obtain ⟨s0, s1, s2⟩ := hU
                          go_simp
                        simp only [Act.put, List.setIfInBounds_toArray, List.set_cons_zero, List.set_cons_succ]
                        refine wpAnyL_take (i := 3) (v := .pointer (some ⟨gk, j * 4 + 3, none⟩)) (by simp only [List.getElem?_toArray, List.getElem?_cons_succ, List.getElem?_cons_zero]; rfl) (by as_aux_lemma => kernel_rfl) (by as_aux_lemma => kernel_rfl) (by as_aux_lemma => kernel_rfl) (fun _ _ _ h => h) (Or.inl ⟨by rfl, ?_⟩) hS ?_
                        · intro U hU
                          obtain ⟨s0, s1, s2⟩ := hU
                          kernel_rfl
                        simp only [Act.put, List.setIfInBounds_toArray, List.set_cons_zero, List.set_cons_succ]
                        refine wpAnyL_take (i := 4) (v := .int .i64 (p : Int)) (by simp only [List.getElem?_toArray, List.getElem?_cons_succ, List.getElem?_cons_zero]; rfl) (by as_aux_lemma => kernel_rfl) (by as_aux_lemma => kernel_rfl) (by as_aux_lemma => kernel_rfl) (fun _ _ _ h => h) (Or.inl ⟨by rfl, ?_⟩) hS ?_
                        · intro U hU
                          obtain ⟨s0, s1, s2⟩ := hU
                          exact exec_loadCell rfl rfl s0 (by kernel_rfl)
                        simp only [Act.put, List.setIfInBounds_toArray, List.set_cons_zero, List.set_cons_succ]
                        refine wpAnyL_take (i := 5) (v := .pointer (some ⟨gm + 1, 8, none⟩)) (by simp only [List.getElem?_toArray, List.getElem?_cons_succ, List.getElem?_cons_zero]; rfl) (by as_aux_lemma => kernel_rfl) (by as_aux_lemma => kernel_rfl) (by as_aux_lemma => kernel_rfl) (fun _ _ _ h => h) (Or.inl ⟨by rfl, ?_⟩) hS ?_
                        · intro U hU
                          obtain ⟨s0, s1, s2⟩ := hU
                          kernel_rfl
                        simp only [Act.put, List.setIfInBounds_toArray, List.set_cons_zero, List.set_cons_succ]
                        refine wpAnyL_take (i := 6) (v := .int .i64 (ly : Int)) (by simp only [List.getElem?_toArray, List.getElem?_cons_succ, List.getElem?_cons_zero]; rfl) (by as_aux_lemma => kernel_rfl) (by as_aux_lemma => kernel_rfl) (by as_aux_lemma => kernel_rfl) (fun _ _ _ h => h) (Or.inl ⟨by rfl, ?_⟩) hS ?_
                        · intro U hU
                          obtain ⟨s0, s1, s2⟩ := hU
                          have r2_8 : U.cell? ⟨gm + 1, 8, none⟩ = some (.int .i64 (ly : Int)) := cell_of_row _ _ 8 _ _ (0, 0) s2
                          exact exec_loadCell rfl rfl r2_8 (by kernel_rfl)
                        simp only [Act.put, List.setIfInBounds_toArray, List.set_cons_zero, List.set_cons_succ]
                        refine wpAnyL_take (i := 7) (v := .int .i64 (pl : Int)) (by simp only [List.getElem?_toArray, List.getElem?_cons_succ, List.getElem?_cons_zero]; rfl) (by as_aux_lemma => kernel_rfl) (by as_aux_lemma => kernel_rfl) (by as_aux_lemma => kernel_rfl) (fun _ _ _ h => h) (Or.inl ⟨by rfl, ?_⟩) hS ?_
                        · intro U hU
                          obtain ⟨s0, s1, s2⟩ := hU
                          have z1 := WP1.out
                          go_simp
                        simp only [Act.put, List.setIfInBounds_toArray, List.set_cons_zero, List.set_cons_succ]
                        refine wpAnyL_take (i := 8) (v := .slice (some ⟨gk, 0, none⟩) NK cK) (by simp only [List.getElem?_toArray, List.getElem?_cons_succ, List.getElem?_cons_zero]; rfl) (by as_aux_lemma => kernel_rfl) (by as_aux_lemma => kernel_rfl) (by as_aux_lemma => kernel_rfl) (fun _ _ _ h => h) (Or.inl ⟨by rfl, ?_⟩) hS ?_
                        · intro U hU
                          obtain ⟨s0, s1, s2⟩ := hU
                          kernel_rfl
                        simp only [Act.put, List.setIfInBounds_toArray, List.set_cons_zero, List.set_cons_succ]
                        refine wpAnyL_take (i := 9) (v := .int .i64 (j : Int)) (by simp only [List.getElem?_toArray, List.getElem?_cons_succ, List.getElem?_cons_zero]; rfl) (by as_aux_lemma => kernel_rfl) (by as_aux_lemma => kernel_rfl) (by as_aux_lemma => kernel_rfl) (fun _ _ _ h => h) (Or.inl ⟨by rfl, ?_⟩) hS ?_
                        · intro U hU
                          obtain ⟨s0, s1, s2⟩ := hU
                          kernel_rfl
                        simp only [Act.put, List.setIfInBounds_toArray, List.set_cons_zero, List.set_cons_succ]
                        refine wpAnyL_take (i := 10) (v := .pointer (some ⟨gk, j * 4, none⟩)) (by simp only [List.getElem?_toArray, List.getElem?_cons_succ, List.getElem?_cons_zero]; rfl) (by as_aux_lemma => kernel_rfl) (by as_aux_lemma => kernel_rfl) (by as_aux_lemma => kernel_rfl) (fun _ _ _ h => h) (Or.inl ⟨by rfl, ?_⟩) hS ?_
                        · intro U hU
                          obtain ⟨s0, s1, s2⟩ := hU
                          go_simp
                        simp only [Act.put, List.setIfInBounds_toArray, List.set_cons_zero, List.set_cons_succ]
                        refine wpAnyL_take (i := 11) (v := .pointer (some ⟨gk, j * 4, none⟩)) (by simp only [List.getElem?_toArray, List.getElem?_cons_succ, List.getElem?_cons_zero]; rfl) (by as_aux_lemma => kernel_rfl) (by as_aux_lemma => kernel_rfl) (by as_aux_lemma => kernel_rfl) (fun _ _ _ h => h) (Or.inl ⟨by rfl, ?_⟩) hS ?_
                        · intro U hU
                          obtain ⟨s0, s1, s2⟩ := hU
                          kernel_rfl
                        simp only [Act.put, List.setIfInBounds_toArray, List.set_cons_zero, List.set_cons_succ]
                        refine wpAnyL_take (i := 12) (v := .int .i64 (l : Int)) (by simp only [List.getElem?_toArray, List.getElem?_cons_succ, List.getElem?_cons_zero]; rfl) (by as_aux_lemma => kernel_rfl) (by as_aux_lemma => kernel_rfl) (by as_aux_lemma => kernel_rfl) (fun _ _ _ h => h) (Or.inl ⟨by rfl, ?_⟩) hS ?_
                        · intro U hU
                          obtain ⟨s0, s1, s2⟩ := hU
                          exact exec_loadCell rfl rfl s1 (by kernel_rfl)
                        simp only [Act.put, List.setIfInBounds_toArray, List.set_cons_zero, List.set_cons_succ]
                        refine wpAnyL_take (i := 13) (v := .int .i64 (at' : Int)) (by simp only [List.getElem?_toArray, List.getElem?_cons_succ, List.getElem?_cons_zero]; rfl) (by as_aux_lemma => kernel_rfl) (by as_aux_lemma => kernel_rfl) (by as_aux_lemma => kernel_rfl) (fun _ _ _ h => h) (Or.inl ⟨by rfl, ?_⟩) hS ?_
                        · intro U hU
                          obtain ⟨s0, s1, s2⟩ := hU
                          have z1 := WP2.out
                          go_simp
                        simp only [Act.put, List.setIfInBounds_toArray, List.set_cons_zero, List.set_cons_succ]
                        refine wpAnyL_take (i := 14) (v := .int .i64 (at' : Int)) (by simp only [List.getElem?_toArray, List.getElem?_cons_succ, List.getElem?_cons_zero]; rfl) (by as_aux_lemma => kernel_rfl) (by as_aux_lemma => kernel_rfl) (by as_aux_lemma => kernel_rfl) (fun _ _ _ h => h) (Or.inl ⟨by rfl, ?_⟩) hS ?_
                        · intro U hU
                          obtain ⟨s0, s1, s2⟩ := hU
                          kernel_rfl
                        simp only [Act.put, List.setIfInBounds_toArray, List.set_cons_zero, List.set_cons_succ]
                        refine wpAnyL_done (by as_aux_lemma => kernel_rfl) ?_ _
                        simp only [OnlyN]
                        refine ⟨?_, bV⟩
                        (try simp only [Act.put, List.setIfInBounds_toArray, List.set_cons_zero, List.set_cons_succ])
                      rintro a' Wa ⟨rfl, ha⟩
                      simp only [Act.put, List.setIfInBounds_toArray, List.set_cons_zero, List.set_cons_succ]
                      have HSa := Lib.hid (HS.out.quiet ha (by omega))
                      have zwa : gs + 1 ≤ Wa.heap.size := by have := ha.size; omega
                      replace k0 := (ha.cell (p := ⟨gk, j * 4, none⟩) (by simp only; omega)).trans k0
                      replace pm := (ha.block (gm + 1) (by omega)).trans pm
                      have hun := HSa.out.seen hat
                      rw [hfree] at hun
                      have hlz : ¬ (l : Int) < 0 := by omega
                      have hlz2 : ¬ (ly : Int) ≤ (l : Int) := by omega
                      have haz : ¬ (at' : Int) < 0 := by omega
                      have haz2 : ¬ (NS : Int) ≤ (at' : Int) := by omega
                      have hatz : (at' : Int) < (NS : Int) := by omega
                      clear ha HS k3 WP1 WP2 hfree
                      go_wp2_with fail
                      refine last_cut (by kernel_rfl) (fun U => U.cell? ⟨gk, j * 4, none⟩ = some (.int .i64 (l : Int)) ∧ U.heap[gm + 1]? = some (.cells #[.int .i64 (tx : Int), .int .i64 (ty : Int), .int .i64 (lv : Int), .int .i64 (cw : Int), .int .i64 (ch : Int), .int .i64 (pr : Int), .int .i64 (st : Int), .int .i64 (o5 : Int), .int .i64 (ly : Int), .bool rct, .bool fsop, .bool feph] 30 (0, 0)) ∧ U.cell? ⟨gs, at', none⟩ = some (.bool false)) (fun aF a' W' => a' = ((((((((((((((((((((((((((((((((aF.put (some 129) (.slice (some ⟨gk, 0, none⟩) NK cK)).put (some 130) (.int .i64 (j : Int))).put (some 131) (.pointer (some ⟨gk, j * 4, none⟩))).put (some 132) (.pointer (some ⟨gk, j * 4, none⟩))).put (some 133) (.int .i64 (l : Int))).put (some 134) (.bool false)).put (some 135) (.bool false)).put (some 136) (.slice (some ⟨gk, 0, none⟩) NK cK)).put (some 137) (.int .i64 (j : Int))).put (some 138) (.pointer (some ⟨gk, j * 4, none⟩))).put (some 139) (.pointer (some ⟨gk, j * 4, none⟩))).put (some 140) (.int .i64 (l : Int))).put (some 141) (.pointer (some ⟨gm + 1, 8, none⟩))).put (some 142) (.int .i64 (ly : Int))).put (some 143) (.bool false)).put (some 144) (.bool false)).put (some 145) (.bool false)).put (some 146) (.int .i64 (at' : Int))).put (some 147) (.bool false)).put (some 148) (.bool false)).put (some 149) (.bool false)).put (some 150) (.int .i64 (at' : Int))).put (some 151) (.slice (some ⟨gs, 0, none⟩) NS NS)).put (some 152) (.int .i64 (NS : Int))).put (some 153) (.bool false)).put (some 154) (.bool false)).put (some 155) (.bool false)).put (some 156) (.slice (some ⟨gs, 0, none⟩) NS NS)).put (some 157) (.int .i64 (at' : Int))).put (some 158) (.pointer (some ⟨gs, at', none⟩))).put (some 159) (.bool false)).put (some 160) (.bool false)) ∧ Below Wa.heap.size Wa W') ⟨k0, pm, hun⟩ (fun hS => ?_) ?_
                      · skip
                        have hSB : ∀ U : World, Below (Wa.heap.size) Wa U → U.cell? ⟨gk, j * 4, none⟩ = some (.int .i64 (l : Int)) ∧ U.heap[gm + 1]? = some (.cells #[.int .i64 (tx : Int), .int .i64 (ty : Int), .int .i64 (lv : Int), .int .i64 (cw : Int), .int .i64 (ch : Int), .int .i64 (pr : Int), .int .i64 (st : Int), .int .i64 (o5 : Int), .int .i64 (ly : Int), .bool rct, .bool fsop, .bool feph] 30 (0, 0)) ∧ U.cell? ⟨gs, at', none⟩ = some (.bool false) := fun U h => ⟨(h.cell (p := ⟨gk, j * 4, none⟩) (by simp only; omega)).trans (k0), (h.block (gm + 1) (by omega)).trans (pm), (h.cell (p := ⟨gs, at', none⟩) (by simp only; omega)).trans (hun)⟩
                        have bV : Below Wa.heap.size Wa Wa.drew := (Below.refl _ _).drew
                        generalize Wa.drew = V0 at *
                        change wpAnyL _ _ _ _ _ 32 #[false, false, false, false, false, false, false, false, false, false, false, false, false, false, false, false, false, false, false, false, false, false, false, false, false, false, false, false, false, false, false, false] _ _
                        refine wpAnyL_take (i := 0) (v := .slice (some ⟨gk, 0, none⟩) NK cK) (by simp only [List.getElem?_toArray, List.getElem?_cons_succ, List.getElem?_cons_zero]; rfl) (by as_aux_lemma => kernel_rfl) (by as_aux_lemma => kernel_rfl) (by as_aux_lemma => kernel_rfl) (fun _ _ _ h => h) (Or.inl ⟨by rfl, ?_⟩) hS ?_
                        · intro U hU
                          obtain ⟨s0, s1, s2⟩ := hU
                          kernel_rfl
                        simp only [Act.put, List.setIfInBounds_toArray, List.set_cons_zero, List.set_cons_succ]
                        refine wpAnyL_take (i := 1) (v := .int .i64 (j : Int)) (by simp only [List.getElem?_toArray, List.getElem?_cons_succ, List.getElem?_cons_zero]; rfl) (by as_aux_lemma => kernel_rfl) (by as_aux_lemma => kernel_rfl) (by as_aux_lemma => kernel_rfl) (fun _ _ _ h => h) (Or.inl ⟨by rfl, ?_⟩) hS ?_
                        · intro U hU
                          obtain ⟨s0, s1, s2⟩ := hU
                          kernel_rfl
                        simp only [Act.put, List.setIfInBounds_toArray, List.set_cons_zero, List.set_cons_succ]
                        refine wpAnyL_take (i := 2) (v := .pointer (some ⟨gk, j * 4, none⟩)) (by simp only [List.getElem?_toArray, List.getElem?_cons_succ, List.getElem?_cons_zero]; rfl) (by as_aux_lemma => kernel_rfl) (by as_aux_lemma => kernel_rfl) (by as_aux_lemma => kernel_rfl) (fun _ _ _ h => h) (Or.inl ⟨by rfl, ?_⟩) hS ?_
                        · intro U hU
                          obtain ⟨s0, s1, s2⟩ := hU
                          go_simp
                        simp only [Act.put, List.setIfInBounds_toArray, List.set_cons_zero, List.set_cons_succ]
                        refine wpAnyL_take (i := 3) (v := .pointer (some ⟨gk, j * 4, none⟩)) (by simp only [List.getElem?_toArray, List.getElem?_cons_succ, List.getElem?_cons_zero]; rfl) (by as_aux_lemma => kernel_rfl) (by as_aux_lemma => kernel_rfl) (by as_aux_lemma => kernel_rfl) (fun _ _ _ h => h) (Or.inl ⟨by rfl, ?_⟩) hS ?_
                        · intro U hU
                          obtain ⟨s0, s1, s2⟩ := hU
                          kernel_rfl
                        simp only [Act.put, List.setIfInBounds_toArray, List.set_cons_zero, List.set_cons_succ]
                        refine wpAnyL_take (i := 4) (v := .int .i64 (l : Int)) (by simp only [List.getElem?_toArray, List.getElem?_cons_succ, List.getElem?_cons_zero]; rfl) (by as_aux_lemma => kernel_rfl) (by as_aux_lemma => kernel_rfl) (by as_aux_lemma => kernel_rfl) (fun _ _ _ h => h) (Or.inl ⟨by rfl, ?_⟩) hS ?_
                        · intro U hU
                          obtain ⟨s0, s1, s2⟩ := hU
                          exact exec_loadCell rfl rfl s0 (by kernel_rfl)
                        simp only [Act.put, List.setIfInBounds_toArray, List.set_cons_zero, List.set_cons_succ]
                        refine wpAnyL_take (i := 5) (v := .bool false) (by simp only [List.getElem?_toArray, List.getElem?_cons_succ, List.getElem?_cons_zero]; rfl) (by as_aux_lemma => kernel_rfl) (by as_aux_lemma => kernel_rfl) (by as_aux_lemma => kernel_rfl) (fun _ _ _ h => h) (Or.inl ⟨by rfl, ?_⟩) hS ?_
                        · intro U hU
                          obtain ⟨s0, s1, s2⟩ := hU
                          go_simp
                        simp only [Act.put, List.setIfInBounds_toArray, List.set_cons_zero, List.set_cons_succ]
                        refine wpAnyL_take (i := 6) (v := .bool false) (by simp only [List.getElem?_toArray, List.getElem?_cons_succ, List.getElem?_cons_zero]; rfl) (by as_aux_lemma => kernel_rfl) (by as_aux_lemma => kernel_rfl) (by as_aux_lemma => kernel_rfl) (fun _ _ _ h => h) (Or.inl ⟨by rfl, ?_⟩) hS ?_
                        · intro U hU
                          obtain ⟨s0, s1, s2⟩ := hU
                          kernel_rfl
                        simp only [Act.put, List.setIfInBounds_toArray, List.set_cons_zero, List.set_cons_succ]
                        refine wpAnyL_take (i := 7) (v := .slice (some ⟨gk, 0, none⟩) NK cK) (by simp only [List.getElem?_toArray, List.getElem?_cons_succ, List.getElem?_cons_zero]; rfl) (by as_aux_lemma => kernel_rfl) (by as_aux_lemma => kernel_rfl) (by as_aux_lemma => kernel_rfl) (fun _ _ _ h => h) (Or.inl ⟨by rfl, ?_⟩) hS ?_
                        · intro U hU
                          obtain ⟨s0, s1, s2⟩ := hU
                          kernel_rfl
                        simp only [Act.put, List.setIfInBounds_toArray, List.set_cons_zero, List.set_cons_succ]
                        refine wpAnyL_take (i := 8) (v := .int .i64 (j : Int)) (by simp only [List.getElem?_toArray, List.getElem?_cons_succ, List.getElem?_cons_zero]; rfl) (by as_aux_lemma => kernel_rfl) (by as_aux_lemma => kernel_rfl) (by as_aux_lemma => kernel_rfl) (fun _ _ _ h => h) (Or.inl ⟨by rfl, ?_⟩) hS ?_
                        · intro U hU
                          obtain ⟨s0, s1, s2⟩ := hU
                          kernel_rfl
                        simp only [Act.put, List.setIfInBounds_toArray, List.set_cons_zero, List.set_cons_succ]
                        refine wpAnyL_take (i := 9) (v := .pointer (some ⟨gk, j * 4, none⟩)) (by simp only [List.getElem?_toArray, List.getElem?_cons_succ, List.getElem?_cons_zero]; rfl) (by as_aux_lemma => kernel_rfl) (by as_aux_lemma => kernel_rfl) (by as_aux_lemma => kernel_rfl) (fun _ _ _ h => h) (Or.inl ⟨by rfl, ?_⟩) hS ?_
                        · intro U hU
                          obtain ⟨s0, s1, s2⟩ := hU
                          go_simp
                        simp only [Act.put, List.setIfInBounds_toArray, List.set_cons_zero, List.set_cons_succ]
                        refine wpAnyL_take (i := 10) (v := .pointer (some ⟨gk, j * 4, none⟩)) (by simp only [List.getElem?_toArray, List.getElem?_cons_succ, List.getElem?_cons_zero]; rfl) (by as_aux_lemma => kernel_rfl) (by as_aux_lemma => kernel_rfl) (by as_aux_lemma => kernel_rfl) (fun _ _ _ h => h) (Or.inl ⟨by rfl, ?_⟩) hS ?_
                        · intro U hU
                          obtain ⟨s0, s1, s2⟩ := hU
                          kernel_rfl
                        simp only [Act.put, List.setIfInBounds_toArray, List.set_cons_zero, List.set_cons_succ]
                        refine wpAnyL_take (i := 11) (v := .int .i64 (l : Int)) (by simp only [List.getElem?_toArray, List.getElem?_cons_succ, List.getElem?_cons_zero]; rfl) (by as_aux_lemma => kernel_rfl) (by as_aux_lemma => kernel_rfl) (by as_aux_lemma => kernel_rfl) (fun _ _ _ h => h) (Or.inl ⟨by rfl, ?_⟩) hS ?_
                        · intro U hU
                          obtain ⟨s0, s1, s2⟩ := hU
                          exact exec_loadCell rfl rfl s0 (by kernel_rfl)
                        simp only [Act.put, List.setIfInBounds_toArray, List.set_cons_zero, List.set_cons_succ]
                        refine wpAnyL_take (i := 12) (v := .pointer (some ⟨gm + 1, 8, none⟩)) (by simp only [List.getElem?_toArray, List.getElem?_cons_succ, List.getElem?_cons_zero]; rfl) (by as_aux_lemma => kernel_rfl) (by as_aux_lemma => kernel_rfl) (by as_aux_lemma => kernel_rfl) (fun _ _ _ h => h) (Or.inl ⟨by rfl, ?_⟩) hS ?_
                        · intro U hU
                          obtain ⟨s0, s1, s2⟩ := hU
                          kernel_rfl
                        simp only [Act.put, List.setIfInBounds_toArray, List.set_cons_zero, List.set_cons_succ]
                        refine wpAnyL_take (i := 13) (v := .int .i64 (ly : Int)) (by simp only [List.getElem?_toArray, List.getElem?_cons_succ, List.getElem?_cons_zero]; rfl) (by as_aux_lemma => kernel_rfl) (by as_aux_lemma => kernel_rfl) (by as_aux_lemma => kernel_rfl) (fun _ _ _ h => h) (Or.inl ⟨by rfl, ?_⟩) hS ?_
                        · intro U hU
                          obtain ⟨s0, s1, s2⟩ := hU
                          have r1_8 : U.cell? ⟨gm + 1, 8, none⟩ = some (.int .i64 (ly : Int)) := cell_of_row _ _ 8 _ _ (0, 0) s1
                          exact exec_loadCell rfl rfl r1_8 (by kernel_rfl)
                        simp only [Act.put, List.setIfInBounds_toArray, List.set_cons_zero, List.set_cons_succ]
                        refine wpAnyL_take (i := 14) (v := .bool false) (by simp only [List.getElem?_toArray, List.getElem?_cons_succ, List.getElem?_cons_zero]; rfl) (by as_aux_lemma => kernel_rfl) (by as_aux_lemma => kernel_rfl) (by as_aux_lemma => kernel_rfl) (fun _ _ _ h => h) (Or.inl ⟨by rfl, ?_⟩) hS ?_
                        · intro U hU
                          obtain ⟨s0, s1, s2⟩ := hU
                          go_simp
                        simp only [Act.put, List.setIfInBounds_toArray, List.set_cons_zero, List.set_cons_succ]
                        refine wpAnyL_take (i := 15) (v := .bool false) (by simp only [List.getElem?_toArray, List.getElem?_cons_succ, List.getElem?_cons_zero]; rfl) (by as_aux_lemma => kernel_rfl) (by as_aux_lemma => kernel_rfl) (by as_aux_lemma => kernel_rfl) (fun _ _ _ h => h) (Or.inl ⟨by rfl, ?_⟩) hS ?_
                        · intro U hU
                          obtain ⟨s0, s1, s2⟩ := hU
                          kernel_rfl
                        simp only [Act.put, List.setIfInBounds_toArray, List.set_cons_zero, List.set_cons_succ]
                        refine wpAnyL_take (i := 16) (v := .bool false) (by simp only [List.getElem?_toArray, List.getElem?_cons_succ, List.getElem?_cons_zero]; rfl) (by as_aux_lemma => kernel_rfl) (by as_aux_lemma => kernel_rfl) (by as_aux_lemma => kernel_rfl) (fun _ _ _ h => h) (Or.inl ⟨by rfl, ?_⟩) hS ?_
                        · intro U hU
                          obtain ⟨s0, s1, s2⟩ := hU
                          kernel_rfl
                        simp only [Act.put, List.setIfInBounds_toArray, List.set_cons_zero, List.set_cons_succ]
                        refine wpAnyL_take (i := 17) (v := .int .i64 (at' : Int)) (by simp only [List.getElem?_toArray, List.getElem?_cons_succ, List.getElem?_cons_zero]; rfl) (by as_aux_lemma => kernel_rfl) (by as_aux_lemma => kernel_rfl) (by as_aux_lemma => kernel_rfl) (fun _ _ _ h => h) (Or.inl ⟨by rfl, ?_⟩) hS ?_
                        · intro U hU
                          obtain ⟨s0, s1, s2⟩ := hU
                          kernel_rfl
                        simp only [Act.put, List.setIfInBounds_toArray, List.set_cons_zero, List.set_cons_succ]
                        refine wpAnyL_take (i := 18) (v := .bool false) (by simp only [List.getElem?_toArray, List.getElem?_cons_succ, List.getElem?_cons_zero]; rfl) (by as_aux_lemma => kernel_rfl) (by as_aux_lemma => kernel_rfl) (by as_aux_lemma => kernel_rfl) (fun _ _ _ h => h) (Or.inl ⟨by rfl, ?_⟩) hS ?_
                        · intro U hU
                          obtain ⟨s0, s1, s2⟩ := hU
                          go_simp
                        simp only [Act.put, List.setIfInBounds_toArray, List.set_cons_zero, List.set_cons_succ]
                        refine wpAnyL_take (i := 19) (v := .bool false) (by simp only [List.getElem?_toArray, List.getElem?_cons_succ, List.getElem?_cons_zero]; rfl) (by as_aux_lemma => kernel_rfl) (by as_aux_lemma => kernel_rfl) (by as_aux_lemma => kernel_rfl) (fun _ _ _ h => h) (Or.inl ⟨by rfl, ?_⟩) hS ?_
                        · intro U hU
                          obtain ⟨s0, s1, s2⟩ := hU
                          kernel_rfl
                        simp only [Act.put, List.setIfInBounds_toArray, List.set_cons_zero, List.set_cons_succ]
                        refine wpAnyL_take (i := 20) (v := .bool false) (by simp only [List.getElem?_toArray, List.getElem?_cons_succ, List.getElem?_cons_zero]; rfl) (by as_aux_lemma => kernel_rfl) (by as_aux_lemma => kernel_rfl) (by as_aux_lemma => kernel_rfl) (fun _ _ _ h => h) (Or.inl ⟨by rfl, ?_⟩) hS ?_
                        · intro U hU
                          obtain ⟨s0, s1, s2⟩ := hU
                          kernel_rfl
                        simp only [Act.put, List.setIfInBounds_toArray, List.set_cons_zero, List.set_cons_succ]
                        refine wpAnyL_take (i := 21) (v := .int .i64 (at' : Int)) (by simp only [List.getElem?_toArray, List.getElem?_cons_succ, List.getElem?_cons_zero]; rfl) (by as_aux_lemma => kernel_rfl) (by as_aux_lemma => kernel_rfl) (by as_aux_lemma => kernel_rfl) (fun _ _ _ h => h) (Or.inl ⟨by rfl, ?_⟩) hS ?_
                        · intro U hU
                          obtain ⟨s0, s1, s2⟩ := hU
                          kernel_rfl
                        simp only [Act.put, List.setIfInBounds_toArray, List.set_cons_zero, List.set_cons_succ]
                        refine wpAnyL_take (i := 22) (v := .slice (some ⟨gs, 0, none⟩) NS NS) (by simp only [List.getElem?_toArray, List.getElem?_cons_succ, List.getElem?_cons_zero]; rfl) (by as_aux_lemma => kernel_rfl) (by as_aux_lemma => kernel_rfl) (by as_aux_lemma => kernel_rfl) (fun _ _ _ h => h) (Or.inl ⟨by rfl, ?_⟩) hS ?_
                        · intro U hU
                          obtain ⟨s0, s1, s2⟩ := hU
                          kernel_rfl
                        simp only [Act.put, List.setIfInBounds_toArray, List.set_cons_zero, List.set_cons_succ]
                        refine wpAnyL_take (i := 23) (v := .int .i64 (NS : Int)) (by simp only [List.getElem?_toArray, List.getElem?_cons_succ, List.getElem?_cons_zero]; rfl) (by as_aux_lemma => kernel_rfl) (by as_aux_lemma => kernel_rfl) (by as_aux_lemma => kernel_rfl) (fun _ _ _ h => h) (Or.inl ⟨by rfl, ?_⟩) hS ?_
                        · intro U hU
                          obtain ⟨s0, s1, s2⟩ := hU
                          go_simp
                        simp only [Act.put, List.setIfInBounds_toArray, List.set_cons_zero, List.set_cons_succ]
                        refine wpAnyL_take (i := 24) (v := .bool false) (by simp only [List.getElem?_toArray, List.getElem?_cons_succ, List.getElem?_cons_zero]; rfl) (by as_aux_lemma => kernel_rfl) (by as_aux_lemma => kernel_rfl) (by as_aux_lemma => kernel_rfl) (fun _ _ _ h => h) (Or.inl ⟨by rfl, ?_⟩) hS ?_
                        · intro U hU
                          obtain ⟨s0, s1, s2⟩ := hU
                          go_simp
                        simp only [Act.put, List.setIfInBounds_toArray, List.set_cons_zero, List.set_cons_succ]
                        refine wpAnyL_take (i := 25) (v := .bool false) (by simp only [List.getElem?_toArray, List.getElem?_cons_succ, List.getElem?_cons_zero]; rfl) (by as_aux_lemma => kernel_rfl) (by as_aux_lemma => kernel_rfl) (by as_aux_lemma => kernel_rfl) (fun _ _ _ h => h) (Or.inl ⟨by rfl, ?_⟩) hS ?_
                        · intro U hU
                          obtain ⟨s0, s1, s2⟩ := hU
                          kernel_rfl
                        simp only [Act.put, List.setIfInBounds_toArray, List.set_cons_zero, List.set_cons_succ]
                        refine wpAnyL_take (i := 26) (v := .bool false) (by simp only [List.getElem?_toArray, List.getElem?_cons_succ, List.getElem?_cons_zero]; rfl) (by as_aux_lemma => kernel_rfl) (by as_aux_lemma => kernel_rfl) (by as_aux_lemma => kernel_rfl) (fun _ _ _ h => h) (Or.inl ⟨by rfl, ?_⟩) hS ?_
                        · intro U hU
                          obtain ⟨s0, s1, s2⟩ := hU
                          kernel_rfl
                        simp only [Act.put, List.setIfInBounds_toArray, List.set_cons_zero, List.set_cons_succ]
                        refine wpAnyL_take (i := 27) (v := .slice (some ⟨gs, 0, none⟩) NS NS) (by simp only [List.getElem?_toArray, List.getElem?_cons_succ, List.getElem?_cons_zero]; rfl) (by as_aux_lemma => kernel_rfl) (by as_aux_lemma => kernel_rfl) (by as_aux_lemma => kernel_rfl) (fun _ _ _ h => h) (Or.inl ⟨by rfl, ?_⟩) hS ?_
                        · intro U hU
                          obtain ⟨s0, s1, s2⟩ := hU
                          kernel_rfl
                        simp only [Act.put, List.setIfInBounds_toArray, List.set_cons_zero, List.set_cons_succ]
                        refine wpAnyL_take (i := 28) (v := .int .i64 (at' : Int)) (by simp only [List.getElem?_toArray, List.getElem?_cons_succ, List.getElem?_cons_zero]; rfl) (by as_aux_lemma => kernel_rfl) (by as_aux_lemma => kernel_rfl) (by as_aux_lemma => kernel_rfl) (fun _ _ _ h => h) (Or.inl ⟨by rfl, ?_⟩) hS ?_
                        · intro U hU
                          obtain ⟨s0, s1, s2⟩ := hU
                          kernel_rfl
                        simp only [Act.put, List.setIfInBounds_toArray, List.set_cons_zero, List.set_cons_succ]
                        refine wpAnyL_take (i := 29) (v := .pointer (some ⟨gs, at', none⟩)) (by simp only [List.getElem?_toArray, List.getElem?_cons_succ, List.getElem?_cons_zero]; rfl) (by as_aux_lemma => kernel_rfl) (by as_aux_lemma => kernel_rfl) (by as_aux_lemma => kernel_rfl) (fun _ _ _ h => h) (Or.inl ⟨by rfl, ?_⟩) hS ?_
                        · intro U hU
                          obtain ⟨s0, s1, s2⟩ := hU
                          go_simp
                        simp only [Act.put, List.setIfInBounds_toArray, List.set_cons_zero, List.set_cons_succ]
                        refine wpAnyL_take (i := 30) (v := .bool false) (by simp only [List.getElem?_toArray, List.getElem?_cons_succ, List.getElem?_cons_zero]; rfl) (by as_aux_lemma => kernel_rfl) (by as_aux_lemma => kernel_rfl) (by as_aux_lemma => kernel_rfl) (fun _ _ _ h => h) (Or.inl ⟨by rfl, ?_⟩) hS ?_
                        · intro U hU
                          obtain ⟨s0, s1, s2⟩ := hU
                          exact exec_loadCell rfl rfl s2 (by kernel_rfl)
                        simp only [Act.put, List.setIfInBounds_toArray, List.set_cons_zero, List.set_cons_succ]
                        refine wpAnyL_take (i := 31) (v := .bool false) (by simp only [List.getElem?_toArray, List.getElem?_cons_succ, List.getElem?_cons_zero]; rfl) (by as_aux_lemma => kernel_rfl) (by as_aux_lemma => kernel_rfl) (by as_aux_lemma => kernel_rfl) (fun _ _ _ h => h) (Or.inl ⟨by rfl, ?_⟩) hS ?_
                        · intro U hU
                          obtain ⟨s0, s1, s2⟩ := hU
                          kernel_rfl
                        simp only [Act.put, List.setIfInBounds_toArray, List.set_cons_zero, List.set_cons_succ]
                        refine wpAnyL_done (by as_aux_lemma => kernel_rfl) ?_ _
                        simp only [OnlyN]
                        refine ⟨?_, bV⟩
                        (try simp only [Act.put, List.setIfInBounds_toArray, List.set_cons_zero, List.set_cons_succ])
                      rintro a' Wb ⟨rfl, hb⟩
                      simp only [Act.put, List.setIfInBounds_toArray, List.set_cons_zero, List.set_cons_succ]
                      have HSb := Lib.hid (HSa.out.quiet hb (by omega))
                      have hun2 := (hb.cell (p := ⟨gs, at', none⟩) (by simp only; omega)).trans hun
                      have hfr := HSb.out.free (p := at')
                      have HS3 := Lib.hid ((HSb.out.set hat).congr HH2.out)
                      clear HSa HSb HH2 hun hb k0 pm hlz hlz2 haz haz2
                      go_wp2_with fail
                      go_roundg (NK - (j + 1))
                      case measure => omega
                      case rel => exact ⟨j + 1, by go_num, by omega, Nat.le_refl _, HS3⟩
                · have hljz : ¬ (j : Int) < (NK : Int) := by omega
                  have WR := wrap_add1 (a := r) (c := r + 1) rfl (by omega)
                  obtain ⟨m3, hm3⟩ : ∃ z, m2 + NS = z := ⟨_, rfl⟩
                  have W3 := wrap_add hm3 (by omega)
                  have HM3 := Lib.hid (show m3 = (sumN (fun c => sumN (fun r => Q.w r c * Q.h r c) (lv + 1)) k + sumN (fun r => Q.w r k * Q.h r k) (r + 1)) * ly by
                    rw [← hm3, sumN, HNW.out, ← Nat.add_assoc, Nat.add_mul, HNS.out, ← HM2.out])
                  have HB3 := Lib.hid (HV2.out.trans (HS.out.2.mono zv1))
                  clear HM2
                  go_wp2_with fail
                  go_roundg (lv + 1 - (r + 1))
                  case measure => omega
                  case rel => exact ⟨r + 1, m3, by go_num, by go_num, by omega, Nat.le_refl _, by omega, HM3, HB3⟩
            · have hlez : ¬ (r : Int) ≤ (lv : Int) := by omega
              have he := Lib.hid (show r = lv + 1 by omega)
              have WK := wrap_add1 (a := k) (c := k + 1) rfl (by omega)
              go_wp2_with fail
              go_roundg (n - (k + 1))
              case measure => omega
              case rel => exact ⟨k + 1, m2, by go_num, by go_num, by omega, Nat.le_refl _, by omega, Lib.hid (by rw [sumN, HM2.out, he.out]), Lib.hid (HB7.out.trans (HB2.out.mono z7))⟩
        · have hlkz : ¬ (k : Int) < (n : Int) := by omega
          have he := Lib.hid (show k = n by omega)
          have hmz : (m : Int) = (NK : Int) := by
            have h7 := HLM.out
            have h8 := HM.out
            rw [he.out] at h8
            omega
          have WI := wrap_add1 (a := i) (c := i + 1) rfl (by omega)
          have HBz := Lib.hid (HB9.out.trans (HB.out.mono z9))
          go_wp2_with fail
          go_roundg (NT - (i + 1))
          case measure => omega
          case rel => exact ⟨i + 1, by go_num, by omega, Nat.le_refl _, HBz⟩
    · have hltz : ¬ (i : Int) < (NT : Int) := by omega
      have bz := b5.trans (HB.out.mono (by omega))
      go_wp2_with fail
      go_ret
      exact ⟨rfl, bz⟩
end Go.Proofs.Ytpgkdpoehkdhcaa
