/- CONTRACT of waveletlaw10.Plane: a rectangle and samples over it. -/
import Derived.Test.YtmcdhdofgaoadaaDKnown
import Derived.Deep.RegionLaw
import Derived.Deep.Cut
namespace Go.Proofs.Ytmcdhdofgaoadaa
open Go.RowKit
set_option maxHeartbeats 8000000
set_option linter.unusedVariables false
set_option linter.unusedSimpArgs false

/-- block p is a rectangle's variable -/
def BoxR (w : World) (p : Nat) (a b c d : Value) : Prop := w.heap[p]? = some (.cells #[a, b, c, d] 23 (0, 0))
section
variable {w w' : World} {p : Nat} {a b c d : Value}
theorem BoxR.c0 (h : BoxR w p a b c d) : w.cell? ⟨p, 0, none⟩ = some a := by unfold BoxR at h; simp [World.cell?, h]
theorem BoxR.c1 (h : BoxR w p a b c d) : w.cell? ⟨p, 1, none⟩ = some b := by unfold BoxR at h; simp [World.cell?, h]
theorem BoxR.c2 (h : BoxR w p a b c d) : w.cell? ⟨p, 2, none⟩ = some c := by unfold BoxR at h; simp [World.cell?, h]
theorem BoxR.c3 (h : BoxR w p a b c d) : w.cell? ⟨p, 3, none⟩ = some d := by unfold BoxR at h; simp [World.cell?, h]
theorem BoxR.fz (h : BoxR w p a b c d) (k : Nat) : w.frozen? ⟨p, k, none⟩ = false := by unfold BoxR at h; simp [World.frozen?, h]
theorem BoxR.lt (h : BoxR w p a b c d) : p < w.heap.size := by
  unfold BoxR at h
  rcases Nat.lt_or_ge p w.heap.size with hlt | hge
  · exact hlt
  · rw [Array.getElem?_eq_none hge] at h; cases h
theorem BoxR.below {B : Nat} (h : BoxR w p a b c d) (hb : Below B w w') (hp : p < B) : BoxR w' p a b c d := (hb.block p hp).trans h
theorem BoxR.drewN (h : BoxR w p a b c d) (q : Nat) : BoxR (w.drewN q) p a b c d := h
theorem BoxR.drew (h : BoxR w p a b c d) : BoxR w.drew p a b c d := h
theorem BoxR.alloc (h : BoxR w p a b c d) (o : Obj) : BoxR (w.alloc o) p a b c d := (Below.heap_alloc w o p h.lt).trans h
theorem BoxR.other {q : Addr} (h : BoxR w p a b c d) (ha : p ≠ q.block) (u : Value) : BoxR (w.setCell q u) p a b c d := (Below.heap_setCell w q u p ha).trans h
theorem BoxR.new_ (w : World) (a b c d : Value) : BoxR (w.alloc (.cells #[a, b, c, d] 23)) w.heap.size a b c d := heap_alloc_new w _
theorem BoxR.set0 (h : BoxR w p a b c d) (u : Value) : BoxR (w.setCell ⟨p, 0, none⟩ u) p u b c d := by
  unfold BoxR at h ⊢
  simp [World.setCell, Array.getElem?_modify, h]
theorem BoxR.set1 (h : BoxR w p a b c d) (u : Value) : BoxR (w.setCell ⟨p, 1, none⟩ u) p a u c d := by
  unfold BoxR at h ⊢
  simp [World.setCell, Array.getElem?_modify, h]
theorem BoxR.set2 (h : BoxR w p a b c d) (u : Value) : BoxR (w.setCell ⟨p, 2, none⟩ u) p a b u d := by
  unfold BoxR at h ⊢
  simp [World.setCell, Array.getElem?_modify, h]
theorem BoxR.set3 (h : BoxR w p a b c d) (u : Value) : BoxR (w.setCell ⟨p, 3, none⟩ u) p a b c u := by
  unfold BoxR at h ⊢
  simp [World.setCell, Array.getElem?_modify, h]
end

theorem plane_any (X0 Y0 X1 Y1 : Int) (A : Option Addr) (n c : Nat) (f : Nat → Int) (w : World) (ha : IntsAt w w.heap.size A n f) (hn : n ≤ 9223372036854775807) :
    Calls Try.prog 12 #[.agg #[.int .i64 X0, .int .i64 Y0, .int .i64 X1, .int .i64 Y1], .slice A n c] w fun e w' => ∃ (x y W H pb : Nat) (g : Nat → Int), (x : Int) = X0 % 40 ∧ (y : Int) = Y0 % 40 ∧ (W : Int) = X1 % 13 ∧ (H : Int) = Y1 % 13 ∧
      e = .returned (.tuple #[rectV x y W H, .slice (some ⟨pb, 0, none⟩) (H * W) (H * W)]) ∧ w.heap.size ≤ pb ∧ PInt w' pb (H * W) g ∧ Within (H * W) 524304 g ∧ Below w.heap.size w w' := by
  have W4 := Lib.hid (fun (v : Int) (w : World) => (within10 v 40 (by omega) (by omega) w).mono fun _ w' h => (⟨h.1, h.2.symm⟩ : _ ∧ w' = w))
  have W1 := Lib.hid (fun (v : Int) (w : World) => (within10 v 13 (by omega) (by omega) w).mono fun _ w' h => (⟨h.1, h.2.symm⟩ : _ ∧ w' = w))
  go_enter Try.func12, Try.ntmps12
  go_upto_region 1 with fail
  have r0 : BoxR ((w.alloc (.cells #[.int .i64 X0, .int .i64 Y0, .int .i64 X1, .int .i64 Y1] 23)).alloc (.cells #[.int .i64 0, .int .i64 0, .int .i64 0, .int .i64 0] 23)) w.heap.size (.int .i64 X0) (.int .i64 Y0) (.int .i64 X1) (.int .i64 Y1) := (BoxR.new_ w _ _ _ _).alloc _
  have s0 : BoxR ((w.alloc (.cells #[.int .i64 X0, .int .i64 Y0, .int .i64 X1, .int .i64 Y1] 23)).alloc (.cells #[.int .i64 0, .int .i64 0, .int .i64 0, .int .i64 0] 23)) (w.heap.size + 1) (.int .i64 0) (.int .i64 0) (.int .i64 0) (.int .i64 0) := heap_alloc_new2 w _ _
  have bb : Below w.heap.size w ((w.alloc (.cells #[.int .i64 X0, .int .i64 Y0, .int .i64 X1, .int .i64 Y1] 23)).alloc (.cells #[.int .i64 0, .int .i64 0, .int .i64 0, .int .i64 0] 23)) := below_alloc (below_alloc (Below.refl _ _) _) _
  generalize World.alloc (World.alloc w _) _ = w2 at *
  have c0 := r0.c0
  have c1 := r0.c1
  have c2 := r0.c2
  have c3 := r0.c3
  have fz := r0.fz
  go_cut [] from 9 (fun wc' => BoxR wc' w.heap.size (.int .i64 (X0 % 40)) (.int .i64 (Y0 % 40)) (.int .i64 X1) (.int .i64 Y1) ∧ BoxR wc' (w.heap.size + 1) (.int .i64 0) (.int .i64 0) (.int .i64 0) (.int .i64 0) ∧ Below w.heap.size w wc')
  case first =>
    go_region_law (first
      | (go_simp; go_at_call 13; refine (W4.out _ _).mono ?_; rintro e w' ⟨rfl, hq⟩; have hq2 := hq.symm; subst hq2; dsimp only)
      | fail)
    all_goals
      go_wp2_with fail
      go_meet
      case rel => exact ⟨(r0.set0 _).set1 _, (s0.other (Nat.succ_ne_self _) _).other (Nat.succ_ne_self _) _, ((bb.setCell (p := ⟨w.heap.size, 0, none⟩) (Nat.le_refl _) _).setCell (p := ⟨w.heap.size, 1, none⟩) (Nat.le_refl _) _).drew⟩
  case rest =>
  clear r0 s0 bb c0 c1 c2 c3 fz
  obtain ⟨r0, s0, bb⟩ := hcut
  have e0 := Int.emod_nonneg X0 (b := 40) (by omega)
  have e1 := Int.emod_nonneg Y0 (b := 40) (by omega)
  have e2 := Int.emod_nonneg X1 (b := 13) (by omega)
  have e3 := Int.emod_nonneg Y1 (b := 13) (by omega)
  have m0 := Int.emod_lt_of_pos X0 (b := 40) (by omega)
  have m1 := Int.emod_lt_of_pos Y0 (b := 40) (by omega)
  have m2 := Int.emod_lt_of_pos X1 (b := 13) (by omega)
  have m3 := Int.emod_lt_of_pos Y1 (b := 13) (by omega)
  obtain ⟨x, hx⟩ := Int.eq_ofNat_of_zero_le e0
  obtain ⟨y, hy⟩ := Int.eq_ofNat_of_zero_le e1
  obtain ⟨W, hW⟩ := Int.eq_ofNat_of_zero_le e2
  obtain ⟨H, hH⟩ := Int.eq_ofNat_of_zero_le e3
  have WX := fun w => W1.out X1 w
  have WY := fun w => W1.out Y1 w
  rw [hx, hy] at r0
  rw [hW] at WX
  rw [hH] at WY
  rw [hx] at m0
  rw [hy] at m1
  rw [hW] at m2
  rw [hH] at m3
  have HX := Lib.hid hx
  have HY := Lib.hid hy
  have HW := Lib.hid hW
  have HH := Lib.hid hH
  have WX := Lib.hid WX
  have WY := Lib.hid WY
  clear e0 e1 e2 e3 hx hy hW hH W1 W4
  go_upto_region 2 with fail
  have c0 := r0.c0
  have c1 := r0.c1
  have c2 := r0.c2
  have c3 := r0.c3
  have fz := r0.fz
  have k0 : IntKind.i64.wrap ((x : Int) + W) = (x : Int) + W := IntWalk.i64_in _ (by omega)
  have k1 : IntKind.i64.wrap ((y : Int) + H) = (y : Int) + H := IntWalk.i64_in _ (by omega)
  obtain ⟨wz, hwz⟩ : ∃ wz, wz = wc := ⟨_, rfl⟩
  subst hwz
  go_cut [] from 9 (fun wc' => BoxR wc' w.heap.size (.int .i64 x) (.int .i64 y) (.int .i64 ((x : Int) + W)) (.int .i64 ((y : Int) + H)) ∧ BoxR wc' (w.heap.size + 1) (.int .i64 0) (.int .i64 0) (.int .i64 0) (.int .i64 0) ∧ Below w.heap.size w wc')
  case first =>
    go_region_law (first
      | (go_simp; go_at_call 13; (with_reducible refine (WX.out _).mono ?_); rintro e w' ⟨rfl, hq⟩; have hq2 := hq.symm; subst hq2; dsimp only)
      | (go_simp; go_at_call 13; (with_reducible refine (WY.out _).mono ?_); rintro e w' ⟨rfl, hq⟩; have hq2 := hq.symm; subst hq2; dsimp only)
      | fail)
    all_goals
      go_wp2_with fail
      go_meet
      case rel => exact ⟨(r0.set2 _).set3 _, (s0.other (Nat.succ_ne_self _) _).other (Nat.succ_ne_self _) _, ((bb.setCell (p := ⟨w.heap.size, 2, none⟩) (Nat.le_refl _) _).setCell (p := ⟨w.heap.size, 3, none⟩) (Nat.le_refl _) _).drew⟩
  case rest =>
  clear r0 s0 bb c0 c1 c2 c3 fz
  obtain ⟨r0, s0, bb⟩ := hcut
  have c0 := r0.c0
  have c1 := r0.c1
  have c2 := r0.c2
  have c3 := r0.c3
  obtain ⟨N, hN⟩ : ∃ N, H * W = N := ⟨_, rfl⟩
  have hN2 : N ≤ 144 := by
    rw [← hN]
    exact Nat.mul_le_mul (show H ≤ 12 by omega) (show W ≤ 12 by omega)
  have s1 : IntKind.i64.wrap ((x : Int) + W - x) = W := by rw [show (x : Int) + W - x = W by omega]; exact IntWalk.i64_in _ (by omega)
  have s2 : IntKind.i64.wrap ((y : Int) + H - y) = H := by rw [show (y : Int) + H - y = H by omega]; exact IntWalk.i64_in _ (by omega)
  have sN : IntKind.i64.wrap ((W : Int) * H) = (N : Int) := by
    rw [show (W : Int) * H = (N : Int) by rw [← hN, Nat.mul_comm]; simp]
    exact IntWalk.i64_in _ (by omega)
  have hmk := fun u => run_make_row' (P := Try.prog) 24 3 (.int .i64 0) 8 Try.underlying24 int_info rfl .i64 .i64 N (by omega) (by omega) u
  have HN := Lib.hid hN
  clear hN
  go_wp2_with fail
  clear hmk
  have q0 := PInt.made wc N
  have r1 := r0.alloc (.cells (madeCells #[.int .i64 0] N) 3)
  have z1 := s0.alloc (.cells (madeCells #[.int .i64 0] N) 3)
  have b1 := below_alloc bb (.cells (madeCells #[.int .i64 0] N) 3)
  have hlt1 := s0.lt
  refine (row9 A n c f _ ((ha.below b1).more b1.size) hn).mono ?_
  rintro e w3 ⟨A', c', rfl, o3, b3⟩
  have i3 := o3.ints
  have haw : ∀ ad, A' = some ad → wc.heap.size < ad.block := by
    obtain ⟨_, _, e, _, _, _, hA⟩ := o3.form
    injection e with e _ _
    subst e
    intro ad had
    have := hA ad had
    simp at this
    omega
  have q3 := q0.below b3 q0.lt
  have r3 := r1.below b3 (Nat.lt_trans r0.lt (by simp))
  have z3 := z1.below b3 (Nat.lt_trans s0.lt (by simp))
  have hB3 := below_trans b1 b3
  have hs3 := b3.size
  clear q0 r1 z1 b1 o3 b3
  generalize hm : min n 60 = m at *
  have hm2 : m ≤ 60 := by omega
  clear hm
  go_wp2_with fail
  go_loopw [8] (fun i wr => ∃ (k : Nat) (g : Nat → Int), k ≤ N ∧ i = .int .i64 k ∧ PInt wr wc.heap.size N g ∧ Within N 524304 g ∧ IntsAt wr w3.heap.size A' m (rowF f) ∧ BoxR wr w.heap.size (.int .i64 x) (.int .i64 y) (.int .i64 ((x : Int) + W)) (.int .i64 ((y : Int) + H)) ∧ BoxR wr (w.heap.size + 1) (.int .i64 0) (.int .i64 0) (.int .i64 0) (.int .i64 0) ∧ Below w.heap.size w wr) (fun i _ => N - (intOf i).toNat)
  case atStart => exact ⟨0, _, Nat.zero_le _, rfl, q3, fun k hk => by simp only; omega, i3, r3, z3, hB3⟩
  case round =>
    obtain ⟨k, g, hk, rfl, pl, hg, i3, r3, z3, hbel⟩ := hrel
    clear q3
    by_cases hlt : k < N
    · rcases Nat.eq_zero_or_pos m with h0 | h0
      · subst h0
        have hN : H * W = N := HN.out
        have c0 := r3.c0
        have c1 := r3.c1
        have c2 := r3.c2
        have c3 := r3.c3
        have d0 := z3.c0
        have d1 := z3.c1
        have d2 := z3.c2
        have d3 := z3.c3
        have dz := z3.fz
        have hx := HX.out.symm
        have hy := HY.out.symm
        have hW := HW.out.symm
        have hH := HH.out.symm
        have hI := (pl.ints pl.lt)
        have hbf := (((hbel.setCell (p := ⟨w.heap.size + 1, 0, none⟩) (Nat.le_succ _) (.int .i64 x)).setCell (p := ⟨w.heap.size + 1, 1, none⟩) (Nat.le_succ _) (.int .i64 y)).setCell (p := ⟨w.heap.size + 1, 2, none⟩) (Nat.le_succ _) (.int .i64 ((x : Int) + W))).setCell (p := ⟨w.heap.size + 1, 3, none⟩) (Nat.le_succ _) (.int .i64 ((y : Int) + H))
        have hIf := ((((pl.other (a := ⟨w.heap.size + 1, 0, none⟩) (Nat.ne_of_gt hlt1) (.int .i64 x)).other (a := ⟨w.heap.size + 1, 1, none⟩) (Nat.ne_of_gt hlt1) (.int .i64 y)).other (a := ⟨w.heap.size + 1, 2, none⟩) (Nat.ne_of_gt hlt1) (.int .i64 ((x : Int) + W))).other (a := ⟨w.heap.size + 1, 3, none⟩) (Nat.ne_of_gt hlt1) (.int .i64 ((y : Int) + H)))
        have HI := Lib.hid (And.intro hx (And.intro hy (And.intro hW hH)))
        have HF := Lib.hid (And.intro hIf hbf)
        have HG := Lib.hid hg
        clear hN hx hy hW hH hI hbf hIf hg i3 pl hbel
        go_wp2_with fail
        refine bodyPost_ret (v := .tuple #[.agg #[.int .i64 x, .int .i64 y, .int .i64 ((x : Int) + W), .int .i64 ((y : Int) + H)], .slice (some ⟨wc.heap.size, 0, none⟩) N N]) (by simp [results, Try.results12, go_sem, d0, d1, d2, d3]) rfl ?_
        obtain ⟨hx, hy, hW, hH⟩ := HI.out
        exact ⟨x, y, W, H, wc.heap.size, g, hx, hy, hW, hH, by rw [HN.out]; rfl, Nat.le_of_lt r0.lt, by rw [HN.out]; exact HF.out.1, by rw [HN.out]; exact HG.out, HF.out.2⟩
      · obtain ⟨kk, hkk, hkm⟩ : ∃ kk : Nat, (k : Int).tmod m = kk ∧ kk < m := ⟨k % m, by rw [← Int.ofNat_tmod], Nat.mod_lt _ h0⟩
        obtain ⟨k7, hk7, hk7m⟩ : ∃ k7 : Nat, (k : Int).tmod 7 = k7 ∧ k7 < 7 := ⟨k % 7, by rw [show (7 : Int) = ((7 : Nat) : Int) from rfl, ← Int.ofNat_tmod], Nat.mod_lt _ (by omega)⟩
        have hne : ∀ ad, A' = some ad → wc.heap.size ≠ ad.block := fun ad h => Nat.ne_of_lt (haw ad h)
        have hr := rowF_bd f kk
        have hm0 : (0 : Int) < m := by omega
        have sv : IntKind.i64.wrap (rowF f kk + k7) = rowF f kk + k7 := IntWalk.i64_in _ (by omega)
        have hcell : ∃ v, wr.cell? ⟨wc.heap.size, k, none⟩ = some v := ⟨_, pl.cell hlt⟩
        obtain ⟨v0, hcell⟩ := hcell
        have hfr := pl.frozen k
        have P2 := Lib.hid (pl.set_ k (rowF f kk + k7))
        have G2 : Within N 524304 (fun j => if j = k then rowF f kk + k7 else g j) := fun j hj => by
          simp only
          split
          · omega
          · exact hg j hj
        have I2 := Lib.hid (i3.other (j := k) hne (.int .i64 (rowF f kk + k7)))
        have R2 := Lib.hid (r3.other (q := ⟨wc.heap.size, k, none⟩) (Nat.ne_of_lt r0.lt) (.int .i64 (rowF f kk + k7)))
        have Z2 := Lib.hid (z3.other (q := ⟨wc.heap.size, k, none⟩) (Nat.ne_of_lt s0.lt) (.int .i64 (rowF f kk + k7)))
        have B2 := Lib.hid (hbel.setCell (p := ⟨wc.heap.size, k, none⟩) (Nat.le_of_lt r0.lt) (.int .i64 (rowF f kk + k7)))
        have G2 := Lib.hid G2
        obtain ⟨bb3, off, rfl, hlb, hc⟩ := i3.at_ hkm
        generalize rowF f kk = V at *
        clear pl hg i3 r3 z3 hbel
        go_wp2_with fail
        go_roundw
        case rel => exact ⟨k + 1, _, by omega, by go_num, P2.out, G2.out, I2.out, R2.out, Z2.out, B2.out⟩
        case measure => simp [intOf]; omega
    · obtain rfl : k = N := by omega
      have hN : H * W = k := HN.out
      have c0 := r3.c0
      have c1 := r3.c1
      have c2 := r3.c2
      have c3 := r3.c3
      have d0 := z3.c0
      have d1 := z3.c1
      have d2 := z3.c2
      have d3 := z3.c3
      have dz := z3.fz
      have hx := HX.out.symm
      have hy := HY.out.symm
      have hW := HW.out.symm
      have hH := HH.out.symm
      have hI := (pl.ints pl.lt)
      have hbf := (((hbel.setCell (p := ⟨w.heap.size + 1, 0, none⟩) (Nat.le_succ _) (.int .i64 x)).setCell (p := ⟨w.heap.size + 1, 1, none⟩) (Nat.le_succ _) (.int .i64 y)).setCell (p := ⟨w.heap.size + 1, 2, none⟩) (Nat.le_succ _) (.int .i64 ((x : Int) + W))).setCell (p := ⟨w.heap.size + 1, 3, none⟩) (Nat.le_succ _) (.int .i64 ((y : Int) + H))
      have hIf := ((((pl.other (a := ⟨w.heap.size + 1, 0, none⟩) (Nat.ne_of_gt hlt1) (.int .i64 x)).other (a := ⟨w.heap.size + 1, 1, none⟩) (Nat.ne_of_gt hlt1) (.int .i64 y)).other (a := ⟨w.heap.size + 1, 2, none⟩) (Nat.ne_of_gt hlt1) (.int .i64 ((x : Int) + W))).other (a := ⟨w.heap.size + 1, 3, none⟩) (Nat.ne_of_gt hlt1) (.int .i64 ((y : Int) + H)))
      have HI := Lib.hid (And.intro hx (And.intro hy (And.intro hW hH)))
      have HF := Lib.hid (And.intro hIf hbf)
      have HG := Lib.hid hg
      clear hN hx hy hW hH hI hbf hIf hg i3 pl hbel
      go_wp2_with fail
      refine bodyPost_ret (v := .tuple #[.agg #[.int .i64 x, .int .i64 y, .int .i64 ((x : Int) + W), .int .i64 ((y : Int) + H)], .slice (some ⟨wc.heap.size, 0, none⟩) k k]) (by simp [results, Try.results12, go_sem, d0, d1, d2, d3]) rfl ?_
      obtain ⟨hx, hy, hW, hH⟩ := HI.out
      exact ⟨x, y, W, H, wc.heap.size, g, hx, hy, hW, hH, by rw [HN.out]; rfl, Nat.le_of_lt r0.lt, by rw [HN.out]; exact HF.out.1, by rw [HN.out]; exact HG.out, HF.out.2⟩
end Go.Proofs.Ytmcdhdofgaoadaa
