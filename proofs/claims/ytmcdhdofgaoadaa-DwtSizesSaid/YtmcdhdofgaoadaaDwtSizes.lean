/- WALK of waveletlaw10.DwtSizes: every call answers true; memory below is kept. -/
import Derived.Test.YtmcdhdofgaoadaaJoinLaw
import Derived.Test.YtmcdhdofgaoadaaDwtTwice
import Derived.Test.YtmcdhdofgaoadaaDPlane
import Derived.Deep.RegionHeld3
namespace Go.Proofs.Ytmcdhdofgaoadaa
open Go.RowKit
set_option maxHeartbeats 16000000
set_option linter.unusedVariables false
set_option linter.unusedSimpArgs false

/-- the lengths of a row's slices -/
def RowLens (w : World) (g : Nat) (bs : List (Nat × (Nat → Int))) : Prop := ∀ (i : Nat) (z : Nat × (Nat → Int)), bs[i]? = some z → ∃ A' c', w.cell? ⟨g, i, none⟩ = some (.slice A' z.1 c')
theorem RowLens.other {w : World} {g s : Nat} {bs : List (Nat × (Nat → Int))} (h : RowLens w g bs) (hne : g ≠ s) (j : Nat) (v : Value) : RowLens (w.setCell ⟨s, j, none⟩ v) g bs := fun i z hz => by
  obtain ⟨A', c', e⟩ := h i z hz
  exact ⟨A', c', (World.cell?_of_block (Below.heap_setCell w ⟨s, j, none⟩ v g hne)).trans e⟩
theorem RowLens.drewN {w : World} {g : Nat} {bs : List (Nat × (Nat → Int))} (h : RowLens w g bs) (q : Nat) : RowLens (w.drewN q) g bs := h
def total (bs : List (Nat × (Nat → Int))) : Nat := (bs.map fun b => b.1).sum
theorem total_snoc {bs : List (Nat × (Nat → Int))} {i : Nat} {z : Nat × (Nat → Int)} (h : bs[i]? = some z) : total (bs.take (i + 1)) = total (bs.take i) + z.1 := by
  unfold total
  rw [List.take_add_one, h]
  simp
theorem quarters {W H lw lh : Nat} (h1 : lw ≤ W) (h2 : lh ≤ H) : lh * lw + (lh * (W - lw) + (H - lh) * lw + (H - lh) * (W - lw)) = H * W := by
  obtain ⟨a, rfl⟩ : ∃ a, W = lw + a := ⟨W - lw, by omega⟩
  obtain ⟨b, rfl⟩ : ∃ b, H = lh + b := ⟨H - lh, by omega⟩
  rw [Nat.add_sub_cancel_left, Nat.add_sub_cancel_left, Nat.add_mul, Nat.mul_add, Nat.mul_add]
  omega
theorem total_bands : ∀ (l x y W H : Nat) (f : Nat → Int), total (bandsF l x y W H f) = H * W
  | 0, _, _, W, H, f => by simp [bandsF, total]
  | l + 1, x, y, W, H, f => by
    have ih := total_bands l (hf x) (hf y) (low W (x % 2)) (low H (y % 2)) (cutF W 0 0 (low W (x % 2)) (planeF x y W H f))
    unfold total at ih ⊢
    unfold bandsF
    rw [List.map_append, List.sum_append, ih]
    have := @quarters W H (low W (x % 2)) (low H (y % 2)) (low_le (by omega)) (low_le (by omega))
    simp [highs]
    omega

set_option maxRecDepth 100000 in
theorem dwtSizes_walk (d0 : Int) (X0 Y0 X1 Y1 : Int) (w : World) :
    Calls Try.prog 4 #[.agg #[.int .i64 X0, .int .i64 Y0, .int .i64 X1, .int .i64 Y1], .int .i64 d0] w fun e w' => e = .returned (.bool true) ∧ Below w.heap.size w w' := by
  go_enter Try.func4, Try.ntmps4
  go_wp2_with fail
  have r0 := BoxR.new_ w (.int .i64 X0) (.int .i64 Y0) (.int .i64 X1) (.int .i64 Y1)
  have bb := below_alloc (Below.refl w.heap.size w) (.cells #[.int .i64 X0, .int .i64 Y0, .int .i64 X1, .int .i64 Y1] 23)
  generalize World.alloc w _ = w1 at *
  refine (known10 _).mono ?_
  rintro e w2 ⟨rfl, b2⟩
  have r2 := r0.below b2 r0.lt
  have hW0 : w.heap.size < w2.heap.size := r2.lt
  have hB2 := below_trans bb b2
  clear r0 bb b2
  have c0 := r2.c0
  have c1 := r2.c1
  have c2 := r2.c2
  have c3 := r2.c3
  have fz := r2.fz
  go_wp2_with fail
  refine (plane_any X0 Y0 X1 Y1 none 0 0 (fun _ => 0) w2 IntsAt.none_ (by omega)).mono ?_
  rintro e w3 ⟨x, y, W, H, pb, g, hx, hy, hW, hH, rfl, hpb, p3, m3, b3⟩
  obtain ⟨N, hN⟩ : ∃ N, H * W = N := ⟨_, rfl⟩
  rw [hN] at p3 m3 ⊢
  have hx2 : x < 40 := by have := Int.emod_lt_of_pos X0 (b := 40) (by omega); omega
  have hy2 : y < 40 := by have := Int.emod_lt_of_pos Y0 (b := 40) (by omega); omega
  have hW2 : W < 13 := by have := Int.emod_lt_of_pos X1 (b := 13) (by omega); omega
  have hH2 : H < 13 := by have := Int.emod_lt_of_pos Y1 (b := 13) (by omega); omega
  clear hx hy hW hH
  have r3 := r2.below b3 r2.lt
  have hB3 := below_trans hB2 b3
  have hs3 : w.heap.size < w3.heap.size := r3.lt
  clear r2 hB2 b3 c0 c1 c2 c3 fz
  unfold rectV
  have c0 := r3.c0
  have c1 := r3.c1
  have c2 := r3.c2
  have c3 := r3.c3
  have fz := r3.fz
  have hpw : pb ≠ w.heap.size := Nat.ne_of_gt (Nat.lt_of_lt_of_le (by have := hW0; exact this) hpb)
  have r4 := (((r3.set0 (.int .i64 x)).set1 (.int .i64 y)).set2 (.int .i64 ((x : Int) + W))).set3 (.int .i64 ((y : Int) + H))
  have hB4 := (((hB3.setCell (p := ⟨w.heap.size, 0, none⟩) (Nat.le_refl _) (.int .i64 x)).setCell (p := ⟨w.heap.size, 1, none⟩) (Nat.le_refl _) (.int .i64 y)).setCell (p := ⟨w.heap.size, 2, none⟩) (Nat.le_refl _) (.int .i64 ((x : Int) + W))).setCell (p := ⟨w.heap.size, 3, none⟩) (Nat.le_refl _) (.int .i64 ((y : Int) + H))
  have p4 := (((p3.other (a := ⟨w.heap.size, 0, none⟩) hpw (.int .i64 x)).other (a := ⟨w.heap.size, 1, none⟩) hpw (.int .i64 y)).other (a := ⟨w.heap.size, 2, none⟩) hpw (.int .i64 ((x : Int) + W))).other (a := ⟨w.heap.size, 3, none⟩) hpw (.int .i64 ((y : Int) + H))
  have R4 := Lib.hid r4
  have B4 := Lib.hid hB4
  have P4 := Lib.hid p4
  clear r4 hB4 p4 r3 hB3 p3
  go_wp2_with fail
  have r4 := R4.out
  have hB4 := B4.out
  have p4 := P4.out
  clear R4 B4 P4 c0 c1 c2 c3 fz
  generalize World.setCell (World.setCell (World.setCell (World.setCell w3 _ _) _ _) _ _) _ _ = w4 at *
  have hs4 := r4.lt
  have hN2 : N ≤ 144 := by rw [← hN]; exact Nat.mul_le_mul (show H ≤ 12 by omega) (show W ≤ 12 by omega)
  refine (within10e _ _ (by omega) (by omega) _).mono ?_
  rintro e w' ⟨l, hl0, hl1, rfl, rfl⟩
  obtain ⟨l, rfl⟩ := Int.eq_ofNat_of_zero_le hl0
  have h3 : ((524304 : Int) + 1) * 16 ^ l ≤ 4503599627370496 := by
    have h := Nat.pow_le_pow_right (show 0 < 16 by omega) (show l ≤ 5 by omega)
    have e : (16 : Int) ^ l = ((16 ^ l : Nat) : Int) := by simp
    rw [e]; omega
  have SP := dsplit_any l (by omega) x y W H N hN (by omega) (by omega) (by omega) (by omega) _ N g 524304 w4 (p4.ints p4.lt) m3 (by omega) h3
  have SP : Calls Try.prog 15 #[.agg #[.int .i64 x, .int .i64 y, .int .i64 ((x : Int) + W), .int .i64 ((y : Int) + H)], .int .i64 l, .slice (some ⟨pb, 0, none⟩) N N] w4 fun e w' => ∃ u, e = .returned u ∧ RowsAt w' w4.heap.size u (bandsF l x y W H g) ∧ Below w4.heap.size w4 w' := SP
  have SP := Lib.hid SP
  have hlen := bandsF_len l x y W H g
  have htot := total_bands l x y W H g
  have hx5 : x ≤ 40 := by omega
  have hy5 : y ≤ 40 := by omega
  have hW5 : W ≤ 12 := by omega
  have hH5 : H ≤ 12 := by omega
  rw [hN] at htot
  obtain ⟨bs, hbs⟩ : ∃ bs, bs = bandsF l x y W H g := ⟨_, rfl⟩
  rw [← hbs] at SP hlen htot
  have hinv : ∀ i, i < 3 * (l - 0) + 1 → bs[i]? = (bandsF (l - 0) x y W H g)[i]? := fun i hi => by rw [hbs]; rfl
  obtain ⟨nb, hnb⟩ : ∃ nb, nb = 3 * l + 1 := ⟨_, rfl⟩
  rw [← hnb] at hlen
  have wl1 : IntKind.i64.wrap (3 * (l : Int)) = 3 * (l : Int) := IntWalk.i64_in _ (by omega)
  have wl2 : IntKind.i64.wrap (3 * (l : Int) + 1) = (nb : Int) := by rw [show 3 * (l : Int) + 1 = (nb : Int) by omega]; exact IntWalk.i64_in _ (by omega)
  have hnb2 : nb ≤ 16 := by omega
  have HNB := Lib.hid hnb
  have LE := Lib.hid hlen
  have TO := Lib.hid htot
  have IV := Lib.hid hinv
  clear h3 hlen htot hinv hbs hnb hx2 hy2 hW2 hH2 m3
  have c0 := r4.c0
  have c1 := r4.c1
  have c2 := r4.c2
  have c3 := r4.c3
  go_wp2_with fail
  refine SP.out.mono ?_
  rintro e w5 ⟨u, rfl, ru, b5⟩
  have hn0 : 0 < nb := by have := HNB.out; omega
  obtain ⟨gb, cb, rfl, hgb, hgl, hcells⟩ := ru.form (by rw [LE.out]; exact hn0)
  have rl : RowLens w5 gb bs := fun i z hz => by
    have hi : i < bs.length := by
      rcases Nat.lt_or_ge i bs.length with h | h
      · exact h
      · rw [List.getElem?_eq_none h] at hz; cases hz
    obtain ⟨A', c', e1, _, _⟩ := hcells i hi
    rw [List.getElem?_eq_getElem hi] at hz
    rw [Option.some.inj hz] at e1
    exact ⟨A', c', e1⟩
  rw [LE.out]
  have hgs : gb ≠ w.heap.size := Nat.ne_of_gt (Nat.lt_of_lt_of_le r4.lt hgb)
  have r5 := r4.below b5 r4.lt
  have hB5 := hB4.trans (b5.mono (Nat.le_of_lt r4.lt))
  clear c0 c1 c2 c3 ru hcells b5 SP r4 hB4 p4
  go_wp2_with fail
  go_loopw [7, 8] (fun s i wr => ∃ (j q : Nat) (S : Nat), j ≤ nb ∧ s = .int .i64 S ∧ total (bs.take j) = S ∧ i = .int .i64 j ∧ wr = w5.drewN q) (fun _ i _ => nb - (intOf i).toNat)
  case atStart => exact ⟨0, 0, 0, Nat.zero_le _, rfl, rfl, rfl, rfl⟩
  case round =>
    obtain ⟨j, q, S, hj, rfl, hS, rfl, rfl⟩ := hrel
    by_cases hlt : j < nb
    · obtain ⟨z, hz⟩ : ∃ z, bs[j]? = some z := ⟨_, List.getElem?_eq_getElem (by rw [LE.out]; exact hlt)⟩
      obtain ⟨A', c', e1⟩ := rl j z hz
      have e1 : (w5.drewN q).cell? ⟨gb, j, none⟩ = some (.slice A' z.1 c') := e1
      have hS2 := total_snoc hz
      rw [hS] at hS2
      have hSb : S + z.1 ≤ N := by
        rw [← hS2, ← TO.out]
        unfold total
        conv => rhs; rw [← List.take_append_drop (j + 1) bs]
        rw [List.map_append, List.sum_append]
        exact Nat.le_add_right _ _
      obtain ⟨m, h⟩ := z
      simp only at e1 hS2 hSb
      have HS2 := Lib.hid hS2
      clear hS hS2 hz
      go_wp2_with fail
      go_roundw
      case rel => exact ⟨j + 1, _, S + m, by omega, by go_num, HS2.out, by go_num, rfl⟩
      case measure => simp [intOf]; omega
    · have hjn : nb = j := by omega
      subst hjn
      have hSN : S = N := by rw [← hS, List.take_of_length_le (by rw [LE.out]; exact Nat.le_refl _), TO.out]
      subst hSN
      have rl' := rl.drewN q
      have r6 := r5.drewN q
      have hB6 := below_drewN hB5 q
      clear hS rl r5 hB5 TO
      generalize hw6 : w5.drewN q = w6 at *
      clear hw6
      go_wp2_with fail
      go_loopw [9] (fun kk wr => ∃ (k x y W H : Nat) (f : Nat → Int), k ≤ l ∧ kk = .int .i64 k ∧ x ≤ 40 ∧ y ≤ 40 ∧ W ≤ 12 ∧ H ≤ 12 ∧ BoxR wr w.heap.size (.int .i64 x) (.int .i64 y) (.int .i64 ((x : Int) + W)) (.int .i64 ((y : Int) + H)) ∧ Hid (∀ i, i < 3 * (l - k) + 1 → bs[i]? = (bandsF (l - k) x y W H f)[i]?) ∧ RowLens wr gb bs ∧ Below w.heap.size w wr) (fun kk _ => l - (intOf kk).toNat)
      case atStart => exact ⟨0, x, y, W, H, g, Nat.zero_le _, rfl, hx5, hy5, hW5, hH5, r6, Lib.hid IV.out, rl', hB6⟩
      case round =>
        clear IV r6 rl' hB6 hx5 hy5 hW5 hH5
        obtain ⟨k, x, y, W, H, f, hk, rfl, hx5, hy5, hW5, hH5, r6, IV, rl, hB6⟩ := hrel
        have c0 := r6.c0
        have c1 := r6.c1
        have c2 := r6.c2
        have c3 := r6.c3
        have fz := r6.fz
        by_cases hlt : k < l
        · obtain ⟨p, hp⟩ : ∃ p, l - k = p + 1 := ⟨l - k - 1, by omega⟩
          have IVo := IV.out
          rw [hp] at IVo
          have hlw : low W (x % 2) ≤ W := low_le (by omega)
          have hlh : low H (y % 2) ≤ H := low_le (by omega)
          have hbf : bandsF (p + 1) x y W H f = bandsF p (hf x) (hf y) (low W (x % 2)) (low H (y % 2)) (cutF W 0 0 (low W (x % 2)) (planeF x y W H f)) ++ highs W H (low W (x % 2)) (low H (y % 2)) (planeF x y W H f) := rfl
          have hn := fun j (hj : j < 3) => by
            have := IVo (3 * p + 1 + j) (by omega)
            rw [hbf, List.getElem?_append_right (by rw [bandsF_len]; omega), bandsF_len, Nat.add_sub_cancel_left] at this
            exact this
          have hnext : ∀ i, i < 3 * (l - (k + 1)) + 1 → bs[i]? = (bandsF (l - (k + 1)) (hf x) (hf y) (low W (x % 2)) (low H (y % 2)) (cutF W 0 0 (low W (x % 2)) (planeF x y W H f)))[i]? := fun i hi => by
            rw [show l - (k + 1) = p by omega] at hi ⊢
            rw [IVo i (by omega), hbf, List.getElem?_append_left (by rw [bandsF_len]; exact hi)]
          have q0 := hf_tdiv x
          have q1 := hf_tdiv y
          have q2 := hf_tdiv2 x W
          have q3 := hf_tdiv2 y H
          have hx6 : hf x ≤ 40 := by unfold hf; omega
          have hy6 : hf y ≤ 40 := by unfold hf; omega
          obtain ⟨A0, d0', e0⟩ := rl _ _ (hn 0 (by omega))
          obtain ⟨A1, d1', e1⟩ := rl _ _ (hn 1 (by omega))
          obtain ⟨A2, d2', e2⟩ := rl _ _ (hn 2 (by omega))
          simp only [Nat.add_zero] at e0 e1 e2
          have NX := Lib.hid hnext
          generalize low W (x % 2) = lw at *
          generalize low H (y % 2) = lh at *
          obtain ⟨a0, ha0⟩ : ∃ a0, 3 * p + 1 = a0 := ⟨_, rfl⟩
          rw [ha0] at e0 e1 e2
          rw [show a0 + 1 = a0 + 1 from rfl] at e1
          obtain ⟨dW, hdW⟩ : ∃ dW, W - lw = dW := ⟨_, rfl⟩
          obtain ⟨dH, hdH⟩ : ∃ dH, H - lh = dH := ⟨_, rfl⟩
          rw [hdW] at e0 e2
          rw [hdH] at e1 e2
          obtain ⟨m0, hm0⟩ : ∃ m0, lh * dW = m0 := ⟨_, rfl⟩
          obtain ⟨m1, hm1⟩ : ∃ m1, dH * lw = m1 := ⟨_, rfl⟩
          obtain ⟨m2, hm2⟩ : ∃ m2, dH * dW = m2 := ⟨_, rfl⟩
          rw [hm0] at e0
          rw [hm1] at e1
          rw [hm2] at e2
          have k0 : m0 ≤ 144 := by rw [← hm0]; exact Nat.mul_le_mul (show lh ≤ 12 by omega) (show dW ≤ 12 by omega)
          have k1 : m1 ≤ 144 := by rw [← hm1]; exact Nat.mul_le_mul (show dH ≤ 12 by omega) (show lw ≤ 12 by omega)
          have k2 : m2 ≤ 144 := by rw [← hm2]; exact Nat.mul_le_mul (show dH ≤ 12 by omega) (show dW ≤ 12 by omega)
          have t1 : IntKind.i64.wrap ((x : Int) + W - x) = W := by rw [show (x : Int) + W - x = W by omega]; exact IntWalk.i64_in _ (by omega)
          have t2 : IntKind.i64.wrap ((y : Int) + H - y) = H := by rw [show (y : Int) + H - y = H by omega]; exact IntWalk.i64_in _ (by omega)
          have t3 : IntKind.i64.wrap ((x : Int) + 1) = (x : Int) + 1 := IntWalk.i64_in _ (by omega)
          have t4 : IntKind.i64.wrap ((y : Int) + 1) = (y : Int) + 1 := IntWalk.i64_in _ (by omega)
          have t5 : IntKind.i64.wrap ((x : Int) + W + 1) = (x : Int) + W + 1 := IntWalk.i64_in _ (by omega)
          have t6 : IntKind.i64.wrap ((y : Int) + H + 1) = (y : Int) + H + 1 := IntWalk.i64_in _ (by omega)
          have t7 : IntKind.i64.wrap ((hf x : Int) + lw - hf x) = lw := by rw [show (hf x : Int) + lw - hf x = lw by omega]; exact IntWalk.i64_in _ (by omega)
          have t8 : IntKind.i64.wrap ((hf y : Int) + lh - hf y) = lh := by rw [show (hf y : Int) + lh - hf y = lh by omega]; exact IntWalk.i64_in _ (by omega)
          have u1 : IntKind.i64.wrap (hf x : Int) = (hf x : Int) := IntWalk.i64_in _ (by omega)
          have u2 : IntKind.i64.wrap (hf y : Int) = (hf y : Int) := IntWalk.i64_in _ (by omega)
          have u3 : IntKind.i64.wrap ((hf x : Int) + lw) = (hf x : Int) + lw := IntWalk.i64_in _ (by omega)
          have u4 : IntKind.i64.wrap ((hf y : Int) + lh) = (hf y : Int) + lh := IntWalk.i64_in _ (by omega)
          have v1 : IntKind.i64.wrap ((l : Int) - k) = (p : Int) + 1 := by rw [show (l : Int) - k = (p : Int) + 1 by omega]; exact IntWalk.i64_in _ (by omega)
          have v2 : IntKind.i64.wrap (3 * ((p : Int) + 1)) = 3 * ((p : Int) + 1) := IntWalk.i64_in _ (by omega)
          have v3 : IntKind.i64.wrap (3 * ((p : Int) + 1) - 2) = (a0 : Int) := by rw [show 3 * ((p : Int) + 1) - 2 = (a0 : Int) by omega]; exact IntWalk.i64_in _ (by omega)
          have g1 : IntKind.i64.wrap ((W : Int) - lw) = (dW : Int) := by rw [show (W : Int) - lw = (dW : Int) by omega]; exact IntWalk.i64_in _ (by omega)
          have g2 : IntKind.i64.wrap ((H : Int) - lh) = (dH : Int) := by rw [show (H : Int) - lh = (dH : Int) by omega]; exact IntWalk.i64_in _ (by omega)
          have g3 : IntKind.i64.wrap ((dW : Int) * lh) = (m0 : Int) := by
            rw [show (dW : Int) * lh = (m0 : Int) by rw [← hm0, Nat.mul_comm]; simp]
            exact IntWalk.i64_in _ (by omega)
          have g4 : IntKind.i64.wrap ((lw : Int) * dH) = (m1 : Int) := by
            rw [show (lw : Int) * dH = (m1 : Int) by rw [← hm1, Nat.mul_comm]; simp]
            exact IntWalk.i64_in _ (by omega)
          have g5 : IntKind.i64.wrap ((dW : Int) * dH) = (m2 : Int) := by
            rw [show (dW : Int) * dH = (m2 : Int) by rw [← hm2, Nat.mul_comm]; simp]
            exact IntWalk.i64_in _ (by omega)
          have hnbp := HNB.out
          have hz0 : a0 < nb := by omega
          have hz1 : a0 + 1 < nb := by omega
          have hz2 : a0 + 2 < nb := by omega
          have hz3 : (a0 : Int) + 1 < nb := by omega
          have hz4 : (a0 : Int) + 2 < nb := by omega
          have hlw12 : lw ≤ 12 := by omega
          have hlh12 : lh ≤ 12 := by omega
          clear hnbp hnext hn hbf IVo IV hp ha0 hdW hdH hm0 hm1 hm2
          go_wp2_with fail
          go_quiet (fail)
          go_wp2_with fail
          go_quiet (fail)
          go_wp2_with fail
          go_roundw
          case rel => exact ⟨k + 1, hf x, hf y, lw, lh, _, by omega, by go_num, hx6, hy6, hlw12, hlh12, ((((r6.drewN _).set0 _).set1 _).set2 _).set3 _, NX, ((((rl.drewN _).other hgs _ _).other hgs _ _).other hgs _ _).other hgs _ _, ((((below_drewN hB6 _).setCell (p := ⟨w.heap.size, 0, none⟩) (Nat.le_refl _) _).setCell (p := ⟨w.heap.size, 1, none⟩) (Nat.le_refl _) _).setCell (p := ⟨w.heap.size, 2, none⟩) (Nat.le_refl _) _).setCell (p := ⟨w.heap.size, 3, none⟩) (Nat.le_refl _) _⟩
          case measure => simp [intOf]; omega
        · obtain rfl : k = l := by omega
          have h0 := IV.out 0 (by omega)
          rw [Nat.sub_self] at h0
          have h0 : bs[0]? = some (H * W, f) := h0
          obtain ⟨A', c', e1⟩ := rl 0 _ h0
          simp only at e1
          obtain ⟨m, hm⟩ : ∃ m, H * W = m := ⟨_, rfl⟩
          have hm2 : m ≤ 144 := by rw [← hm]; exact Nat.mul_le_mul hH5 hW5
          rw [hm] at e1
          have s1 : IntKind.i64.wrap ((x : Int) + W - x) = W := by rw [show (x : Int) + W - x = W by omega]; exact IntWalk.i64_in _ (by omega)
          have s2 : IntKind.i64.wrap ((y : Int) + H - y) = H := by rw [show (y : Int) + H - y = H by omega]; exact IntWalk.i64_in _ (by omega)
          have sm : IntKind.i64.wrap ((W : Int) * H) = (m : Int) := by
            rw [show (W : Int) * H = (m : Int) by rw [← hm, Nat.mul_comm]; simp]
            exact IntWalk.i64_in _ (by omega)
          clear hm h0 IV rl
          go_wp2_with fail
          go_quiet (fail)
          go_wp2_with fail
          go_ret
          exact ⟨rfl, below_drewN hB6 _⟩
end Go.Proofs.Ytmcdhdofgaoadaa
