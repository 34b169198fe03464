/- WALK of waveletlaw10.DwtBack: every call answers true; memory below is kept. -/
import Derived.Test.YtmcdhdofgaoadaaDJoin
import Derived.Test.YtmcdhdofgaoadaaDPlane
import Derived.Deep.RegionHeld3
namespace Go.Proofs.Ytmcdhdofgaoadaa
open Go.RowKit
set_option maxHeartbeats 16000000
set_option linter.unusedVariables false
set_option linter.unusedSimpArgs false

set_option maxRecDepth 100000 in
theorem dwtBack_walk (d0 e0 : Int) (X0 Y0 X1 Y1 : Int) (A : Option Addr) (n c : Nat) (f : Nat → Int) (w : World) (ha : IntsAt w w.heap.size A n f) (hn : n ≤ 9223372036854775807) :
    Calls Try.prog 8 #[.agg #[.int .i64 X0, .int .i64 Y0, .int .i64 X1, .int .i64 Y1], .int .i64 d0, .slice A n c, .int .i64 e0] w fun e w' => e = .returned (.bool true) ∧ Below w.heap.size w w' := by
  go_enter Try.func8, Try.ntmps8
  go_wp2_with fail
  have r0 := BoxR.new_ w (.int .i64 X0) (.int .i64 Y0) (.int .i64 X1) (.int .i64 Y1)
  have bb := below_alloc (Below.refl w.heap.size w) (.cells #[.int .i64 X0, .int .i64 Y0, .int .i64 X1, .int .i64 Y1] 23)
  generalize World.alloc w _ = w1 at *
  refine (known10 _).mono ?_
  rintro e w2 ⟨rfl, b2⟩
  have r2 := r0.below b2 r0.lt
  have hW0 : w.heap.size < w2.heap.size := r2.lt
  have hB2 := below_trans bb b2
  clear r0 bb b2
  have c0 := r2.c0
  have c1 := r2.c1
  have c2 := r2.c2
  have c3 := r2.c3
  have fz := r2.fz
  go_wp2_with fail
  refine (plane_any X0 Y0 X1 Y1 A n c f w2 ((ha.below hB2).more hB2.size) hn).mono ?_
  rintro e w3 ⟨x, y, W, H, pb, g, hx, hy, hW, hH, rfl, hpb, p3, m3, b3⟩
  obtain ⟨N, hN⟩ : ∃ N, H * W = N := ⟨_, rfl⟩
  rw [hN] at p3 m3 ⊢
  have hx2 : x < 40 := by have := Int.emod_lt_of_pos X0 (b := 40) (by omega); omega
  have hy2 : y < 40 := by have := Int.emod_lt_of_pos Y0 (b := 40) (by omega); omega
  have hW2 : W < 13 := by have := Int.emod_lt_of_pos X1 (b := 13) (by omega); omega
  have hH2 : H < 13 := by have := Int.emod_lt_of_pos Y1 (b := 13) (by omega); omega
  clear hx hy hW hH
  have r3 := r2.below b3 r2.lt
  have hB3 := below_trans hB2 b3
  have hs3 : w.heap.size < w3.heap.size := r3.lt
  clear r2 hB2 b3 c0 c1 c2 c3 fz
  unfold rectV
  have c0 := r3.c0
  have c1 := r3.c1
  have c2 := r3.c2
  have c3 := r3.c3
  have fz := r3.fz
  have hpw : pb ≠ w.heap.size := Nat.ne_of_gt (Nat.lt_of_lt_of_le (by have := hW0; exact this) hpb)
  have r4 := (((r3.set0 (.int .i64 x)).set1 (.int .i64 y)).set2 (.int .i64 ((x : Int) + W))).set3 (.int .i64 ((y : Int) + H))
  have hB4 := (((hB3.setCell (p := ⟨w.heap.size, 0, none⟩) (Nat.le_refl _) (.int .i64 x)).setCell (p := ⟨w.heap.size, 1, none⟩) (Nat.le_refl _) (.int .i64 y)).setCell (p := ⟨w.heap.size, 2, none⟩) (Nat.le_refl _) (.int .i64 ((x : Int) + W))).setCell (p := ⟨w.heap.size, 3, none⟩) (Nat.le_refl _) (.int .i64 ((y : Int) + H))
  have p4 := (((p3.other (a := ⟨w.heap.size, 0, none⟩) hpw (.int .i64 x)).other (a := ⟨w.heap.size, 1, none⟩) hpw (.int .i64 y)).other (a := ⟨w.heap.size, 2, none⟩) hpw (.int .i64 ((x : Int) + W))).other (a := ⟨w.heap.size, 3, none⟩) hpw (.int .i64 ((y : Int) + H))
  have R4 := Lib.hid r4
  have B4 := Lib.hid hB4
  have P4 := Lib.hid p4
  clear r4 hB4 p4 r3 hB3 p3 ha
  go_wp2_with fail
  have r4 := R4.out
  have hB4 := B4.out
  have p4 := P4.out
  clear R4 B4 P4 c0 c1 c2 c3 fz
  generalize World.setCell (World.setCell (World.setCell (World.setCell w3 _ _) _ _) _ _) _ _ = w4 at *
  have hs4 := r4.lt
  have hN2 : N ≤ 144 := by rw [← hN]; exact Nat.mul_le_mul (show H ≤ 12 by omega) (show W ≤ 12 by omega)
  refine (within10e _ _ (by omega) (by omega) _).mono ?_
  rintro e w' ⟨l, hl0, hl1, rfl, rfl⟩
  obtain ⟨l, rfl⟩ := Int.eq_ofNat_of_zero_le hl0
  go_wp2_with fail
  refine (within10e _ _ (by omega) (by omega) _).mono ?_
  rintro e w' ⟨ls, hls0, hls1, rfl, rfl⟩
  obtain ⟨ls, rfl⟩ := Int.eq_ofNat_of_zero_le hls0
  have p16 : ∀ l : Nat, l ≤ 5 → (16 : Int) ^ l ≤ 1048576 := fun l hl => by
    have h := Nat.pow_le_pow_right (show 0 < 16 by omega) hl
    have e : (16 : Int) ^ l = ((16 ^ l : Nat) : Int) := by simp
    rw [e]; omega
  have SP : ∀ (l : Nat), l ≤ 5 → ∀ (v : World), PInt v pb N g → Calls Try.prog 15 #[.agg #[.int .i64 x, .int .i64 y, .int .i64 ((x : Int) + W), .int .i64 ((y : Int) + H)], .int .i64 l, .slice (some ⟨pb, 0, none⟩) N N] v fun e w' => ∃ u, e = .returned u ∧ RowsAt w' v.heap.size u (bandsF l x y W H g) ∧ Below v.heap.size v w' := fun l hl v pp =>
    dsplit_any l hl x y W H N hN (by omega) (by omega) (by omega) (by omega) _ N g 524304 v (pp.ints pp.lt) m3 (by omega) (by have := p16 l hl; omega)
  have SP1 := Lib.hid (SP l (by omega))
  have SP2 := Lib.hid (SP ls (by omega))
  have c0 := r4.c0
  have c1 := r4.c1
  have c2 := r4.c2
  have c3 := r4.c3
  go_wp2_with fail
  refine (SP1.out w4 p4).mono ?_
  rintro e w5 ⟨vb, rfl, rb, b5⟩
  have p5 := p4.below b5 p4.lt
  have r5 := r4.below b5 r4.lt
  have hB5 := hB4.trans (b5.mono (Nat.le_of_lt r4.lt))
  clear c0 c1 c2 c3 p4 r4 hB4 b5 SP1 SP
  have c0 := r5.c0
  have c1 := r5.c1
  have c2 := r5.c2
  have c3 := r5.c3
  go_wp2_with fail
  refine (SP2.out w5 p5).mono ?_
  rintro e w6 ⟨vc, rfl, rc, b6⟩
  have p6 := p5.below b6 p5.lt
  have r6 := r5.below b6 r5.lt
  have rb6 := rb.below b6
  have hB6 := hB5.trans (b6.mono (Nat.le_of_lt r5.lt))
  clear c0 c1 c2 c3 p5 r5 hB5 b6 SP2 rb
  obtain ⟨Ab, cb, rfl, hcb, bB⟩ := rb6.bands
  obtain ⟨Ac, cc, rfl, hcc, bC⟩ := rc.bands
  rw [bandsF_len] at hcb hcc ⊢
  rw [bandsF_len]
  clear rb6 rc
  have JN1 : ∀ v : World, BandsAt v v.heap.size Ab (bandsF l x y W H g) → Calls Try.prog 19 #[.agg #[.int .i64 x, .int .i64 y, .int .i64 ((x : Int) + W), .int .i64 ((y : Int) + H)], .int .i64 l, .slice Ab (3 * l + 1) cb, .int .i64 ((l : Int) + 1)] v fun e w' => ∃ g', e = .returned (.slice (some ⟨g', 0, none⟩) N N) ∧ PInt w' g' N g ∧ v.heap.size ≤ g' ∧ Below v.heap.size v w' := fun v hA => by
    have := djoin_any l (by omega) x y W H N hN (by omega) (by omega) (by omega) (by omega) 0 (Nat.zero_le _) ((l : Int) + 1) (by simp) Ab (3 * l + 1) cb _ g 524304 v hA (bandsF_len _ _ _ _ _ _) (Nat.le_refl _) (by omega) (fun _ _ => rfl) m3 (by omega) (by have := p16 l (by omega); omega)
    rw [show lowest 0 x y W H g = (N, g) by unfold lowest; rw [hN]] at this
    exact this
  have hKx := lowest_is ls x y W H g
  obtain ⟨K, h, hK⟩ : ∃ K h, lowest ls x y W H g = (K, h) := ⟨_, _, rfl⟩
  rw [hK] at hKx
  have hKN : K ≤ H * W := bands_small ls x y W H g 0 (K, h) hKx
  obtain ⟨R, hR⟩ : ∃ R : Int, R = (l : Int) + 1 - ls := ⟨_, rfl⟩
  have JN2 : ∀ v : World, BandsAt v v.heap.size Ab (bandsF l x y W H g) → Calls Try.prog 19 #[.agg #[.int .i64 x, .int .i64 y, .int .i64 ((x : Int) + W), .int .i64 ((y : Int) + H)], .int .i64 l, .slice Ab (3 * l + 1) cb, .int .i64 R] v fun e w' => ∃ g', e = .returned (.slice (some ⟨g', 0, none⟩) K K) ∧ PInt w' g' K h ∧ v.heap.size ≤ g' ∧ Below v.heap.size v w' := fun v hA => by
    have := djoin_any l (by omega) x y W H N hN (by omega) (by omega) (by omega) (by omega) ls (by omega) R hR Ab (3 * l + 1) cb _ g 524304 v hA (bandsF_len _ _ _ _ _ _) (Nat.le_refl _) (by omega) (fun _ _ => rfl) m3 (by omega) (by have := p16 l (by omega); omega)
    rw [hK] at this
    exact this
  have sR : IntKind.i64.wrap ((l : Int) + 1 - ls) = R := by rw [← hR]; exact IntWalk.i64_in _ (by omega)
  obtain ⟨nb, hnb⟩ : ∃ nb, nb = 3 * l + 1 := ⟨_, rfl⟩
  obtain ⟨nc, hnc⟩ : ∃ nc, nc = 3 * ls + 1 := ⟨_, rfl⟩
  rw [← hnb] at hcb JN1 JN2 ⊢
  rw [← hnc] at hcc ⊢
  have hKx' : (bandsF ls x y W H g)[0]? = some (K, h) := hKx
  obtain ⟨gc, oc, XC, dc, rfl, lc, fc, hdc, jc⟩ := bC.at_ hKx'
  simp only [Nat.add_zero] at fc jc hdc
  have wl1 : IntKind.i64.wrap (3 * (l : Int)) = 3 * (l : Int) := IntWalk.i64_in _ (by omega)
  have wl2 : IntKind.i64.wrap (3 * (l : Int) + 1) = (nb : Int) := by rw [show 3 * (l : Int) + 1 = (nb : Int) by omega]; exact IntWalk.i64_in _ (by omega)
  have wl3 : IntKind.i64.wrap (3 * (ls : Int)) = 3 * (ls : Int) := IntWalk.i64_in _ (by omega)
  have wl4 : IntKind.i64.wrap (3 * (ls : Int) + 1) = (nc : Int) := by rw [show 3 * (ls : Int) + 1 = (nc : Int) by omega]; exact IntWalk.i64_in _ (by omega)
  have wl5 : IntKind.i64.wrap ((l : Int) + 1) = (l : Int) + 1 := IntWalk.i64_in _ (by omega)
  have hnc0 : 0 < nc := by omega
  have hHW : H * W ≤ 144 := by rw [hN]; exact hN2
  have JN1 := Lib.hid JN1
  have JN2 := Lib.hid JN2
  clear hR hnb hnc hKx hKx' hK bC m3 hN p16
  obtain ⟨w7, hw7⟩ : ∃ w7, w7 = w6.drew := ⟨_, rfl⟩
  have S0 : w6.cell? ⟨w.heap.size, 0, none⟩ = some (.int .i64 x) ∧ w6.cell? ⟨w.heap.size, 1, none⟩ = some (.int .i64 y) ∧ w6.cell? ⟨w.heap.size, 2, none⟩ = some (.int .i64 ((x : Int) + W)) ∧ w6.cell? ⟨w.heap.size, 3, none⟩ = some (.int .i64 ((y : Int) + H)) ∧ w6.cell? ⟨gc, oc, none⟩ = some (.slice XC K dc) := ⟨r6.c0, r6.c1, r6.c2, r6.c3, fc⟩
  have p7 : PInt w7 pb N g := by rw [hw7]; exact p6
  have r7 : BoxR w7 w.heap.size (.int .i64 x) (.int .i64 y) (.int .i64 ((x : Int) + W)) (.int .i64 ((y : Int) + H)) := by rw [hw7]; exact r6
  have f7 : w7.cell? ⟨gc, oc, none⟩ = some (.slice XC K dc) := by rw [hw7]; exact fc
  have j7 : IntsAt w7 w7.heap.size XC K h := by rw [hw7]; exact jc
  have b7 : BandsAt w7 w7.heap.size Ab (bandsF l x y W H g) := by rw [hw7]; exact bB
  have hB7 : Below w.heap.size w w7 := by rw [hw7]; exact hB6.drew
  have lc7 : gc < w7.heap.size := by rw [hw7]; exact lc
  have HW7 := Lib.hid hw7
  clear hw7 p6 r6 jc bB hB6
  generalize bandsF l x y W H g = bs at *
  go_wp2_with fail
  go_region_held3 (fun w' => w'.cell? ⟨w.heap.size, 0, none⟩ = some (.int .i64 x) ∧ w'.cell? ⟨w.heap.size, 1, none⟩ = some (.int .i64 y) ∧ w'.cell? ⟨w.heap.size, 2, none⟩ = some (.int .i64 ((x : Int) + W)) ∧ w'.cell? ⟨w.heap.size, 3, none⟩ = some (.int .i64 ((y : Int) + H)) ∧ w'.cell? ⟨gc, oc, none⟩ = some (.slice XC K dc))
    (first | exact S5 | exact S4 | exact S3 | exact S2 | exact S0)
    (first
      | (go_simp; first
        | (go_at_call 19; rw [← HW7.out]; (with_reducible refine (JN1.out w7 b7).mono ?_); rintro e v1 ⟨g1, rfl, q1, hg1, b8⟩; have r8 := r7.below b8 r7.lt; have f8 := (b8.cell (p := ⟨gc, oc, none⟩) lc7).trans f7; have S2 : v1.cell? ⟨w.heap.size, 0, none⟩ = some (.int .i64 x) ∧ v1.cell? ⟨w.heap.size, 1, none⟩ = some (.int .i64 y) ∧ v1.cell? ⟨w.heap.size, 2, none⟩ = some (.int .i64 ((x : Int) + W)) ∧ v1.cell? ⟨w.heap.size, 3, none⟩ = some (.int .i64 ((y : Int) + H)) ∧ v1.cell? ⟨gc, oc, none⟩ = some (.slice XC K dc) := ⟨r8.c0, r8.c1, r8.c2, r8.c3, f8⟩; have p8 := p7.below b8 p7.lt; have j8 := (j7.below b8).more b8.size; have bb8 := (b7.below b8).more b8.size; have lc8 := Nat.lt_of_lt_of_le lc7 b8.size; have hB8 := hB7.trans (b8.mono (Nat.le_of_lt r7.lt)); have i8 := q1.ints q1.lt; have i8' := p8.ints p8.lt; dsimp only)
        | (go_at_call 17; (with_reducible refine (ints10 _ _ N N N g v1 _ _ i8 i8' (by omega)).mono ?_); rintro e v2 ⟨rfl, q2, rfl⟩; have r9 := r8.drewN q2; have S3 : (v1.drewN q2).cell? ⟨w.heap.size, 0, none⟩ = some (.int .i64 x) ∧ (v1.drewN q2).cell? ⟨w.heap.size, 1, none⟩ = some (.int .i64 y) ∧ (v1.drewN q2).cell? ⟨w.heap.size, 2, none⟩ = some (.int .i64 ((x : Int) + W)) ∧ (v1.drewN q2).cell? ⟨w.heap.size, 3, none⟩ = some (.int .i64 ((y : Int) + H)) ∧ (v1.drewN q2).cell? ⟨gc, oc, none⟩ = some (.slice XC K dc) := ⟨r9.c0, r9.c1, r9.c2, r9.c3, f8⟩; have j9 := j8.drewN q2; have bb9 : BandsAt (v1.drewN q2) (v1.drewN q2).heap.size Ab bs := bb8; have hB9 := below_drewN hB8 q2; dsimp only)
        | (go_at_call 19; (with_reducible refine (JN2.out (v1.drewN q2) bb9).mono ?_); rintro e v3 ⟨g2, rfl, q3, hg3, b10⟩; have r10 := r9.below b10 r9.lt; have f10 := (b10.cell (p := ⟨gc, oc, none⟩) lc8).trans f8; have S4 : v3.cell? ⟨w.heap.size, 0, none⟩ = some (.int .i64 x) ∧ v3.cell? ⟨w.heap.size, 1, none⟩ = some (.int .i64 y) ∧ v3.cell? ⟨w.heap.size, 2, none⟩ = some (.int .i64 ((x : Int) + W)) ∧ v3.cell? ⟨w.heap.size, 3, none⟩ = some (.int .i64 ((y : Int) + H)) ∧ v3.cell? ⟨gc, oc, none⟩ = some (.slice XC K dc) := ⟨r10.c0, r10.c1, r10.c2, r10.c3, f10⟩; have j10 := (j9.below b10).more b10.size; have hB10 := hB9.trans (b10.mono (Nat.le_of_lt r9.lt)); have i10 := q3.ints q3.lt; dsimp only)
        | (go_at_call 17; (with_reducible refine (ints10 _ _ K K dc h v3 _ _ i10 j10 (by omega)).mono ?_); rintro e v4 ⟨rfl, q4, rfl⟩; have r11 := r10.drewN q4; have S5 : (v3.drewN q4).cell? ⟨w.heap.size, 0, none⟩ = some (.int .i64 x) ∧ (v3.drewN q4).cell? ⟨w.heap.size, 1, none⟩ = some (.int .i64 y) ∧ (v3.drewN q4).cell? ⟨w.heap.size, 2, none⟩ = some (.int .i64 ((x : Int) + W)) ∧ (v3.drewN q4).cell? ⟨w.heap.size, 3, none⟩ = some (.int .i64 ((y : Int) + H)) ∧ (v3.drewN q4).cell? ⟨gc, oc, none⟩ = some (.slice XC K dc) := ⟨r11.c0, r11.c1, r11.c2, r11.c3, f10⟩; have hB11 := below_drewN hB10 q4; dsimp only)
        | fail)
      | fail)
  rename_i heldx
  clear heldx
  go_wp2_with fail
  go_ret
  exact ⟨rfl, hB11⟩
end Go.Proofs.Ytmcdhdofgaoadaa
