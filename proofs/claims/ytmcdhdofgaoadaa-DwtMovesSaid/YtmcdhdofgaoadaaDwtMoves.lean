/- WALK of waveletlaw10.DwtMoves: every call answers true; memory below is kept. -/
import Derived.Test.YtmcdhdofgaoadaaDJoin
import Derived.Test.YtmcdhdofgaoadaaDPlane
import Derived.Deep.RegionHeld3
namespace Go.Proofs.Ytmcdhdofgaoadaa
open Go.RowKit
set_option maxHeartbeats 16000000
set_option linter.unusedVariables false
set_option linter.unusedSimpArgs false

set_option maxRecDepth 100000 in
theorem dwtMoves_walk (d0 e0 f0 : Int) (X0 Y0 X1 Y1 : Int) (A : Option Addr) (n c : Nat) (f : Nat → Int) (w : World) (ha : IntsAt w w.heap.size A n f) (hn : n ≤ 9223372036854775807) :
    Calls Try.prog 9 #[.agg #[.int .i64 X0, .int .i64 Y0, .int .i64 X1, .int .i64 Y1], .int .i64 d0, .slice A n c, .int .i64 e0, .int .i64 f0] w fun e w' => e = .returned (.bool true) ∧ Below w.heap.size w w' := by
  go_enter Try.func9, Try.ntmps9
  go_wp2_with fail
  have r0 := BoxR.new_ w (.int .i64 X0) (.int .i64 Y0) (.int .i64 X1) (.int .i64 Y1)
  have bb := below_alloc (Below.refl w.heap.size w) (.cells #[.int .i64 X0, .int .i64 Y0, .int .i64 X1, .int .i64 Y1] 23)
  generalize World.alloc w _ = w1 at *
  refine (known10 _).mono ?_
  rintro e w2 ⟨rfl, b2⟩
  have r2 := r0.below b2 r0.lt
  have hW0 : w.heap.size < w2.heap.size := r2.lt
  have hB2 := below_trans bb b2
  clear r0 bb b2
  have c0 := r2.c0
  have c1 := r2.c1
  have c2 := r2.c2
  have c3 := r2.c3
  have fz := r2.fz
  go_wp2_with fail
  refine (plane_any X0 Y0 X1 Y1 A n c f w2 ((ha.below hB2).more hB2.size) hn).mono ?_
  rintro e w3 ⟨x, y, W, H, pb, g, hx, hy, hW, hH, rfl, hpb, p3, m3, b3⟩
  obtain ⟨N, hN⟩ : ∃ N, H * W = N := ⟨_, rfl⟩
  rw [hN] at p3 m3 ⊢
  have hx2 : x < 40 := by have := Int.emod_lt_of_pos X0 (b := 40) (by omega); omega
  have hy2 : y < 40 := by have := Int.emod_lt_of_pos Y0 (b := 40) (by omega); omega
  have hW2 : W < 13 := by have := Int.emod_lt_of_pos X1 (b := 13) (by omega); omega
  have hH2 : H < 13 := by have := Int.emod_lt_of_pos Y1 (b := 13) (by omega); omega
  clear hx hy hW hH
  have r3 := r2.below b3 r2.lt
  have hB3 := below_trans hB2 b3
  have hs3 : w.heap.size < w3.heap.size := r3.lt
  clear r2 hB2 b3 c0 c1 c2 c3 fz
  unfold rectV
  have c0 := r3.c0
  have c1 := r3.c1
  have c2 := r3.c2
  have c3 := r3.c3
  have fz := r3.fz
  have hpw : pb ≠ w.heap.size := Nat.ne_of_gt (Nat.lt_of_lt_of_le (by have := hW0; exact this) hpb)
  have r4 := (((r3.set0 (.int .i64 x)).set1 (.int .i64 y)).set2 (.int .i64 ((x : Int) + W))).set3 (.int .i64 ((y : Int) + H))
  have hB4 := (((hB3.setCell (p := ⟨w.heap.size, 0, none⟩) (Nat.le_refl _) (.int .i64 x)).setCell (p := ⟨w.heap.size, 1, none⟩) (Nat.le_refl _) (.int .i64 y)).setCell (p := ⟨w.heap.size, 2, none⟩) (Nat.le_refl _) (.int .i64 ((x : Int) + W))).setCell (p := ⟨w.heap.size, 3, none⟩) (Nat.le_refl _) (.int .i64 ((y : Int) + H))
  have p4 := (((p3.other (a := ⟨w.heap.size, 0, none⟩) hpw (.int .i64 x)).other (a := ⟨w.heap.size, 1, none⟩) hpw (.int .i64 y)).other (a := ⟨w.heap.size, 2, none⟩) hpw (.int .i64 ((x : Int) + W))).other (a := ⟨w.heap.size, 3, none⟩) hpw (.int .i64 ((y : Int) + H))
  have R4 := Lib.hid r4
  have B4 := Lib.hid hB4
  have P4 := Lib.hid p4
  clear r4 hB4 p4 r3 hB3 p3 ha
  go_wp2_with fail
  have r4 := R4.out
  have hB4 := B4.out
  have p4 := P4.out
  clear R4 B4 P4 c0 c1 c2 c3 fz
  generalize World.setCell (World.setCell (World.setCell (World.setCell w3 _ _) _ _) _ _) _ _ = w4 at *
  have hs4 := r4.lt
  have hN2 : N ≤ 144 := by rw [← hN]; exact Nat.mul_le_mul (show H ≤ 12 by omega) (show W ≤ 12 by omega)
  refine (within10e _ _ (by omega) (by omega) _).mono ?_
  rintro e w' ⟨l, hl0, hl1, rfl, rfl⟩
  obtain ⟨l, rfl⟩ := Int.eq_ofNat_of_zero_le hl0
  go_wp2_with fail
  refine (within10e _ _ (by omega) (by omega) _).mono ?_
  rintro e w' ⟨kx, hkx0, hkx1, rfl, rfl⟩
  obtain ⟨kx, rfl⟩ := Int.eq_ofNat_of_zero_le hkx0
  have p2 : (2 : Nat) ^ l ≤ 32 := by
    have h := Nat.pow_le_pow_right (show 0 < 2 by omega) (show l ≤ 5 by omega)
    omega
  have ul : IntKind.u64.wrap (l : Int) = l := by
    show (l : Int) % 18446744073709551616 = l
    omega
  obtain ⟨dx, hdx⟩ : ∃ dx, kx * 2 ^ l = dx := ⟨_, rfl⟩
  have hdx2 : dx ≤ 96 := by rw [← hdx]; exact Nat.mul_le_mul (show kx ≤ 3 by omega) p2
  have sx : wrap64 ((kx : Int) * 2 ^ l) = (dx : Int) := by
    rw [show (kx : Int) * 2 ^ l = (dx : Int) by rw [← hdx]; simp]
    unfold wrap64
    omega
  have HDX := Lib.hid hdx
  have SX := Lib.hid sx
  have P2 := Lib.hid p2
  clear hdx sx p2
  go_wp2_with fail
  rw [SX.out]
  clear SX
  have p2 := P2.out
  refine (within10e _ _ (by omega) (by omega) _).mono ?_
  rintro e w' ⟨ky, hky0, hky1, rfl, rfl⟩
  obtain ⟨ky, rfl⟩ := Int.eq_ofNat_of_zero_le hky0
  obtain ⟨dy, hdy⟩ : ∃ dy, ky * 2 ^ l = dy := ⟨_, rfl⟩
  have hdy2 : dy ≤ 96 := by rw [← hdy]; exact Nat.mul_le_mul (show ky ≤ 3 by omega) p2
  have sy : wrap64 ((ky : Int) * 2 ^ l) = (dy : Int) := by
    rw [show (ky : Int) * 2 ^ l = (dy : Int) by rw [← hdy]; simp]
    unfold wrap64
    omega
  have HDY := Lib.hid hdy
  clear hdy P2
  have SY := Lib.hid sy
  have P2 := Lib.hid p2
  clear sy p2
  go_upto_region 6 with fail
  rw [SY.out]
  clear SY P2
  have p16 : (16 : Int) ^ l ≤ 1048576 := by
    have h := Nat.pow_le_pow_right (show 0 < 16 by omega) (show l ≤ 5 by omega)
    have e : (16 : Int) ^ l = ((16 ^ l : Nat) : Int) := by simp
    rw [e]; omega
  have h1 : x + dx ≤ 1048576 := Nat.le_trans (Nat.add_le_add (Nat.le_of_lt hx2) hdx2) (by decide)
  have h2 : y + dy ≤ 1048576 := Nat.le_trans (Nat.add_le_add (Nat.le_of_lt hy2) hdy2) (by decide)
  have h3 : ((524304 : Int) + 1) * 16 ^ l ≤ 4503599627370496 := by omega
  have hx5 : x ≤ 1048576 := by omega
  have hy5 : y ≤ 1048576 := by omega
  have hW5 : W ≤ 4096 := by omega
  have hH5 : H ≤ 4096 := by omega
  have hl5 : l ≤ 5 := by omega
  have h05 : (0 : Int) ≤ 524304 := by omega
  have eQ : rectV (x + dx) (y + dy) W H = .agg #[.int .i64 ((x : Int) + dx), .int .i64 ((y : Int) + dy), .int .i64 ((x : Int) + W + dx), .int .i64 ((y : Int) + H + dy)] := by
    have e1 : ((x + dx : Nat) : Int) + W = (x : Int) + W + dx := by omega
    have e2 : ((y + dy : Nat) : Int) + H = (y : Int) + H + dy := by omega
    unfold rectV
    rw [e1, e2]
    simp
  have hbm : bandsF l (x + dx) (y + dy) W H g = bandsF l x y W H g := by rw [← HDX.out, ← HDY.out]; exact bands_moved l x y kx ky W H g
  have SPr : ∀ (v : World), PInt v pb N g → Calls Try.prog 15 #[.agg #[.int .i64 x, .int .i64 y, .int .i64 ((x : Int) + W), .int .i64 ((y : Int) + H)], .int .i64 l, .slice (some ⟨pb, 0, none⟩) N N] v fun e w' => ∃ u, e = .returned u ∧ RowsAt w' v.heap.size u (bandsF l x y W H g) ∧ Below v.heap.size v w' := fun v pp =>
    dsplit_any l hl5 x y W H N hN hx5 hy5 hW5 hH5 _ N g 524304 v (pp.ints pp.lt) m3 h05 h3
  have SPq : ∀ (v : World), PInt v pb N g → Calls Try.prog 15 #[.agg #[.int .i64 ((x : Int) + dx), .int .i64 ((y : Int) + dy), .int .i64 ((x : Int) + W + dx), .int .i64 ((y : Int) + H + dy)], .int .i64 l, .slice (some ⟨pb, 0, none⟩) N N] v fun e w' => ∃ u, e = .returned u ∧ RowsAt w' v.heap.size u (bandsF l x y W H g) ∧ Below v.heap.size v w' := fun v pp => by
    have := dsplit_any l hl5 (x + dx) (y + dy) W H N hN h1 h2 hW5 hH5 _ N g 524304 v (pp.ints pp.lt) m3 h05 h3
    rw [eQ, hbm] at this
    exact this
  obtain ⟨nb, hnb⟩ : ∃ nb, nb = 3 * l + 1 := ⟨_, rfl⟩
  have hnb7 : 3 * l + 1 ≤ nb := Nat.le_of_eq hnb.symm
  have hnb8 : nb ≤ 1048576 := by rw [hnb]; exact Nat.le_trans (Nat.succ_le_succ (Nat.mul_le_mul_left 3 hl5)) (by decide)
  have hnb2 : nb ≤ 16 := by rw [hnb]; exact Nat.succ_le_succ (Nat.mul_le_mul_left 3 hl5)
  have hbl : (bandsF l x y W H g).length = nb := by rw [hnb, bandsF_len]
  have JNq : ∀ (v : World) (A : Option Addr) (c : Nat), BandsAt v v.heap.size A (bandsF l x y W H g) → Calls Try.prog 19 #[.agg #[.int .i64 ((x : Int) + dx), .int .i64 ((y : Int) + dy), .int .i64 ((x : Int) + W + dx), .int .i64 ((y : Int) + H + dy)], .int .i64 l, .slice A nb c, .int .i64 ((l : Int) + 1)] v fun e w' => ∃ g', e = .returned (.slice (some ⟨g', 0, none⟩) N N) ∧ PInt w' g' N g ∧ v.heap.size ≤ g' ∧ Below v.heap.size v w' := fun v A c hA => by
    have := djoin_any l hl5 (x + dx) (y + dy) W H N hN h1 h2 hW5 hH5 0 (Nat.zero_le _) ((l : Int) + 1) (by simp) A nb c (bandsF l x y W H g) g 524304 v hA hbl hnb7 hnb8 (fun _ _ => by rw [hbm]) m3 h05 h3
    rw [eQ, show lowest 0 (x + dx) (y + dy) W H g = (N, g) by unfold lowest; rw [hN]] at this
    exact this
  have hsm := bands_small l x y W H g
  have hHW : H * W ≤ 144 := by rw [hN]; exact hN2
  have SPr := Lib.hid SPr
  have SPq := Lib.hid SPq
  have JNq := Lib.hid JNq
  have HSM := Lib.hid hsm
  have HBL := Lib.hid hbl
  clear hbm eQ hN m3 p16 h3 hsm hnb hbl
  generalize bandsF l x y W H g = bs at *
  have c0 := r4.c0
  have c1 := r4.c1
  have c2 := r4.c2
  have c3 := r4.c3
  have hq0 := BoxR.new_ w4 (.int .i64 ((x : Int) + dx)) (.int .i64 ((y : Int) + dy)) (.int .i64 ((x : Int) + W + dx)) (.int .i64 ((y : Int) + H + dy))
  have r5 := r4.alloc (.cells #[.int .i64 ((x : Int) + dx), .int .i64 ((y : Int) + dy), .int .i64 ((x : Int) + W + dx), .int .i64 ((y : Int) + H + dy)] 23)
  have p5 := p4.alloc (.cells #[.int .i64 ((x : Int) + dx), .int .i64 ((y : Int) + dy), .int .i64 ((x : Int) + W + dx), .int .i64 ((y : Int) + H + dy)] 23)
  have hB5 := below_alloc hB4 (.cells #[.int .i64 ((x : Int) + dx), .int .i64 ((y : Int) + dy), .int .i64 ((x : Int) + W + dx), .int .i64 ((y : Int) + H + dy)] 23)
  have HH := Lib.hid (And.intro hq0 (And.intro r5 (And.intro p5 hB5)))
  clear hq0 r5 p5 hB5
  go_wp2_with fail
  obtain ⟨hq, r5, p5, hB5⟩ := HH.out
  clear HH c0 c1 c2 c3 r4 p4 hB4
  obtain ⟨qb, hqb⟩ : ∃ qb, qb = w4.heap.size := ⟨_, rfl⟩
  rw [← hqb] at hq ⊢
  clear hqb
  generalize World.alloc w4 _ = w5 at *
  obtain ⟨w7, hw7⟩ : ∃ w7, w7 = w5.drew := ⟨_, rfl⟩
  have S0 : w5.cell? ⟨w.heap.size, 0, none⟩ = some (.int .i64 x) ∧ w5.cell? ⟨w.heap.size, 1, none⟩ = some (.int .i64 y) ∧ w5.cell? ⟨w.heap.size, 2, none⟩ = some (.int .i64 ((x : Int) + W)) ∧ w5.cell? ⟨w.heap.size, 3, none⟩ = some (.int .i64 ((y : Int) + H)) ∧ w5.cell? ⟨qb, 0, none⟩ = some (.int .i64 ((x : Int) + dx)) ∧ w5.cell? ⟨qb, 1, none⟩ = some (.int .i64 ((y : Int) + dy)) ∧ w5.cell? ⟨qb, 2, none⟩ = some (.int .i64 ((x : Int) + W + dx)) ∧ w5.cell? ⟨qb, 3, none⟩ = some (.int .i64 ((y : Int) + H + dy)) := ⟨r5.c0, r5.c1, r5.c2, r5.c3, hq.c0, hq.c1, hq.c2, hq.c3⟩
  have p7 : PInt w7 pb N g := by rw [hw7]; exact p5
  have r7 : BoxR w7 w.heap.size (.int .i64 x) (.int .i64 y) (.int .i64 ((x : Int) + W)) (.int .i64 ((y : Int) + H)) := by rw [hw7]; exact r5
  have k7 : BoxR w7 qb (.int .i64 ((x : Int) + dx)) (.int .i64 ((y : Int) + dy)) (.int .i64 ((x : Int) + W + dx)) (.int .i64 ((y : Int) + H + dy)) := by rw [hw7]; exact hq
  have hB7 : Below w.heap.size w w7 := by rw [hw7]; exact hB5.drew
  have HW7 := Lib.hid hw7
  clear hw7 p5 r5 hq hB5
  go_region_held3 (fun w' => w'.cell? ⟨w.heap.size, 0, none⟩ = some (.int .i64 x) ∧ w'.cell? ⟨w.heap.size, 1, none⟩ = some (.int .i64 y) ∧ w'.cell? ⟨w.heap.size, 2, none⟩ = some (.int .i64 ((x : Int) + W)) ∧ w'.cell? ⟨w.heap.size, 3, none⟩ = some (.int .i64 ((y : Int) + H)) ∧ w'.cell? ⟨qb, 0, none⟩ = some (.int .i64 ((x : Int) + dx)) ∧ w'.cell? ⟨qb, 1, none⟩ = some (.int .i64 ((y : Int) + dy)) ∧ w'.cell? ⟨qb, 2, none⟩ = some (.int .i64 ((x : Int) + W + dx)) ∧ w'.cell? ⟨qb, 3, none⟩ = some (.int .i64 ((y : Int) + H + dy)))
    (first | exact S2 | exact S1 | exact S0)
    (first
      | (go_simp; go_at_call 15; first
        | (rw [← HW7.out]; (with_reducible refine (SPr.out w7 p7).mono ?_); rintro e v1 ⟨va, rfl, ra, b1⟩; have r8 := r7.below b1 r7.lt; have k8 := k7.below b1 k7.lt; have p8 := p7.below b1 p7.lt; have S1 : v1.cell? ⟨w.heap.size, 0, none⟩ = some (.int .i64 x) ∧ v1.cell? ⟨w.heap.size, 1, none⟩ = some (.int .i64 y) ∧ v1.cell? ⟨w.heap.size, 2, none⟩ = some (.int .i64 ((x : Int) + W)) ∧ v1.cell? ⟨w.heap.size, 3, none⟩ = some (.int .i64 ((y : Int) + H)) ∧ v1.cell? ⟨qb, 0, none⟩ = some (.int .i64 ((x : Int) + dx)) ∧ v1.cell? ⟨qb, 1, none⟩ = some (.int .i64 ((y : Int) + dy)) ∧ v1.cell? ⟨qb, 2, none⟩ = some (.int .i64 ((x : Int) + W + dx)) ∧ v1.cell? ⟨qb, 3, none⟩ = some (.int .i64 ((y : Int) + H + dy)) := ⟨r8.c0, r8.c1, r8.c2, r8.c3, k8.c0, k8.c1, k8.c2, k8.c3⟩; dsimp only)
        | ((with_reducible refine (SPq.out v1 p8).mono ?_); rintro e v2 ⟨vb, rfl, rb, b2⟩; have r9 := r8.below b2 r8.lt; have k9 := k8.below b2 k8.lt; have p9 := p8.below b2 p8.lt; have S2 : v2.cell? ⟨w.heap.size, 0, none⟩ = some (.int .i64 x) ∧ v2.cell? ⟨w.heap.size, 1, none⟩ = some (.int .i64 y) ∧ v2.cell? ⟨w.heap.size, 2, none⟩ = some (.int .i64 ((x : Int) + W)) ∧ v2.cell? ⟨w.heap.size, 3, none⟩ = some (.int .i64 ((y : Int) + H)) ∧ v2.cell? ⟨qb, 0, none⟩ = some (.int .i64 ((x : Int) + dx)) ∧ v2.cell? ⟨qb, 1, none⟩ = some (.int .i64 ((y : Int) + dy)) ∧ v2.cell? ⟨qb, 2, none⟩ = some (.int .i64 ((x : Int) + W + dx)) ∧ v2.cell? ⟨qb, 3, none⟩ = some (.int .i64 ((y : Int) + H + dy)) := ⟨r9.c0, r9.c1, r9.c2, r9.c3, k9.c0, k9.c1, k9.c2, k9.c3⟩; dsimp only)
        | fail)
      | fail)
  rename_i heldx
  clear heldx S0 S1 S2
  have hB9 := hB7.trans ((b1.mono (Nat.le_of_lt r7.lt)).trans (b2.mono (Nat.le_of_lt r8.lt)))
  have ra9 := ra.below b2
  obtain ⟨Aa, ca, rfl, hca, bA⟩ := ra9.bands
  obtain ⟨Ab, cb, rfl, hcb, bB⟩ := rb.bands
  rw [HBL.out] at hca hcb ⊢
  clear ra9 ra rb b1 b2 r7 r8 k7 k8 p7 p8 hB7 SPr SPq HW7
  have RO := Lib.hid (rows10 Aa Ab ca cb nb bs HBL.out v2 _ _ bA bB (by omega) (fun k z hz => Nat.le_trans (HSM.out k z hz) (by omega)))
  have c0 := k9.c0
  have c1 := k9.c1
  have c2 := k9.c2
  have c3 := k9.c3
  go_wp2_with fail
  refine RO.out.mono ?_
  rintro e w' ⟨rfl, q, rfl⟩
  clear RO bB
  go_wp2_with fail
  refine (JNq.out (v2.drewN q) Aa ca bA).mono ?_
  rintro e v3 ⟨g1, rfl, p10, hg1, b10⟩
  have p11 := (p9.drewN q).below b10 p9.lt
  have hB10 := (below_drewN hB9 q).trans (b10.mono (Nat.le_of_lt r9.lt))
  have i1 := p10.ints p10.lt
  have i2 := p11.ints p11.lt
  clear JNq bA r9 k9 p9 hB9 b10 c0 c1 c2 c3
  go_wp2_with fail
  refine (ints10 _ _ N N N g v3 _ _ i1 i2 (by omega)).mono ?_
  rintro e w' ⟨rfl, q2, rfl⟩
  go_wp2_with fail
  go_ret
  exact ⟨rfl, below_drewN hB10 _⟩
end Go.Proofs.Ytmcdhdofgaoadaa
