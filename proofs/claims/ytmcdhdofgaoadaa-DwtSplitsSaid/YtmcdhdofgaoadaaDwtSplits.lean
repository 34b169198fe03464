/- WALK of waveletlaw10.DwtSplits: every call answers true; memory below is kept. -/
import Derived.Test.YtmcdhdofgaoadaaDJoin
import Derived.Test.YtmcdhdofgaoadaaDPlane
import Derived.Test.YtmcdhdofgaoadaaRef10d
import Derived.Deep.RegionHeld3
namespace Go.Proofs.Ytmcdhdofgaoadaa
open Go.RowKit
set_option maxHeartbeats 16000000
set_option linter.unusedVariables false
set_option linter.unusedSimpArgs false

theorem BoxR.drewE {w w' : World} {p q : Nat} {a b c d : Value} (h : BoxR w p a b c d) (e : w' = w.drewN q) : BoxR w' p a b c d := by subst e; exact h
theorem IntsAt.drewE {w w' : World} {q n : Nat} {A : Option Addr} {f : Nat → Int} (h : IntsAt w w.heap.size A n f) (e : w' = w.drewN q) : IntsAt w' w'.heap.size A n f := by subst e; exact h

set_option maxRecDepth 100000 in
theorem dwtSplits_walk (d0 : Int) (X0 Y0 X1 Y1 : Int) (A : Option Addr) (n c : Nat) (f : Nat → Int) (w : World) (ha : IntsAt w w.heap.size A n f) (hn : n ≤ 9223372036854775807) :
    Calls Try.prog 3 #[.agg #[.int .i64 X0, .int .i64 Y0, .int .i64 X1, .int .i64 Y1], .int .i64 d0, .slice A n c] w fun e w' => e = .returned (.bool true) ∧ Below w.heap.size w w' := by
  go_enter Try.func3, Try.ntmps3
  go_wp2_with fail
  have r0 := BoxR.new_ w (.int .i64 X0) (.int .i64 Y0) (.int .i64 X1) (.int .i64 Y1)
  have bb := below_alloc (Below.refl w.heap.size w) (.cells #[.int .i64 X0, .int .i64 Y0, .int .i64 X1, .int .i64 Y1] 23)
  generalize World.alloc w _ = w1 at *
  refine (known10 _).mono ?_
  rintro e w2 ⟨rfl, b2⟩
  have r2 := r0.below b2 r0.lt
  have hW0 : w.heap.size < w2.heap.size := r2.lt
  have hB2 := below_trans bb b2
  clear r0 bb b2
  have c0 := r2.c0
  have c1 := r2.c1
  have c2 := r2.c2
  have c3 := r2.c3
  have fz := r2.fz
  go_wp2_with fail
  refine (plane_any X0 Y0 X1 Y1 A n c f w2 ((ha.below hB2).more hB2.size) hn).mono ?_
  rintro e w3 ⟨x, y, W, H, pb, g, hx, hy, hW, hH, rfl, hpb, p3, m3, b3⟩
  obtain ⟨N, hN⟩ : ∃ N, H * W = N := ⟨_, rfl⟩
  rw [hN] at p3 m3 ⊢
  have hx2 : x < 40 := by have := Int.emod_lt_of_pos X0 (b := 40) (by omega); omega
  have hy2 : y < 40 := by have := Int.emod_lt_of_pos Y0 (b := 40) (by omega); omega
  have hW2 : W < 13 := by have := Int.emod_lt_of_pos X1 (b := 13) (by omega); omega
  have hH2 : H < 13 := by have := Int.emod_lt_of_pos Y1 (b := 13) (by omega); omega
  clear hx hy hW hH
  have r3 := r2.below b3 r2.lt
  have hB3 := below_trans hB2 b3
  have hs3 : w.heap.size < w3.heap.size := r3.lt
  clear r2 hB2 b3 c0 c1 c2 c3 fz
  unfold rectV
  have c0 := r3.c0
  have c1 := r3.c1
  have c2 := r3.c2
  have c3 := r3.c3
  have fz := r3.fz
  have hpw : pb ≠ w.heap.size := Nat.ne_of_gt (Nat.lt_of_lt_of_le (by have := hW0; exact this) hpb)
  have r4 := (((r3.set0 (.int .i64 x)).set1 (.int .i64 y)).set2 (.int .i64 ((x : Int) + W))).set3 (.int .i64 ((y : Int) + H))
  have hB4 := (((hB3.setCell (p := ⟨w.heap.size, 0, none⟩) (Nat.le_refl _) (.int .i64 x)).setCell (p := ⟨w.heap.size, 1, none⟩) (Nat.le_refl _) (.int .i64 y)).setCell (p := ⟨w.heap.size, 2, none⟩) (Nat.le_refl _) (.int .i64 ((x : Int) + W))).setCell (p := ⟨w.heap.size, 3, none⟩) (Nat.le_refl _) (.int .i64 ((y : Int) + H))
  have p4 := (((p3.other (a := ⟨w.heap.size, 0, none⟩) hpw (.int .i64 x)).other (a := ⟨w.heap.size, 1, none⟩) hpw (.int .i64 y)).other (a := ⟨w.heap.size, 2, none⟩) hpw (.int .i64 ((x : Int) + W))).other (a := ⟨w.heap.size, 3, none⟩) hpw (.int .i64 ((y : Int) + H))
  have R4 := Lib.hid r4
  have B4 := Lib.hid hB4
  have P4 := Lib.hid p4
  clear r4 hB4 p4 r3 hB3 p3 ha
  go_wp2_with fail
  have r4 := R4.out
  have hB4 := B4.out
  have p4 := P4.out
  clear R4 B4 P4 c0 c1 c2 c3 fz
  generalize World.setCell (World.setCell (World.setCell (World.setCell w3 _ _) _ _) _ _) _ _ = w4 at *
  have hs4 := r4.lt
  have hN2 : N ≤ 144 := by rw [← hN]; exact Nat.mul_le_mul (show H ≤ 12 by omega) (show W ≤ 12 by omega)
  refine (within10e _ _ (by omega) (by omega) _).mono ?_
  rintro e w' ⟨l, hl0, hl1, rfl, rfl⟩
  obtain ⟨l, rfl⟩ := Int.eq_ofNat_of_zero_le hl0
  have i4 := p4.ints p4.lt
  go_wp2_with (first
    | (at_builtin; refine wpList_copyE rfl _ _ 24 rfl 3 int_info Try.underlying24 w4.heap.size rfl _ (some ⟨pb, 0, none⟩) N N g rfl i4 (Nat.le_refl _) (by omega) (Nat.le_refl _) ?_; intro A5 c5 w5 o5 b5))
  have r5 := r4.below b5 r4.lt
  have p5 := p4.below b5 p4.lt
  have hB5 := hB4.trans (b5.mono (Nat.le_of_lt r4.lt))
  clear r4 p4 hB4 b5 i4
  have hl5 : l ≤ 5 := by omega
  have p16 : ∀ l : Nat, l ≤ 5 → (16 : Int) ^ l ≤ 1048576 := fun l hl => by
    have h := Nat.pow_le_pow_right (show 0 < 16 by omega) hl
    have e : (16 : Int) ^ l = ((16 ^ l : Nat) : Int) := by simp
    rw [e]; omega
  have h16 : (524304 + 1 : Int) * 16 ^ l ≤ 4503599627370496 := by have := p16 l hl5; omega
  have hbl : (bandsF l x y W H g).length = 3 * l + 1 := bandsF_len _ _ _ _ _ _
  have hsm := bands_small l x y W H g
  rw [hN] at hsm
  have SP : ∀ (v : World), PInt v pb N g → Calls Try.prog 15 #[.agg #[.int .i64 x, .int .i64 y, .int .i64 ((x : Int) + W), .int .i64 ((y : Int) + H)], .int .i64 l, .slice (some ⟨pb, 0, none⟩) N N] v fun e w' => ∃ A' c', e = .returned (.slice A' (3 * l + 1) c') ∧ 3 * l + 1 ≤ c' ∧ BandsAt w' w'.heap.size A' (bandsF l x y W H g) ∧ Below v.heap.size v w' := fun v pp => by
    refine (dsplit_any l hl5 x y W H N hN (by omega) (by omega) (by omega) (by omega) _ N g 524304 v (pp.ints pp.lt) m3 (by omega) h16).mono ?_
    rintro e w' ⟨u, rfl, ru, bu⟩
    obtain ⟨A', c', rfl, hc', bA⟩ := ru.bands
    rw [hbl] at hc' ⊢
    exact ⟨A', c', rfl, hc', bA, bu⟩
  have SR : ∀ (v : World) (A' : Option Addr) (c' : Nat), IntsAt v v.heap.size A' N g → Calls Try.prog 16 #[.agg #[.int .i64 x, .int .i64 y, .int .i64 ((x : Int) + W), .int .i64 ((y : Int) + H)], .int .i64 l, .slice A' N c'] v fun e w' => ∃ A' c', e = .returned (.slice A' (3 * l + 1) c') ∧ 3 * l + 1 ≤ c' ∧ BandsAt w' w'.heap.size A' (bandsF l x y W H g) ∧ Below v.heap.size v w' := fun v A' c' ii => by
    refine (rsplit10_any l hl5 x y W H N hN (by omega) (by omega) (by omega) (by omega) A' c' g 524304 v ii m3 (by omega) h16).mono ?_
    rintro e w' ⟨u, rfl, ru, bu⟩
    obtain ⟨A', c', rfl, hc', bA⟩ := ru.bands
    rw [hbl] at hc' ⊢
    exact ⟨A', c', rfl, hc', bA, bu⟩
  clear h16 p16 m3
  generalize bandsF l x y W H g = bs at *
  obtain ⟨nb, hnb⟩ : ∃ nb, 3 * l + 1 = nb := ⟨_, rfl⟩
  rw [hnb] at hbl
  simp only [hnb] at SP SR
  have hnb2 : nb ≤ 16 := by omega
  have SP := Lib.hid SP
  have SR := Lib.hid SR
  have RO := Lib.hid (fun (v : World) (Aa Ab : Option Addr) (ca cb : Nat) (ha : BandsAt v v.heap.size Aa bs) (hb : BandsAt v v.heap.size Ab bs) => rows10 Aa Ab ca cb nb bs hbl v _ _ ha hb (by omega) (fun k z hz => Nat.le_trans (hsm k z hz) (by omega)))
  have II := Lib.hid (fun (v : World) (Aa Ab : Option Addr) (ca cb : Nat) (ha : IntsAt v v.heap.size Aa N g) (hb : IntsAt v v.heap.size Ab N g) => ints10 Aa Ab N ca cb g v _ _ ha hb (by omega))
  obtain ⟨w6, hw6⟩ : ∃ w6, w6 = w5.drew := ⟨_, rfl⟩
  have p6 : PInt w6 pb N g := by rw [hw6]; exact p5
  have r6 : BoxR w6 w.heap.size (.int .i64 x) (.int .i64 y) (.int .i64 ((x : Int) + W)) (.int .i64 ((y : Int) + H)) := by rw [hw6]; exact r5
  have o6 : OwnI w6 w4.heap.size 3 (.slice A5 N c5) N g := by rw [hw6]; exact o5
  have hB6 : Below w.heap.size w w6 := by rw [hw6]; exact hB5.drew
  have S0 : w5.cell? ⟨w.heap.size, 0, none⟩ = some (.int .i64 x) ∧ w5.cell? ⟨w.heap.size, 1, none⟩ = some (.int .i64 y) ∧ w5.cell? ⟨w.heap.size, 2, none⟩ = some (.int .i64 ((x : Int) + W)) ∧ w5.cell? ⟨w.heap.size, 3, none⟩ = some (.int .i64 ((y : Int) + H)) := ⟨r5.c0, r5.c1, r5.c2, r5.c3⟩
  have HW6 := Lib.hid hw6
  clear hw6 hbl hsm hN
  go_region_held3 (fun w' => w'.cell? ⟨w.heap.size, 0, none⟩ = some (.int .i64 x) ∧ w'.cell? ⟨w.heap.size, 1, none⟩ = some (.int .i64 y) ∧ w'.cell? ⟨w.heap.size, 2, none⟩ = some (.int .i64 ((x : Int) + W)) ∧ w'.cell? ⟨w.heap.size, 3, none⟩ = some (.int .i64 ((y : Int) + H)))
    (first | exact S4 | exact S3 | exact S2 | exact S1 | exact S0)
    (first
      | (go_simp; go_at_call 15; rw [← HW6.out]; (with_reducible refine (SP.out w6 p6).mono ?_); rintro e v1 ⟨Aa, ca, rfl, hca, ba, b1⟩; have r7 := r6.below b1 r6.lt; have o7 := o6.below b1; have S1 : v1.cell? ⟨w.heap.size, 0, none⟩ = some (.int .i64 x) ∧ v1.cell? ⟨w.heap.size, 1, none⟩ = some (.int .i64 y) ∧ v1.cell? ⟨w.heap.size, 2, none⟩ = some (.int .i64 ((x : Int) + W)) ∧ v1.cell? ⟨w.heap.size, 3, none⟩ = some (.int .i64 ((y : Int) + H)) := ⟨r7.c0, r7.c1, r7.c2, r7.c3⟩; dsimp only)
      | (go_simp; go_at_call 16; (with_reducible refine (SR.out v1 A5 c5 o7.ints).mono ?_); rintro e v2 ⟨Ab, cb, rfl, hcb, bb, b2⟩; have r8 := r7.below b2 r7.lt; have bA := (ba.below b2).more b2.size; have S2 : v2.cell? ⟨w.heap.size, 0, none⟩ = some (.int .i64 x) ∧ v2.cell? ⟨w.heap.size, 1, none⟩ = some (.int .i64 y) ∧ v2.cell? ⟨w.heap.size, 2, none⟩ = some (.int .i64 ((x : Int) + W)) ∧ v2.cell? ⟨w.heap.size, 3, none⟩ = some (.int .i64 ((y : Int) + H)) := ⟨r8.c0, r8.c1, r8.c2, r8.c3⟩; dsimp only)
      | (go_simp; go_at_call 14; (with_reducible refine (RO.out v2 Aa Ab ca cb bA bb).mono ?_); rintro e v3 ⟨rfl, q3, rfl⟩; have r9 := r8.drewN q3; have p8 := (p6.below b1 p6.lt).below b2 (p6.below b1 p6.lt).lt; have j1 : IntsAt (v2.drewN q3) (v2.drewN q3).heap.size (some ⟨pb, 0, none⟩) N g := (p8.ints p8.lt).drewN q3; have j2 : IntsAt (v2.drewN q3) (v2.drewN q3).heap.size A5 N g := (o7.below b2).ints.drewN q3; have S3 : (v2.drewN q3).cell? ⟨w.heap.size, 0, none⟩ = some (.int .i64 x) ∧ (v2.drewN q3).cell? ⟨w.heap.size, 1, none⟩ = some (.int .i64 y) ∧ (v2.drewN q3).cell? ⟨w.heap.size, 2, none⟩ = some (.int .i64 ((x : Int) + W)) ∧ (v2.drewN q3).cell? ⟨w.heap.size, 3, none⟩ = some (.int .i64 ((y : Int) + H)) := ⟨r9.c0, r9.c1, r9.c2, r9.c3⟩; dsimp only)
      | (go_simp; go_at_call 17; (with_reducible refine (II.out (v2.drewN q3) (some ⟨pb, 0, none⟩) A5 N c5 j1 j2).mono ?_); rintro e v4 ⟨rfl, q4, rfl⟩; have r10 := r9.drewN q4; have S4 : ((v2.drewN q3).drewN q4).cell? ⟨w.heap.size, 0, none⟩ = some (.int .i64 x) ∧ ((v2.drewN q3).drewN q4).cell? ⟨w.heap.size, 1, none⟩ = some (.int .i64 y) ∧ ((v2.drewN q3).drewN q4).cell? ⟨w.heap.size, 2, none⟩ = some (.int .i64 ((x : Int) + W)) ∧ ((v2.drewN q3).drewN q4).cell? ⟨w.heap.size, 3, none⟩ = some (.int .i64 ((y : Int) + H)) := ⟨r10.c0, r10.c1, r10.c2, r10.c3⟩; dsimp only)
      | fail)
  have r9 := (r6.below b1 r6.lt).below b2 (r6.below b1 r6.lt).lt
  have hB9 := hB6.trans ((b1.mono (Nat.le_of_lt r6.lt)).trans (b2.mono (Nat.le_of_lt (r6.below b1 r6.lt).lt)))
  rename_i heldx
  clear heldx
  go_wp2_with fail
  go_ret
  exact ⟨rfl, below_drewN (below_drewN hB9 _) _⟩
end Go.Proofs.Ytmcdhdofgaoadaa
