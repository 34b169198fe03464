/- WALK of waveletlaw10.DwtTwice: every call answers true; memory below is kept. -/
import Derived.Test.YtmcdhdofgaoadaaDPlane
import Derived.Test.YtmcdhdofgaoadaaDwtLaw
import Derived.Deep.RegionHeld3
import Derived.StillTailTactics
namespace Go.Proofs.Ytmcdhdofgaoadaa
open Go.RowKit
set_option maxHeartbeats 8000000
set_option linter.unusedVariables false
set_option linter.unusedSimpArgs false

theorem BandsAt.shift {w : World} {B : Nat} {A : Option Addr} {bs : List (Nat × (Nat → Int))} (h : BandsAt w B A bs) {lo n cap : Nat} (hn : lo + n ≤ bs.length) (hc : bs.length ≤ cap) : BandsAt w B (if cap = lo then A else A.map (·.add lo)) ((bs.drop lo).take n) := fun h0 => by
  rw [List.length_take, List.length_drop] at h0
  obtain ⟨b, off, rfl, hlt, hk⟩ := h (by omega)
  rw [if_neg (by omega)]
  refine ⟨b, off + lo, by simp [Addr.add], hlt, fun k x hx => ?_⟩
  have hx' : bs[lo + k]? = some x := by
    rw [List.getElem?_take] at hx
    split at hx
    · rw [List.getElem?_drop] at hx; exact hx
    · cases hx
  obtain ⟨A', c', h1, h2, h3⟩ := hk (lo + k) x hx'
  exact ⟨A', c', by rw [Nat.add_assoc]; exact h1, h2, h3⟩

theorem slice_bands_h {P : Program} (t : TypeId) (hinfo : (P.info? 24).map (fun i => (i.zero, i.size, i.bytes)) = some (some (.slice none 0 0), 1, 24)) (ht : P.underlying t = some (.slice 24)) {w : World} {B : Nat} {A : Option Addr} {N c hi : Nat} {bs : List (Nat × (Nat → Int))} (h : BandsAt w B A bs) (hl : bs.length = N) (hc : N ≤ c) (hh : hi ≤ N) (r : Int) (hr : r = hi) :
    ∃ A' c', (∀ u, (Instr.sliceAt t (.slice A N c) none (some (.int .i64 r)) none).run P u = .ok (.slice A' hi c') u) ∧ BandsAt w B A' (bs.take hi) := by
  obtain ⟨i, hi', hz1⟩ : ∃ i, P.info? 24 = some i ∧ i.size = 1 := by
    rcases hp : P.info? 24 with _ | i
    · rw [hp] at hinfo; cases hinfo
    · rw [hp] at hinfo
      simp only [Option.map_some, Option.some.injEq, Prod.mk.injEq] at hinfo
      exact ⟨i, rfl, hinfo.2.1⟩
  have he : P.elem t = 24 := by simp [Program.elem, ht]
  have ht' : P.underlying t = some (.slice (P.elem t)) := by rw [he]; exact ht
  subst hr
  have hs := h.shift (lo := 0) (n := hi) (cap := c) (by omega) (by omega)
  rw [List.drop_zero] at hs
  refine ⟨_, c, fun u => ?_, hs⟩
  rw [run_sliceAt_slice _ _ _ _ _ _ ht', run_slice_h _ _ _ _ _ ht' _ _ (by omega) (by omega)]
  rw [he]
  have e1 : ((hi : Nat) : Int).toNat = hi := by omega
  rw [e1]
  simp [sizeOf, typeInfo, hi', hz1, sliced]
theorem slice_bands_l {P : Program} (t : TypeId) (hinfo : (P.info? 24).map (fun i => (i.zero, i.size, i.bytes)) = some (some (.slice none 0 0), 1, 24)) (ht : P.underlying t = some (.slice 24)) {w : World} {B : Nat} {A : Option Addr} {N c lo : Nat} {bs : List (Nat × (Nat → Int))} (h : BandsAt w B A bs) (hl : bs.length = N) (hc : N ≤ c) (hh : lo ≤ N) (r : Int) (hr : r = lo) :
    ∃ A' c', (∀ u, (Instr.sliceAt t (.slice A N c) (some (.int .i64 r)) none none).run P u = .ok (.slice A' (N - lo) c') u) ∧ BandsAt w B A' (bs.drop lo) := by
  obtain ⟨i, hi', hz1⟩ : ∃ i, P.info? 24 = some i ∧ i.size = 1 := by
    rcases hp : P.info? 24 with _ | i
    · rw [hp] at hinfo; cases hinfo
    · rw [hp] at hinfo
      simp only [Option.map_some, Option.some.injEq, Prod.mk.injEq] at hinfo
      exact ⟨i, rfl, hinfo.2.1⟩
  have he : P.elem t = 24 := by simp [Program.elem, ht]
  have ht' : P.underlying t = some (.slice (P.elem t)) := by rw [he]; exact ht
  subst hr
  have hs := h.shift (lo := lo) (n := bs.length - lo) (cap := c) (by omega) (by omega)
  rw [List.take_of_length_le (by rw [List.length_drop]; exact Nat.le_refl _)] at hs
  refine ⟨_, c - lo, fun u => ?_, hs⟩
  rw [run_sliceAt_slice _ _ _ _ _ _ ht', run_slice_l _ _ _ _ _ ht' _ _ (by omega) (by omega)]
  rw [he]
  have e1 : ((lo : Nat) : Int).toNat = lo := by omega
  rw [e1]
  simp [sizeOf, typeInfo, hi', hz1, sliced]

theorem highs_small {W H lw lh : Nat} {G : Nat → Int} (h1 : lw ≤ W) (h2 : lh ≤ H) : ∀ (k : Nat) (x : Nat × (Nat → Int)), (highs W H lw lh G)[k]? = some x → x.1 ≤ H * W := fun k x hx => by
  unfold highs at hx
  match k, hx with
  | 0, hx => simp at hx; subst hx; exact Nat.mul_le_mul h2 (Nat.sub_le _ _)
  | 1, hx => simp at hx; subst hx; exact Nat.mul_le_mul (Nat.sub_le _ _) h1
  | 2, hx => simp at hx; subst hx; exact Nat.mul_le_mul (Nat.sub_le _ _) (Nat.sub_le _ _)
  | k + 3, hx => simp at hx
theorem hf_tdiv (x : Nat) : ((x : Int) + 1).tdiv 2 = (hf x : Nat) := by
  unfold hf
  rw [show ((x : Int) + 1) = ((x + 1 : Nat) : Int) by simp, show (2 : Int) = ((2 : Nat) : Int) from rfl, ← Int.ofNat_tdiv]
theorem hf_tdiv2 (x W : Nat) : ((x : Int) + W + 1).tdiv 2 = (hf x : Nat) + (low W (x % 2) : Nat) := by
  rw [hf_low, show ((x : Int) + W + 1) = ((x + W + 1 : Nat) : Int) by simp, show (2 : Int) = ((2 : Nat) : Int) from rfl, ← Int.ofNat_tdiv]
  simp

set_option maxRecDepth 100000 in
theorem dwtTwice_walk (X0 Y0 X1 Y1 : Int) (A : Option Addr) (n c : Nat) (f : Nat → Int) (w : World) (ha : IntsAt w w.heap.size A n f) (hn : n ≤ 9223372036854775807) :
    Calls Try.prog 7 #[.agg #[.int .i64 X0, .int .i64 Y0, .int .i64 X1, .int .i64 Y1], .slice A n c] w fun e w' => e = .returned (.bool true) ∧ Below w.heap.size w w' := by
  go_enter Try.func7, Try.ntmps7
  go_wp2_with fail
  have r0 := BoxR.new_ w (.int .i64 X0) (.int .i64 Y0) (.int .i64 X1) (.int .i64 Y1)
  have bb := below_alloc (Below.refl w.heap.size w) (.cells #[.int .i64 X0, .int .i64 Y0, .int .i64 X1, .int .i64 Y1] 23)
  generalize World.alloc w _ = w1 at *
  refine (known10 _).mono ?_
  rintro e w2 ⟨rfl, b2⟩
  have r2 := r0.below b2 r0.lt
  have hW0 : w.heap.size < w2.heap.size := r2.lt
  have hB2 := below_trans bb b2
  clear r0 bb b2
  have c0 := r2.c0
  have c1 := r2.c1
  have c2 := r2.c2
  have c3 := r2.c3
  have fz := r2.fz
  go_wp2_with fail
  refine (plane_any X0 Y0 X1 Y1 A n c f w2 ((ha.below hB2).more hB2.size) hn).mono ?_
  rintro e w3 ⟨x, y, W, H, pb, g, hx, hy, hW, hH, rfl, hpb, p3, m3, b3⟩
  obtain ⟨N, hN⟩ : ∃ N, H * W = N := ⟨_, rfl⟩
  rw [hN] at p3 m3 ⊢
  have hx2 : x < 40 := by have := Int.emod_lt_of_pos X0 (b := 40) (by omega); omega
  have hy2 : y < 40 := by have := Int.emod_lt_of_pos Y0 (b := 40) (by omega); omega
  have hW2 : W < 13 := by have := Int.emod_lt_of_pos X1 (b := 13) (by omega); omega
  have hH2 : H < 13 := by have := Int.emod_lt_of_pos Y1 (b := 13) (by omega); omega
  clear hx hy hW hH
  have r3 := r2.below b3 r2.lt
  have hB3 := below_trans hB2 b3
  have hs3 : w.heap.size < w3.heap.size := r3.lt
  clear r2 hB2 b3 c0 c1 c2 c3 fz
  unfold rectV
  have c0 := r3.c0
  have c1 := r3.c1
  have c2 := r3.c2
  have c3 := r3.c3
  have fz := r3.fz
  have hpw : pb ≠ w.heap.size := Nat.ne_of_gt (Nat.lt_of_lt_of_le (by have := hW0; exact this) hpb)
  have r4 := (((r3.set0 (.int .i64 x)).set1 (.int .i64 y)).set2 (.int .i64 ((x : Int) + W))).set3 (.int .i64 ((y : Int) + H))
  have hB4 := (((hB3.setCell (p := ⟨w.heap.size, 0, none⟩) (Nat.le_refl _) (.int .i64 x)).setCell (p := ⟨w.heap.size, 1, none⟩) (Nat.le_refl _) (.int .i64 y)).setCell (p := ⟨w.heap.size, 2, none⟩) (Nat.le_refl _) (.int .i64 ((x : Int) + W))).setCell (p := ⟨w.heap.size, 3, none⟩) (Nat.le_refl _) (.int .i64 ((y : Int) + H))
  have p4 := (((p3.other (a := ⟨w.heap.size, 0, none⟩) hpw (.int .i64 x)).other (a := ⟨w.heap.size, 1, none⟩) hpw (.int .i64 y)).other (a := ⟨w.heap.size, 2, none⟩) hpw (.int .i64 ((x : Int) + W))).other (a := ⟨w.heap.size, 3, none⟩) hpw (.int .i64 ((y : Int) + H))
  have R4 := Lib.hid r4
  have B4 := Lib.hid hB4
  have P4 := Lib.hid p4
  clear r4 hB4 p4 r3 hB3 p3 ha
  go_wp2_with fail
  have r4 := R4.out
  have hB4 := B4.out
  have p4 := P4.out
  clear R4 B4 P4 c0 c1 c2 c3 fz
  generalize World.setCell (World.setCell (World.setCell (World.setCell w3 _ _) _ _) _ _) _ _ = w4 at *
  have hs4 := r4.lt
  have hN2 : N ≤ 144 := by rw [← hN]; exact Nat.mul_le_mul (show H ≤ 12 by omega) (show W ≤ 12 by omega)
  have SP2 : ∀ (v : World), PInt v pb N g → Calls Try.prog 15 #[.agg #[.int .i64 x, .int .i64 y, .int .i64 ((x : Int) + W), .int .i64 ((y : Int) + H)], .int .i64 2, .slice (some ⟨pb, 0, none⟩) N N] v fun e w' => ∃ u, e = .returned u ∧ RowsAt w' v.heap.size u (bandsF 2 x y W H g) ∧ Below v.heap.size v w' := fun v pp =>
    dsplit_any 2 (by omega) x y W H N hN (by omega) (by omega) (by omega) (by omega) _ N g 524304 v (pp.ints pp.lt) m3 (by omega) (by omega)
  have SP1 : ∀ (v : World), PInt v pb N g → Calls Try.prog 15 #[.agg #[.int .i64 x, .int .i64 y, .int .i64 ((x : Int) + W), .int .i64 ((y : Int) + H)], .int .i64 1, .slice (some ⟨pb, 0, none⟩) N N] v fun e w' => ∃ u, e = .returned u ∧ RowsAt w' v.heap.size u (bandsF 1 x y W H g) ∧ Below v.heap.size v w' := fun v pp =>
    dsplit_any 1 (by omega) x y W H N hN (by omega) (by omega) (by omega) (by omega) _ N g 524304 v (pp.ints pp.lt) m3 (by omega) (by omega)
  have SP2 := Lib.hid SP2
  have SP1 := Lib.hid SP1
  obtain ⟨w5, hw5⟩ : ∃ w5, w5 = w4.drew := ⟨_, rfl⟩
  have p5 : PInt w5 pb N g := by rw [hw5]; exact p4
  have r5 : BoxR w5 w.heap.size (.int .i64 x) (.int .i64 y) (.int .i64 ((x : Int) + W)) (.int .i64 ((y : Int) + H)) := by rw [hw5]; exact r4
  have hB5 : Below w.heap.size w w5 := by rw [hw5]; exact hB4.drew
  have S0 : w4.cell? ⟨w.heap.size, 0, none⟩ = some (.int .i64 x) ∧ w4.cell? ⟨w.heap.size, 1, none⟩ = some (.int .i64 y) ∧ w4.cell? ⟨w.heap.size, 2, none⟩ = some (.int .i64 ((x : Int) + W)) ∧ w4.cell? ⟨w.heap.size, 3, none⟩ = some (.int .i64 ((y : Int) + H)) := ⟨r4.c0, r4.c1, r4.c2, r4.c3⟩
  have HW5 := Lib.hid hw5
  clear hw5
  go_region_held3 (fun w' => w'.cell? ⟨w.heap.size, 0, none⟩ = some (.int .i64 x) ∧ w'.cell? ⟨w.heap.size, 1, none⟩ = some (.int .i64 y) ∧ w'.cell? ⟨w.heap.size, 2, none⟩ = some (.int .i64 ((x : Int) + W)) ∧ w'.cell? ⟨w.heap.size, 3, none⟩ = some (.int .i64 ((y : Int) + H)))
    (first | exact S2 | exact S1 | exact S0)
    (first
      | (go_simp; go_at_call 15; first
        | (rw [← HW5.out]; (with_reducible refine (SP2.out w5 p5).mono ?_); rintro e v1 ⟨va, rfl, ra, b1⟩; have r6 := r5.below b1 r5.lt; have p6 := p5.below b1 p5.lt; have S1 : v1.cell? ⟨w.heap.size, 0, none⟩ = some (.int .i64 x) ∧ v1.cell? ⟨w.heap.size, 1, none⟩ = some (.int .i64 y) ∧ v1.cell? ⟨w.heap.size, 2, none⟩ = some (.int .i64 ((x : Int) + W)) ∧ v1.cell? ⟨w.heap.size, 3, none⟩ = some (.int .i64 ((y : Int) + H)) := ⟨r6.c0, r6.c1, r6.c2, r6.c3⟩; dsimp only)
        | ((with_reducible refine (SP1.out v1 p6).mono ?_); rintro e v2 ⟨vb, rfl, rb, b2⟩; have r7 := r6.below b2 r6.lt; have S2 : v2.cell? ⟨w.heap.size, 0, none⟩ = some (.int .i64 x) ∧ v2.cell? ⟨w.heap.size, 1, none⟩ = some (.int .i64 y) ∧ v2.cell? ⟨w.heap.size, 2, none⟩ = some (.int .i64 ((x : Int) + W)) ∧ v2.cell? ⟨w.heap.size, 3, none⟩ = some (.int .i64 ((y : Int) + H)) := ⟨r7.c0, r7.c1, r7.c2, r7.c3⟩; dsimp only)
        | fail)
      | fail)
  rename_i heldx
  clear heldx S0 S1 S2 SP1 SP2
  have hB7 := hB5.trans ((b1.mono (Nat.le_of_lt r5.lt)).trans (b2.mono (Nat.le_of_lt r6.lt)))
  have ra := ra.below b2
  clear b1 b2 r5 r6 p5 p6 p4 r4 hB4 hB5 HW5
  obtain ⟨Aa, ca, rfl, hca, bA⟩ := ra.bands
  obtain ⟨Ab, cb, rfl, hcb, bB⟩ := rb.bands
  rw [bandsF_len] at hca hcb ⊢
  rw [bandsF_len]
  clear ra rb
  have hlw : low W (x % 2) ≤ W := low_le (by omega)
  have hlh : low H (y % 2) ≤ H := low_le (by omega)
  have q0 := hf_tdiv x
  have q1 := hf_tdiv y
  have q2 := hf_tdiv2 x W
  have q3 := hf_tdiv2 y H
  have hm7 := planeF_within (x := x) (y := y) hN m3
  have e2 : bandsF 2 x y W H g = bandsF 1 (hf x) (hf y) (low W (x % 2)) (low H (y % 2)) (cutF W 0 0 (low W (x % 2)) (planeF x y W H g)) ++ highs W H (low W (x % 2)) (low H (y % 2)) (planeF x y W H g) := rfl
  have e1 : bandsF 1 x y W H g = [(low H (y % 2) * low W (x % 2), cutF W 0 0 (low W (x % 2)) (planeF x y W H g))] ++ highs W H (low W (x % 2)) (low H (y % 2)) (planeF x y W H g) := rfl
  rw [e2] at bA
  rw [e1] at bB
  have hmL := cut_within (a := 0) (b := 0) (n := low W (x % 2)) (m := low H (y % 2)) hN (by omega) (by omega) hm7
  generalize low W (x % 2) = lw at *
  generalize low H (y % 2) = lh at *
  generalize planeF x y W H g = G at *
  generalize cutF W 0 0 lw G = L at *
  obtain ⟨gb, ob, AL, cL, rfl, lL, fL, hcL, iL⟩ := bB.at_ (k := 0) (x := (lh * lw, L)) rfl
  simp only [Nat.add_zero] at fL
  clear e1 e2 hm7 m3 hN
  have c0 := r7.c0
  have c1 := r7.c1
  have c2 := r7.c2
  have c3 := r7.c3
  have hx3 : hf x ≤ 40 := by unfold hf; omega
  have hy3 : hf y ≤ 40 := by unfold hf; omega
  have hhalf := BoxR.new_ v2 (.int .i64 (hf x)) (.int .i64 (hf y)) (.int .i64 ((hf x : Int) + lw)) (.int .i64 ((hf y : Int) + lh))
  have hbh := below_alloc (Below.refl v2.heap.size v2) (.cells #[.int .i64 (hf x), .int .i64 (hf y), .int .i64 ((hf x : Int) + lw), .int .i64 ((hf y : Int) + lh)] 23)
  have HH := Lib.hid hhalf
  have HB := Lib.hid hbh
  clear hhalf hbh
  go_wp2_with fail
  have hhalf := HH.out
  have hbh := HB.out
  clear HH HB c0 c1 c2 c3 q0 q1 q2 q3 r7
  generalize World.alloc v2 _ = v3 at *
  have iL3 := (iL.below hbh).more hbh.size
  have fL3 := (hbh.cell (p := ⟨gb, ob, none⟩) lL).trans fL
  have bA3 := (bA.below hbh).more hbh.size
  have bB3 := (bB.below hbh).more hbh.size
  have hB3 := below_trans hB7 hbh
  clear iL fL bA bB hbh hB7
  have h0 := hhalf.c0
  have h1 := hhalf.c1
  have h2 := hhalf.c2
  have h3 := hhalf.c3
  have SPh := dsplit_any 1 (by omega) (hf x) (hf y) lw lh (lh * lw) rfl (by omega) (by omega) (by omega) (by omega) AL cL L (16 * 524304 + 15) v3.drew (show IntsAt v3.drew v3.drew.heap.size AL (lh * lw) L from iL3) hmL (by omega) (by omega)
  have SPh : Calls Try.prog 15 #[.agg #[.int .i64 (hf x), .int .i64 (hf y), .int .i64 ((hf x : Int) + lw), .int .i64 ((hf y : Int) + lh)], .int .i64 1, .slice AL (lh * lw) cL] v3.drew fun e w' => ∃ u, e = .returned u ∧ RowsAt w' v3.drew.heap.size u (bandsF 1 (hf x) (hf y) lw lh L) ∧ Below v3.drew.heap.size v3.drew w' := SPh
  have SPh := Lib.hid SPh
  refine wp_region_still_tail 4 (by kernel_rfl) (by kernel_rfl) ?_
  simp only [List.take_succ_cons, List.take_zero, List.drop_succ_cons, List.drop_zero]
  change wpStill _ _ v3.drew (fun a' => wpList _ _ _ _ a' v3.drew) _ _
  repeat still_step
  refine wpStill_nil ?_
  go_wp2_with fail
  refine SPh.out.mono ?_
  rintro e v4 ⟨vc, rfl, rc, b4⟩
  obtain ⟨Ac, cc, rfl, hcc, bC⟩ := rc.bands
  rw [bandsF_len] at hcc ⊢
  have b4 : Below v3.heap.size v3 v4 := (Below.refl _ v3).drew.trans b4
  have bA4 := bA3.below b4
  have bB4 := bB3.below b4
  have hB4 := below_trans hB3 b4
  clear rc bA3 bB3 b4 hB3 iL3 fL3 h0 h1 h2 h3 hhalf SPh
  have hbs := bands_small 1 (hf x) (hf y) lw lh L
  have hhs := highs_small (W := W) (H := H) (lw := lw) (lh := lh) (G := G) hlw hlh
  have hl1 : (bandsF 1 (hf x) (hf y) lw lh L).length = 4 := bandsF_len _ _ _ _ _ _
  have hlm : lh * lw ≤ 144 := Nat.mul_le_mul (show lh ≤ 12 by omega) (show lw ≤ 12 by omega)
  have hHm : H * W ≤ 144 := Nat.mul_le_mul (show H ≤ 12 by omega) (show W ≤ 12 by omega)
  generalize bandsF 1 (hf x) (hf y) lw lh L = b1s at *
  have hl3 : (highs W H lw lh G).length = 3 := rfl
  generalize highs W H lw lh G = hs at *
  obtain ⟨T1, d1, hs1, t1⟩ := slice_bands_h (P := Try.prog) 30 sl_info Try.underlying30 (N := 7) (c := ca) (hi := 4) bA4 (by rw [List.length_append, hl1, hl3]) hca (by omega) 4 rfl
  obtain ⟨T2, d2, hs2, t2⟩ := slice_bands_l (P := Try.prog) 30 sl_info Try.underlying30 (N := 7) (c := ca) (lo := 4) bA4 (by rw [List.length_append, hl1, hl3]) hca (by omega) 4 rfl
  obtain ⟨T3, d3, hs3', t3⟩ := slice_bands_l (P := Try.prog) 30 sl_info Try.underlying30 (N := 4) (c := cb) (lo := 1) bB4 (by rw [List.length_append, hl3]; rfl) hcb (by omega) 1 rfl
  rw [List.take_append_of_le_length (by omega), List.take_of_length_le (by omega)] at t1
  rw [List.drop_append_of_le_length (by omega), List.drop_of_length_le (by omega), List.nil_append] at t2
  rw [List.drop_append_of_le_length (by simp), List.drop_of_length_le (by simp), List.nil_append] at t3
  simp only [Nat.reduceSub, Nat.reduceMul, Nat.reduceAdd] at hs1 hs2 hs3' ⊢
  have R1 := Lib.hid (fun q => rows10 T1 Ac d1 cc 4 b1s hl1 (v4.drewN q) _ _ (t1.drewN q) (bC.drewN q) (by omega) (fun k z hz => Nat.le_trans (hbs k z hz) (by omega)))
  have R2 := Lib.hid (fun q => rows10 T2 T3 d2 d3 3 hs hl3 (v4.drewN q) _ _ (t2.drewN q) (t3.drewN q) (by omega) (fun k z hz => Nat.le_trans (hhs k z hz) (by omega)))
  clear t1 t2 t3 bA4 bB4 bC hbs hhs
  go_wp2_with fail
  go_quiet (first | (go_at_call 14; first | (with_reducible exact Calls.quiet_of (R1.out _)) | (with_reducible exact Calls.quiet_of (R2.out _))))
  go_wp2_with fail
  go_ret
  exact ⟨rfl, below_drewN hB4 _⟩
end Go.Proofs.Ytmcdhdofgaoadaa
