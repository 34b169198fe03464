/- CONTRACT of dwt.Join: bands that come of a split are joined to the plane; of fewer resolutions to the lowest band of so many splits less. -/
import Derived.Test.YtmcdhdofgaoadaaJoinLaw
import Derived.Test.YtmcdhdofgaoadaaDKnown
import Derived.Deep.RegionHeld3
namespace Go.Proofs.Ytmcdhdofgaoadaa
open Go.RowKit
set_option maxHeartbeats 16000000
set_option linter.unusedVariables false
set_option linter.unusedSimpArgs false

theorem ne_block {g gL : Nat} (h : g < gL) : ∀ ad, some (⟨gL, 0, none⟩ : Addr) = some ad → g ≠ ad.block := fun ad had => by
  injection had with had
  subst had
  exact Nat.ne_of_lt h

theorem djoin1_any (rb x : Nat) (hx : x ≤ 9223372036854775807) (A : Option Addr) (n c : Nat) (f : Nat → Int) (w : World) (hc : w.cell? ⟨rb, 0, none⟩ = some (.int .i64 x)) (ha : IntsAt w w.heap.size A n f) (hn : n ≤ 1099511627775) (hb : Within n 72057594037927936 f) :
    Calls Try.prog 38 #[.slice A n c, .pointer (some ⟨rb, 0, none⟩)] w fun e w' => ∃ A' c', e = .returned (.slice A' n c') ∧ OwnI w' w.heap.size 3 (.slice A' n c') n (joinF n (x % 2) f) ∧ Below w.heap.size w w' := by
  go_enter Try.func38, Try.ntmps38
  go_wp2_with fail
  refine (join_any x A n c f w ha hn hb hx).mono ?_
  rintro e w1 ⟨A', c', rfl, o1, b1⟩
  go_wp2_with fail
  go_ret
  exact ⟨A', c', rfl, o1, b1⟩
theorem djoin2_any (rb y : Nat) (hy : y ≤ 9223372036854775807) (A : Option Addr) (n c : Nat) (f : Nat → Int) (w : World) (hc : w.cell? ⟨rb, 1, none⟩ = some (.int .i64 y)) (ha : IntsAt w w.heap.size A n f) (hn : n ≤ 1099511627775) (hb : Within n 72057594037927936 f) :
    Calls Try.prog 40 #[.slice A n c, .pointer (some ⟨rb, 0, none⟩)] w fun e w' => ∃ A' c', e = .returned (.slice A' n c') ∧ OwnI w' w.heap.size 3 (.slice A' n c') n (joinF n (y % 2) f) ∧ Below w.heap.size w w' := by
  go_enter Try.func40, Try.ntmps40
  go_wp2_with fail
  refine (join_any y A n c f w ha hn hb hy).mono ?_
  rintro e w1 ⟨A', c', rfl, o1, b1⟩
  go_wp2_with fail
  go_ret
  exact ⟨A', c', rfl, o1, b1⟩

/-- block p is a rectangle's variable -/
def BoxQ (w : World) (p : Nat) (a b c d : Value) : Prop := w.heap[p]? = some (.cells #[a, b, c, d] 23 (0, 0))
section
variable {w w' : World} {p : Nat} {a b c d : Value}
theorem BoxQ.c0 (h : BoxQ w p a b c d) : w.cell? ⟨p, 0, none⟩ = some a := by unfold BoxQ at h; simp [World.cell?, h]
theorem BoxQ.c1 (h : BoxQ w p a b c d) : w.cell? ⟨p, 1, none⟩ = some b := by unfold BoxQ at h; simp [World.cell?, h]
theorem BoxQ.c2 (h : BoxQ w p a b c d) : w.cell? ⟨p, 2, none⟩ = some c := by unfold BoxQ at h; simp [World.cell?, h]
theorem BoxQ.c3 (h : BoxQ w p a b c d) : w.cell? ⟨p, 3, none⟩ = some d := by unfold BoxQ at h; simp [World.cell?, h]
theorem BoxQ.lt (h : BoxQ w p a b c d) : p < w.heap.size := by
  unfold BoxQ at h
  rcases Nat.lt_or_ge p w.heap.size with hlt | hge
  · exact hlt
  · rw [Array.getElem?_eq_none hge] at h; cases h
theorem BoxQ.below {B : Nat} (h : BoxQ w p a b c d) (hb : Below B w w') (hp : p < B) : BoxQ w' p a b c d := (hb.block p hp).trans h
end

/-- the plane with k of its parts laid -/
def laid0 (W H lw lh : Nat) (G : Nat → Int) : Nat → Int := layF W 0 0 lw lh (cutF W 0 0 lw G) (fun _ => 0)
def laid1 (W H lw lh : Nat) (G : Nat → Int) : Nat → Int := layF W lw 0 (W - lw) lh (cutF W lw 0 (W - lw) G) (laid0 W H lw lh G)
def laid2 (W H lw lh : Nat) (G : Nat → Int) : Nat → Int := layF W 0 lh lw (H - lh) (cutF W 0 lh lw G) (laid1 W H lw lh G)
def laid3 (W H lw lh : Nat) (G : Nat → Int) : Nat → Int := layF W lw lh (W - lw) (H - lh) (cutF W lw lh (W - lw) G) (laid2 W H lw lh G)
def laidK (W H lw lh : Nat) (G : Nat → Int) (k : Nat) : Nat → Int := if k = 0 then laid0 W H lw lh G else if k = 1 then laid1 W H lw lh G else if k = 2 then laid2 W H lw lh G else laid3 W H lw lh G

set_option maxRecDepth 100000 in
theorem djoin_any : ∀ (l : Nat), l ≤ 5 → ∀ (x y W H N : Nat), H * W = N → x ≤ 1048576 → y ≤ 1048576 → W ≤ 4096 → H ≤ 4096 → ∀ (s : Nat), s ≤ l → ∀ (R : Int), R = (l : Int) + 1 - s → ∀ (A : Option Addr) (nb c : Nat) (bs : List (Nat × (Nat → Int))) (f : Nat → Int) (M : Int) (w : World),
    BandsAt w w.heap.size A bs → bs.length = nb → 3 * l + 1 ≤ nb → nb ≤ 1048576 → (∀ i, i < 3 * l + 1 → bs[i]? = (bandsF l x y W H f)[i]?) → Within N M f → 0 ≤ M → (M + 1) * 16 ^ l ≤ 4503599627370496 →
    Calls Try.prog 19 #[rectV x y W H, .int .i64 l, .slice A nb c, .int .i64 R] w fun e w' => ∃ g, e = .returned (.slice (some ⟨g, 0, none⟩) (lowest s x y W H f).1 (lowest s x y W H f).1) ∧ PInt w' g (lowest s x y W H f).1 (lowest s x y W H f).2 ∧ w.heap.size ≤ g ∧ Below w.heap.size w w' := by
  intro l
  induction l with
  | zero =>
    intro _ x y W H N hN hx hy hW hH s hs R hR A nb c bs f M w hA hnb hl hnb2 hpre hM hM0 hM1
    obtain rfl : s = 0 := by omega
    obtain rfl : R = 1 := by rw [hR]; rfl
    have hlo : lowest 0 x y W H f = (N, f) := by unfold lowest; rw [hN]
    rw [hlo]
    have hb0 : bs[0]? = some (N, f) := by rw [hpre 0 (by omega)]; unfold bandsF; rw [hN]; rfl
    obtain ⟨gb, ob, AL, cL, rfl, lL, fL, hcL, iL⟩ := hA.at_ hb0
    simp only [Nat.add_zero] at fL iL hcL
    have hnb3 : ¬ ((nb : Int) < 1) := by omega
    have hnbp : (0 : Int) < nb := by omega
    clear hpre hA hb0 hlo hR
    have hN2 : N ≤ 16777216 := by rw [← hN]; exact Nat.mul_le_mul hH hW
    have FI := Lib.hid (fits_any x y W H 0 (by omega) (by omega) hW hH (by omega))
    have SI := Lib.hid (sides_any x y W H (by omega) (by omega) (by omega) (by omega))
    have PA := Lib.hid (parts_any x y W H (by omega) (by omega) (by omega) (by omega))
    have HA := Lib.hid (halved_any x y W H (by omega) (by omega) (by omega) (by omega))
    have sN : IntKind.i64.wrap ((W : Int) * H) = (N : Int) := by
      rw [show (W : Int) * H = (N : Int) by rw [← hN, Nat.mul_comm]; simp]
      exact IntWalk.i64_in _ (by omega)
    have hmk := fun u => run_make_row' (P := Try.prog) 24 3 (.int .i64 0) 8 Try.underlying24 int_info rfl .i64 .i64 N (by omega) (by omega) u
    have HN := Lib.hid hN
    have hV : rectV x y W H = .agg #[.int .i64 x, .int .i64 y, .int .i64 ((x : Int) + W), .int .i64 ((y : Int) + H)] := rfl
    rw [hV] at FI SI PA HA ⊢
    clear hV hN
    simp only [Int.ofNat_zero] at FI ⊢
    go_enter Try.func19, Try.ntmps19
    go_wp2_with fail
    have r0 : BoxQ (w.alloc (.cells #[.int .i64 x, .int .i64 y, .int .i64 ((x : Int) + W), .int .i64 ((y : Int) + H)] 23)) w.heap.size (.int .i64 x) (.int .i64 y) (.int .i64 ((x : Int) + W)) (.int .i64 ((y : Int) + H)) := heap_alloc_new w _
    have bb := below_alloc (Below.refl w.heap.size w) (.cells #[.int .i64 x, .int .i64 y, .int .i64 ((x : Int) + W), .int .i64 ((y : Int) + H)] 23)
    generalize World.alloc w _ = wa at *
    refine (FI.out wa).mono ?_
    rintro e w2 ⟨rfl, hb2⟩
    have hsa : w.heap.size < wa.heap.size := BoxQ.lt r0
    have r2 := BoxQ.below r0 hb2 hsa
    have hB2 := bb.trans (hb2.mono (Nat.le_of_lt hsa))
    have hs2 := Nat.lt_of_lt_of_le hsa hb2.size
    clear r0 bb hb2
    have c0 := BoxQ.c0 r2
    have c1 := BoxQ.c1 r2
    have c2 := BoxQ.c2 r2
    have c3 := BoxQ.c3 r2
    go_wp2_with fail
    refine (SI.out w2).mono ?_
    rintro e w3 ⟨rfl, hb3⟩
    have r3 := BoxQ.below r2 hb3 hs2
    have hB3 := hB2.trans (hb3.mono (Nat.le_of_lt hs2))
    have hs3 := Nat.lt_of_lt_of_le hs2 hb3.size
    clear r2 hB2 hb3 hs2 c0 c1 c2 c3 SI FI
    have q0 := PInt.made w3 N
    have b0 : Below w3.heap.size w3 (w3.alloc (.cells (madeCells #[.int .i64 0] N) 3)) := below_alloc (Below.refl _ _) _
    have iL3 := (iL.below hB3).alloc hB3.size (.cells (madeCells #[.int .i64 0] N) 3)
    have fL3 : (w3.alloc (.cells (madeCells #[.int .i64 0] N) 3)).cell? ⟨gb, ob, none⟩ = some (.slice AL N cL) := ((b0.cell (p := ⟨gb, ob, none⟩) (Nat.lt_of_lt_of_le lL hB3.size)).trans (hB3.cell (p := ⟨gb, ob, none⟩) lL)).trans fL
    go_wp2_with (first
      | (refine wpList_copyI rfl _ _ 24 rfl Try.underlying24 (by kernel_rfl) _ AL N N N cL rfl rfl w3.heap.size N 0 N _ f q0 (Nat.min_self N).symm (fun _ => rfl) _ iL3 (by omega) w3.heap.size w3 b0 (Nat.le_refl _) ?_; intro w4 p4 b4))
    have p5 := p4.congr (h := f) (fun k hk => by unfold overF; rw [if_pos ⟨by omega, by omega⟩, Nat.sub_zero])
    go_ret
    exact ⟨w3.heap.size, rfl, p5, hB3.size, hB3.trans (b4.mono hB3.size)⟩
  | succ l ih =>
    intro hl5 x y W H N hN hx hy hW hH s hs R hR A nb c bs f M w hA hnb hl hnb2 hpre hM hM0 hM1
    have hM2 : M + 1 ≤ 281474976710656 := by
      have h16 : (16 : Int) ^ (l + 1) = 16 * 16 ^ l := by rw [Int.pow_succ, Int.mul_comm]
      have hp : (1 : Int) ≤ 16 ^ l := Int.pow_pos (by omega)
      have h1 : (M + 1) * 1 ≤ (M + 1) * 16 ^ l := Int.mul_le_mul_of_nonneg_left hp (by omega)
      rw [h16, ← Int.mul_assoc, Int.mul_comm (M + 1) 16, Int.mul_assoc] at hM1
      omega
    have hM3 : (16 * M + 15 + 1) * 16 ^ l ≤ 4503599627370496 := by
      rw [show 16 * M + 15 + 1 = (M + 1) * 16 by omega, Int.mul_assoc, ← Int.pow_succ']
      exact hM1
    have hlw : low W (x % 2) ≤ W := low_le (by omega)
    have hlh : low H (y % 2) ≤ H := low_le (by omega)
    have hbf : bandsF (l + 1) x y W H f = bandsF l (hf x) (hf y) (low W (x % 2)) (low H (y % 2)) (cutF W 0 0 (low W (x % 2)) (planeF x y W H f)) ++ highs W H (low W (x % 2)) (low H (y % 2)) (planeF x y W H f) := rfl
    have m6 := planeF_within (x := x) (y := y) hN hM
    have mL := cut_within (a := 0) (b := 0) (n := low W (x % 2)) (m := low H (y % 2)) hN (by omega) (by omega) m6
    have hpre1 : ∀ i, i < 3 * l + 1 → bs[i]? = (bandsF l (hf x) (hf y) (low W (x % 2)) (low H (y % 2)) (cutF W 0 0 (low W (x % 2)) (planeF x y W H f)))[i]? := fun i hi => by
      rw [hpre i (by omega), hbf, List.getElem?_append_left (by rw [bandsF_len]; exact hi)]
    have hpre2 : ∀ k, k < 3 → bs[3 * l + 1 + k]? = (highs W H (low W (x % 2)) (low H (y % 2)) (planeF x y W H f))[k]? := fun k hk => by
      rw [hpre (3 * l + 1 + k) (by omega), hbf, List.getElem?_append_right (by rw [bandsF_len]; omega), bandsF_len, Nat.add_sub_cancel_left]
    have hr1 : ¬ R < 1 := by omega
    have hr2 : ¬ (l : Int) + 1 + 1 < R := by omega
    have hr3 : ¬ (nb : Int) < 3 * (R - 1) + 1 := by omega
    have hl1 : ¬ ((l : Int) + 1 < 1) := by omega
    have JN : ∀ (s' : Nat) (R' : Int), s' ≤ l → R' = (l : Int) + 1 - s' → ∀ w1, BandsAt w1 w1.heap.size A bs → Calls Try.prog 19 #[rectV (hf x) (hf y) (low W (x % 2)) (low H (y % 2)), .int .i64 l, .slice A nb c, .int .i64 R'] w1 fun e w' => ∃ g, e = .returned (.slice (some ⟨g, 0, none⟩) (lowest s' (hf x) (hf y) (low W (x % 2)) (low H (y % 2)) (cutF W 0 0 (low W (x % 2)) (planeF x y W H f))).1 (lowest s' (hf x) (hf y) (low W (x % 2)) (low H (y % 2)) (cutF W 0 0 (low W (x % 2)) (planeF x y W H f))).1) ∧
        PInt w' g (lowest s' (hf x) (hf y) (low W (x % 2)) (low H (y % 2)) (cutF W 0 0 (low W (x % 2)) (planeF x y W H f))).1 (lowest s' (hf x) (hf y) (low W (x % 2)) (low H (y % 2)) (cutF W 0 0 (low W (x % 2)) (planeF x y W H f))).2 ∧ w1.heap.size ≤ g ∧ Below w1.heap.size w1 w' := fun s' R' hs' hR' w1 hA1 =>
      ih (by omega) (hf x) (hf y) (low W (x % 2)) (low H (y % 2)) (low H (y % 2) * low W (x % 2)) rfl (by unfold hf; omega) (by unfold hf; omega) (by omega) (by omega) s' hs' R' hR' A nb c bs _ (16 * M + 15) w1 hA1 hnb (by omega) hnb2 hpre1 mL (by omega) hM3
    have sl1 : IntKind.i64.wrap (l : Int) = l := IntWalk.i64_in _ (by omega)
    have hN2 : N ≤ 16777216 := by rw [← hN]; exact Nat.mul_le_mul hH hW
    have FI := Lib.hid (fits_any x y W H (l + 1) (by omega) (by omega) hW hH (by omega))
    have SI := Lib.hid (sides_any x y W H (by omega) (by omega) (by omega) (by omega))
    have PA := Lib.hid (parts_any x y W H (by omega) (by omega) (by omega) (by omega))
    have HA := Lib.hid (halved_any x y W H (by omega) (by omega) (by omega) (by omega))
    have sN : IntKind.i64.wrap ((W : Int) * H) = (N : Int) := by
      rw [show (W : Int) * H = (N : Int) by rw [← hN, Nat.mul_comm]; simp]
      exact IntWalk.i64_in _ (by omega)
    have hmk := fun u => run_make_row' (P := Try.prog) 24 3 (.int .i64 0) 8 Try.underlying24 int_info rfl .i64 .i64 N (by omega) (by omega) u
    have HN := Lib.hid hN
    have hV : rectV x y W H = .agg #[.int .i64 x, .int .i64 y, .int .i64 ((x : Int) + W), .int .i64 ((y : Int) + H)] := rfl
    rw [hV] at FI SI PA HA ⊢
    clear hV hN
    simp only [Int.natCast_add, Int.cast_ofNat_Int] at FI ⊢
    clear ih hpre hpre1 hM1 hM3 hbf mL
    rcases Nat.eq_zero_or_pos s with h0 | h0
    · obtain rfl : R = (l : Int) + 1 + 1 := by rw [hR, h0]; omega
      subst h0
      have hlo : lowest 0 x y W H f = (N, f) := by unfold lowest; rw [HN.out]
      rw [hlo]
      have J0 : ∀ w1, BandsAt w1 w1.heap.size A bs → Calls Try.prog 19 #[rectV (hf x) (hf y) (low W (x % 2)) (low H (y % 2)), .int .i64 l, .slice A nb c, .int .i64 ((l : Int) + 1)] w1 fun e w' => ∃ g, e = .returned (.slice (some ⟨g, 0, none⟩) (low H (y % 2) * low W (x % 2)) (low H (y % 2) * low W (x % 2))) ∧ PInt w' g (low H (y % 2) * low W (x % 2)) (cutF W 0 0 (low W (x % 2)) (planeF x y W H f)) ∧ w1.heap.size ≤ g ∧ Below w1.heap.size w1 w' := fun w1 h1 => JN 0 ((l : Int) + 1) (by omega) (by omega) w1 h1
      have J0 := Lib.hid J0
      have HP2 := Lib.hid hpre2
      have hG : ∀ k, k < N → planeF x y W H f k = rowsF W (splitF W (x % 2)) (colF W (splitF H (y % 2)) f) k := fun k hk => rfl
      have mC := colF_within (o := y % 2) HN.out (by omega) hM
      clear JN hR hpre2 hlo hr1 hr2 hr3
      have hr1 : ¬ ((l : Int) + 1 + 1 < 1) := by omega
      have hr3 : ¬ (nb : Int) < 3 * ((l : Int) + 1) + 1 := by omega
      have sr : IntKind.i64.wrap ((l : Int) + 1 + 1 - 1) = (l : Int) + 1 := by rw [show (l : Int) + 1 + 1 - 1 = (l : Int) + 1 by omega]; exact IntWalk.i64_in _ (by omega)
      generalize low W (x % 2) = lw at *
      generalize low H (y % 2) = lh at *
      generalize planeF x y W H f = G at *
      go_enter Try.func19, Try.ntmps19
      go_wp2_with fail
      have r0 : BoxQ (w.alloc (.cells #[.int .i64 x, .int .i64 y, .int .i64 ((x : Int) + W), .int .i64 ((y : Int) + H)] 23)) w.heap.size (.int .i64 x) (.int .i64 y) (.int .i64 ((x : Int) + W)) (.int .i64 ((y : Int) + H)) := heap_alloc_new w _
      have bb := below_alloc (Below.refl w.heap.size w) (.cells #[.int .i64 x, .int .i64 y, .int .i64 ((x : Int) + W), .int .i64 ((y : Int) + H)] 23)
      generalize World.alloc w _ = wa at *
      refine (FI.out wa).mono ?_
      rintro e w2 ⟨rfl, hb2⟩
      have hsa : w.heap.size < wa.heap.size := BoxQ.lt r0
      have r2 := BoxQ.below r0 hb2 hsa
      have hB2 := bb.trans (hb2.mono (Nat.le_of_lt hsa))
      have hs2 := Nat.lt_of_lt_of_le hsa hb2.size
      clear r0 bb hb2
      have c0 := BoxQ.c0 r2
      have c1 := BoxQ.c1 r2
      have c2 := BoxQ.c2 r2
      have c3 := BoxQ.c3 r2
      go_wp2_with fail
      refine (SI.out w2).mono ?_
      rintro e w3 ⟨rfl, hb3⟩
      have r3 := BoxQ.below r2 hb3 hs2
      have hB3 := hB2.trans (hb3.mono (Nat.le_of_lt hs2))
      have hs3 := Nat.lt_of_lt_of_le hs2 hb3.size
      clear r2 hB2 hb3 hs2 c0 c1 c2 c3 SI FI
      have q0 := PInt.made w3 N
      have b0 : Below w3.heap.size w3 (w3.alloc (.cells (madeCells #[.int .i64 0] N) 3)) := below_alloc (Below.refl _ _) _
      have r4 := BoxQ.below r3 b0 hs3
      have hB4 := hB3.trans (b0.mono (Nat.le_of_lt hs3))
      have hs4 : w.heap.size < (w3.alloc (.cells (madeCells #[.int .i64 0] N) 3)).heap.size := Nat.lt_of_lt_of_le hs3 b0.size
      have hg4 := q0.lt
      have Q0 := Lib.hid q0
      have R4 := Lib.hid r4
      have B4 := Lib.hid hB4
      have c0 := BoxQ.c0 r4
      have c1 := BoxQ.c1 r4
      have c2 := BoxQ.c2 r4
      have c3 := BoxQ.c3 r4
      clear q0 r4 hB4
      go_wp2_with fail
      have q0 := Q0.out
      have r4 := R4.out
      have hB4 := B4.out
      clear Q0 R4 B4 hmk r3 b0
      generalize World.alloc w3 _ = w4 at *
      refine (PA.out w4).mono ?_
      rintro e w7 ⟨rfl, b7⟩
      unfold partsV
      have q7 := q0.below b7 hg4
      have r7 := BoxQ.below r4 b7 hs4
      have hB7 := hB4.trans (b7.mono (Nat.le_of_lt hs4))
      have hs7 := Nat.lt_of_lt_of_le hs4 b7.size
      have hg7 := q7.lt
      clear q0 r4 hB4 b7 c0 c1 c2 c3 PA
      go_wp2_with fail
      have h8 : (w7.alloc (.cells #[.int .i64 0, .int .i64 0, .int .i64 (lw : Int), .int .i64 (lh : Int), .int .i64 (lw : Int), .int .i64 0, .int .i64 (W : Int), .int .i64 (lh : Int), .int .i64 0, .int .i64 (lh : Int), .int .i64 (lw : Int), .int .i64 (H : Int), .int .i64 (lw : Int), .int .i64 (lh : Int), .int .i64 (W : Int), .int .i64 (H : Int)] 48)).heap[w7.heap.size]? = some (.cells #[.int .i64 0, .int .i64 0, .int .i64 (lw : Int), .int .i64 (lh : Int), .int .i64 (lw : Int), .int .i64 0, .int .i64 (W : Int), .int .i64 (lh : Int), .int .i64 0, .int .i64 (lh : Int), .int .i64 (lw : Int), .int .i64 (H : Int), .int .i64 (lw : Int), .int .i64 (lh : Int), .int .i64 (W : Int), .int .i64 (H : Int)] 48 (0, 0)) := heap_alloc_new w7 _
      have b8 := below_alloc (Below.refl w7.heap.size w7) (.cells #[.int .i64 0, .int .i64 0, .int .i64 (lw : Int), .int .i64 (lh : Int), .int .i64 (lw : Int), .int .i64 0, .int .i64 (W : Int), .int .i64 (lh : Int), .int .i64 0, .int .i64 (lh : Int), .int .i64 (lw : Int), .int .i64 (H : Int), .int .i64 (lw : Int), .int .i64 (lh : Int), .int .i64 (W : Int), .int .i64 (H : Int)] 48)
      have hs8 : w7.heap.size < (w7.alloc (.cells #[.int .i64 0, .int .i64 0, .int .i64 (lw : Int), .int .i64 (lh : Int), .int .i64 (lw : Int), .int .i64 0, .int .i64 (W : Int), .int .i64 (lh : Int), .int .i64 0, .int .i64 (lh : Int), .int .i64 (lw : Int), .int .i64 (H : Int), .int .i64 (lw : Int), .int .i64 (lh : Int), .int .i64 (W : Int), .int .i64 (H : Int)] 48)).heap.size := by simp
      generalize World.alloc w7 _ = w8 at *
      have d0 : w8.cell? ⟨w7.heap.size, 0, none⟩ = some (.int .i64 0) := by simp [World.cell?, h8]
      have d1 : w8.cell? ⟨w7.heap.size, 1, none⟩ = some (.int .i64 0) := by simp [World.cell?, h8]
      have d2 : w8.cell? ⟨w7.heap.size, 2, none⟩ = some (.int .i64 (lw : Int)) := by simp [World.cell?, h8]
      have d3 : w8.cell? ⟨w7.heap.size, 3, none⟩ = some (.int .i64 (lh : Int)) := by simp [World.cell?, h8]
      have d4 : w8.cell? ⟨w7.heap.size, 4, none⟩ = some (.int .i64 (lw : Int)) := by simp [World.cell?, h8]
      have d5 : w8.cell? ⟨w7.heap.size, 5, none⟩ = some (.int .i64 0) := by simp [World.cell?, h8]
      have d6 : w8.cell? ⟨w7.heap.size, 6, none⟩ = some (.int .i64 (W : Int)) := by simp [World.cell?, h8]
      have d7 : w8.cell? ⟨w7.heap.size, 7, none⟩ = some (.int .i64 (lh : Int)) := by simp [World.cell?, h8]
      have d8 : w8.cell? ⟨w7.heap.size, 8, none⟩ = some (.int .i64 0) := by simp [World.cell?, h8]
      have d9 : w8.cell? ⟨w7.heap.size, 9, none⟩ = some (.int .i64 (lh : Int)) := by simp [World.cell?, h8]
      have d10 : w8.cell? ⟨w7.heap.size, 10, none⟩ = some (.int .i64 (lw : Int)) := by simp [World.cell?, h8]
      have d11 : w8.cell? ⟨w7.heap.size, 11, none⟩ = some (.int .i64 (H : Int)) := by simp [World.cell?, h8]
      have d12 : w8.cell? ⟨w7.heap.size, 12, none⟩ = some (.int .i64 (lw : Int)) := by simp [World.cell?, h8]
      have d13 : w8.cell? ⟨w7.heap.size, 13, none⟩ = some (.int .i64 (lh : Int)) := by simp [World.cell?, h8]
      have d14 : w8.cell? ⟨w7.heap.size, 14, none⟩ = some (.int .i64 (W : Int)) := by simp [World.cell?, h8]
      have d15 : w8.cell? ⟨w7.heap.size, 15, none⟩ = some (.int .i64 (H : Int)) := by simp [World.cell?, h8]
      have q8 := q7.below b8 hg7
      have r8 := BoxQ.below r7 b8 hs7
      have hB8 := hB7.trans (b8.mono (Nat.le_of_lt hs7))
      have hsw8 := Nat.lt_trans hs7 hs8
      clear q7 r7 hB7 b8 h8
      have hpg : w7.heap.size ≠ w3.heap.size := Nat.ne_of_gt hg7
      obtain ⟨w9, hw9⟩ : ∃ w9, w9 = w8.drew := ⟨_, rfl⟩
      have S0 : w8.cell? ⟨w.heap.size, 0, none⟩ = some (.int .i64 x) ∧ w8.cell? ⟨w.heap.size, 1, none⟩ = some (.int .i64 y) ∧ w8.cell? ⟨w.heap.size, 2, none⟩ = some (.int .i64 ((x : Int) + W)) ∧ w8.cell? ⟨w.heap.size, 3, none⟩ = some (.int .i64 ((y : Int) + H)) ∧ w8.cell? ⟨w7.heap.size, 0, none⟩ = some (.int .i64 0) ∧ w8.cell? ⟨w7.heap.size, 1, none⟩ = some (.int .i64 0) ∧ w8.cell? ⟨w7.heap.size, 2, none⟩ = some (.int .i64 (lw : Int)) ∧ w8.cell? ⟨w7.heap.size, 3, none⟩ = some (.int .i64 (lh : Int)) := ⟨BoxQ.c0 r8, BoxQ.c1 r8, BoxQ.c2 r8, BoxQ.c3 r8, d0, d1, d2, d3⟩
      have hS0 : w9.cell? ⟨w.heap.size, 0, none⟩ = some (.int .i64 x) ∧ w9.cell? ⟨w.heap.size, 1, none⟩ = some (.int .i64 y) ∧ w9.cell? ⟨w.heap.size, 2, none⟩ = some (.int .i64 ((x : Int) + W)) ∧ w9.cell? ⟨w.heap.size, 3, none⟩ = some (.int .i64 ((y : Int) + H)) ∧ w9.cell? ⟨w7.heap.size, 0, none⟩ = some (.int .i64 0) ∧ w9.cell? ⟨w7.heap.size, 1, none⟩ = some (.int .i64 0) ∧ w9.cell? ⟨w7.heap.size, 2, none⟩ = some (.int .i64 (lw : Int)) ∧ w9.cell? ⟨w7.heap.size, 3, none⟩ = some (.int .i64 (lh : Int)) := by rw [hw9]; exact S0
      have p9 : PInt w9 w3.heap.size N (fun _ => 0) := by rw [hw9]; exact q8
      have r9 : BoxQ w9 w.heap.size (.int .i64 x) (.int .i64 y) (.int .i64 ((x : Int) + W)) (.int .i64 ((y : Int) + H)) := by rw [hw9]; exact r8
      have hB9 : Below w.heap.size w w9 := by rw [hw9]; exact hB8.drew
      have hs9 : w9.heap.size = w8.heap.size := by rw [hw9]; rfl
      have u1 : w.heap.size < w9.heap.size := by rw [hs9]; exact hsw8
      have u2 : w7.heap.size < w9.heap.size := by rw [hs9]; exact hs8
      have u3 : w3.heap.size < w9.heap.size := p9.lt
      obtain ⟨k0, k1, k2, k3, k4, k5, k6, k7⟩ := hS0
      have A9 := (hA.below hB9).more hB9.size
      have HW9 := Lib.hid hw9
      clear hw9 q8 r8 hB8
      go_region_held3 (fun w' => w'.cell? ⟨w.heap.size, 0, none⟩ = some (.int .i64 x) ∧ w'.cell? ⟨w.heap.size, 1, none⟩ = some (.int .i64 y) ∧ w'.cell? ⟨w.heap.size, 2, none⟩ = some (.int .i64 ((x : Int) + W)) ∧ w'.cell? ⟨w.heap.size, 3, none⟩ = some (.int .i64 ((y : Int) + H)) ∧ w'.cell? ⟨w7.heap.size, 0, none⟩ = some (.int .i64 0) ∧ w'.cell? ⟨w7.heap.size, 1, none⟩ = some (.int .i64 0) ∧ w'.cell? ⟨w7.heap.size, 2, none⟩ = some (.int .i64 (lw : Int)) ∧ w'.cell? ⟨w7.heap.size, 3, none⟩ = some (.int .i64 (lh : Int)))
        (first | exact S3 | exact S2 | exact S1 | exact S0)
        (first
        | (go_simp; first
        | (go_at_call 29; refine (HA.out _).mono ?_; rintro e v1 ⟨rfl, b1⟩; rw [← HW9.out] at b1; have S1 : v1.cell? ⟨w.heap.size, 0, none⟩ = some (.int .i64 x) ∧ v1.cell? ⟨w.heap.size, 1, none⟩ = some (.int .i64 y) ∧ v1.cell? ⟨w.heap.size, 2, none⟩ = some (.int .i64 ((x : Int) + W)) ∧ v1.cell? ⟨w.heap.size, 3, none⟩ = some (.int .i64 ((y : Int) + H)) ∧ v1.cell? ⟨w7.heap.size, 0, none⟩ = some (.int .i64 0) ∧ v1.cell? ⟨w7.heap.size, 1, none⟩ = some (.int .i64 0) ∧ v1.cell? ⟨w7.heap.size, 2, none⟩ = some (.int .i64 (lw : Int)) ∧ v1.cell? ⟨w7.heap.size, 3, none⟩ = some (.int .i64 (lh : Int)) := ⟨(b1.cell (p := ⟨w.heap.size, 0, none⟩) u1).trans k0, (b1.cell (p := ⟨w.heap.size, 1, none⟩) u1).trans k1, (b1.cell (p := ⟨w.heap.size, 2, none⟩) u1).trans k2, (b1.cell (p := ⟨w.heap.size, 3, none⟩) u1).trans k3, (b1.cell (p := ⟨w7.heap.size, 0, none⟩) u2).trans k4, (b1.cell (p := ⟨w7.heap.size, 1, none⟩) u2).trans k5, (b1.cell (p := ⟨w7.heap.size, 2, none⟩) u2).trans k6, (b1.cell (p := ⟨w7.heap.size, 3, none⟩) u2).trans k7⟩; have t1 := Nat.lt_of_lt_of_le u1 b1.size; have t2 := Nat.lt_of_lt_of_le u2 b1.size; have p10 := p9.below b1 p9.lt; have A10 := (A9.below b1).more b1.size; dsimp only)
        | (go_at_call 19; refine (J0.out v1 A10).mono ?_; rintro e v2 ⟨gL, rfl, pL, hgL, b2⟩; obtain ⟨j0, j1, j2, j3, j4, j5, j6, j7⟩ := S1; have S2 : v2.cell? ⟨w.heap.size, 0, none⟩ = some (.int .i64 x) ∧ v2.cell? ⟨w.heap.size, 1, none⟩ = some (.int .i64 y) ∧ v2.cell? ⟨w.heap.size, 2, none⟩ = some (.int .i64 ((x : Int) + W)) ∧ v2.cell? ⟨w.heap.size, 3, none⟩ = some (.int .i64 ((y : Int) + H)) ∧ v2.cell? ⟨w7.heap.size, 0, none⟩ = some (.int .i64 0) ∧ v2.cell? ⟨w7.heap.size, 1, none⟩ = some (.int .i64 0) ∧ v2.cell? ⟨w7.heap.size, 2, none⟩ = some (.int .i64 (lw : Int)) ∧ v2.cell? ⟨w7.heap.size, 3, none⟩ = some (.int .i64 (lh : Int)) := ⟨(b2.cell (p := ⟨w.heap.size, 0, none⟩) t1).trans j0, (b2.cell (p := ⟨w.heap.size, 1, none⟩) t1).trans j1, (b2.cell (p := ⟨w.heap.size, 2, none⟩) t1).trans j2, (b2.cell (p := ⟨w.heap.size, 3, none⟩) t1).trans j3, (b2.cell (p := ⟨w7.heap.size, 0, none⟩) t2).trans j4, (b2.cell (p := ⟨w7.heap.size, 1, none⟩) t2).trans j5, (b2.cell (p := ⟨w7.heap.size, 2, none⟩) t2).trans j6, (b2.cell (p := ⟨w7.heap.size, 3, none⟩) t2).trans j7⟩; have t3 := Nat.lt_of_lt_of_le t1 b2.size; have t4 := Nat.lt_of_lt_of_le t2 b2.size; have p11 := p10.below b2 p10.lt; have b12 := below_trans b1 b2; have b12g := b12.mono (Nat.le_of_lt u3); have hneL : 0 < lh * lw → ∀ ad, some (⟨gL, 0, none⟩ : Addr) = some ad → w3.heap.size ≠ ad.block := fun _ => ne_block (Nat.lt_of_lt_of_le p10.lt hgL); dsimp only)
        | (go_at_call 37; refine (lay_any w3.heap.size N W H (fun _ => 0) 0 0 lw lh 0 0 lw lh rfl rfl (by simp) (by simp) (some ⟨gL, 0, none⟩) (lh * lw) (lh * lw) (cutF W 0 0 lw G) w3.heap.size w9 v2 HN.out p11 b12g (Nat.le_refl _) rfl (pL.ints pL.lt) hneL (Nat.le_refl _) (by omega) (by omega) (by omega) (by omega) (by omega)).mono ?_; rintro e v3 ⟨rfl, p12, b13, z13, far3⟩; obtain ⟨i0, i1, i2, i3, i4, i5, i6, i7⟩ := S2; have S3 : v3.cell? ⟨w.heap.size, 0, none⟩ = some (.int .i64 x) ∧ v3.cell? ⟨w.heap.size, 1, none⟩ = some (.int .i64 y) ∧ v3.cell? ⟨w.heap.size, 2, none⟩ = some (.int .i64 ((x : Int) + W)) ∧ v3.cell? ⟨w.heap.size, 3, none⟩ = some (.int .i64 ((y : Int) + H)) ∧ v3.cell? ⟨w7.heap.size, 0, none⟩ = some (.int .i64 0) ∧ v3.cell? ⟨w7.heap.size, 1, none⟩ = some (.int .i64 0) ∧ v3.cell? ⟨w7.heap.size, 2, none⟩ = some (.int .i64 (lw : Int)) ∧ v3.cell? ⟨w7.heap.size, 3, none⟩ = some (.int .i64 (lh : Int)) := ⟨(b13.cell (p := ⟨w.heap.size, 0, none⟩) hs3).trans k0, (b13.cell (p := ⟨w.heap.size, 1, none⟩) hs3).trans k1, (b13.cell (p := ⟨w.heap.size, 2, none⟩) hs3).trans k2, (b13.cell (p := ⟨w.heap.size, 3, none⟩) hs3).trans k3, (World.cell?_of_block (w := v2) (a := ⟨w7.heap.size, 0, none⟩) (far3 w7.heap.size t4 hpg)).trans i4, (World.cell?_of_block (w := v2) (a := ⟨w7.heap.size, 1, none⟩) (far3 w7.heap.size t4 hpg)).trans i5, (World.cell?_of_block (w := v2) (a := ⟨w7.heap.size, 2, none⟩) (far3 w7.heap.size t4 hpg)).trans i6, (World.cell?_of_block (w := v2) (a := ⟨w7.heap.size, 3, none⟩) (far3 w7.heap.size t4 hpg)).trans i7⟩; dsimp only)
        | fail)
        | fail)
      rename_i heldx
      clear heldx
      have hBv := hB9.trans (b13.mono (Nat.le_of_lt hs3))
      have rv := BoxQ.below r9 b13 hs3
      have E4 : v3.cell? ⟨w7.heap.size, 4, none⟩ = some (.int .i64 (lw : Int)) := ((World.cell?_of_block (w := v2) (a := ⟨w7.heap.size, 4, none⟩) (far3 w7.heap.size t4 hpg)).trans ((b12.cell (p := ⟨w7.heap.size, 4, none⟩) u2))).trans (by rw [HW9.out]; exact d4)
      have E5 : v3.cell? ⟨w7.heap.size, 5, none⟩ = some (.int .i64 0) := ((World.cell?_of_block (w := v2) (a := ⟨w7.heap.size, 5, none⟩) (far3 w7.heap.size t4 hpg)).trans ((b12.cell (p := ⟨w7.heap.size, 5, none⟩) u2))).trans (by rw [HW9.out]; exact d5)
      have E6 : v3.cell? ⟨w7.heap.size, 6, none⟩ = some (.int .i64 (W : Int)) := ((World.cell?_of_block (w := v2) (a := ⟨w7.heap.size, 6, none⟩) (far3 w7.heap.size t4 hpg)).trans ((b12.cell (p := ⟨w7.heap.size, 6, none⟩) u2))).trans (by rw [HW9.out]; exact d6)
      have E7 : v3.cell? ⟨w7.heap.size, 7, none⟩ = some (.int .i64 (lh : Int)) := ((World.cell?_of_block (w := v2) (a := ⟨w7.heap.size, 7, none⟩) (far3 w7.heap.size t4 hpg)).trans ((b12.cell (p := ⟨w7.heap.size, 7, none⟩) u2))).trans (by rw [HW9.out]; exact d7)
      have E8 : v3.cell? ⟨w7.heap.size, 8, none⟩ = some (.int .i64 0) := ((World.cell?_of_block (w := v2) (a := ⟨w7.heap.size, 8, none⟩) (far3 w7.heap.size t4 hpg)).trans ((b12.cell (p := ⟨w7.heap.size, 8, none⟩) u2))).trans (by rw [HW9.out]; exact d8)
      have E9 : v3.cell? ⟨w7.heap.size, 9, none⟩ = some (.int .i64 (lh : Int)) := ((World.cell?_of_block (w := v2) (a := ⟨w7.heap.size, 9, none⟩) (far3 w7.heap.size t4 hpg)).trans ((b12.cell (p := ⟨w7.heap.size, 9, none⟩) u2))).trans (by rw [HW9.out]; exact d9)
      have E10 : v3.cell? ⟨w7.heap.size, 10, none⟩ = some (.int .i64 (lw : Int)) := ((World.cell?_of_block (w := v2) (a := ⟨w7.heap.size, 10, none⟩) (far3 w7.heap.size t4 hpg)).trans ((b12.cell (p := ⟨w7.heap.size, 10, none⟩) u2))).trans (by rw [HW9.out]; exact d10)
      have E11 : v3.cell? ⟨w7.heap.size, 11, none⟩ = some (.int .i64 (H : Int)) := ((World.cell?_of_block (w := v2) (a := ⟨w7.heap.size, 11, none⟩) (far3 w7.heap.size t4 hpg)).trans ((b12.cell (p := ⟨w7.heap.size, 11, none⟩) u2))).trans (by rw [HW9.out]; exact d11)
      have E12 : v3.cell? ⟨w7.heap.size, 12, none⟩ = some (.int .i64 (lw : Int)) := ((World.cell?_of_block (w := v2) (a := ⟨w7.heap.size, 12, none⟩) (far3 w7.heap.size t4 hpg)).trans ((b12.cell (p := ⟨w7.heap.size, 12, none⟩) u2))).trans (by rw [HW9.out]; exact d12)
      have E13 : v3.cell? ⟨w7.heap.size, 13, none⟩ = some (.int .i64 (lh : Int)) := ((World.cell?_of_block (w := v2) (a := ⟨w7.heap.size, 13, none⟩) (far3 w7.heap.size t4 hpg)).trans ((b12.cell (p := ⟨w7.heap.size, 13, none⟩) u2))).trans (by rw [HW9.out]; exact d13)
      have E14 : v3.cell? ⟨w7.heap.size, 14, none⟩ = some (.int .i64 (W : Int)) := ((World.cell?_of_block (w := v2) (a := ⟨w7.heap.size, 14, none⟩) (far3 w7.heap.size t4 hpg)).trans ((b12.cell (p := ⟨w7.heap.size, 14, none⟩) u2))).trans (by rw [HW9.out]; exact d14)
      have E15 : v3.cell? ⟨w7.heap.size, 15, none⟩ = some (.int .i64 (H : Int)) := ((World.cell?_of_block (w := v2) (a := ⟨w7.heap.size, 15, none⟩) (far3 w7.heap.size t4 hpg)).trans ((b12.cell (p := ⟨w7.heap.size, 15, none⟩) u2))).trans (by rw [HW9.out]; exact d15)
      have Av := hA.below hBv
      have hsv : w3.heap.size < v3.heap.size := p12.lt
      have hp7 : w7.heap.size < v3.heap.size := Nat.lt_of_lt_of_le t4 z13
      have p12 : PInt v3 w3.heap.size N (laidK W H lw lh G 0) := p12
      obtain ⟨q, hq⟩ : ∃ q, q = 3 * l + 1 := ⟨_, rfl⟩
      have a1 : IntKind.i64.wrap (3 * ((l : Int) + 1)) = 3 * ((l : Int) + 1) := IntWalk.i64_in _ (by omega)
      have a2 : IntKind.i64.wrap (3 * ((l : Int) + 1) - 2) = (q : Int) := by rw [show 3 * ((l : Int) + 1) - 2 = (q : Int) by omega]; exact IntWalk.i64_in _ (by omega)
      have a3 : IntKind.i64.wrap ((q : Int) + 1) = (q : Int) + 1 := IntWalk.i64_in _ (by omega)
      have a4 : IntKind.i64.wrap ((q : Int) + 2) = (q : Int) + 2 := IntWalk.i64_in _ (by omega)
      have a5 : IntKind.i64.wrap (q : Int) = (q : Int) := IntWalk.i64_in _ (by omega)
      have hqb : q + 3 ≤ nb := by omega
      have hq3 : q ≤ 16 := by omega
      have HQ := Lib.hid hq
      clear hq S0 S3 i0 i1 i2 i3 i4 i5 i6 i7 j0 j1 j2 j3 j4 j5 j6 j7 k0 k1 k2 k3 k4 k5 k6 k7 d0 d1 d2 d3 d4 d5 d6 d7 d8 d9 d10 d11 d12 d13 d14 d15 p9 r9 p10 p11 A9 A10 b1 b2 b12 b12g pL hneL far3 HA J0
      go_wp2_with fail
      go_loopw [78] (fun i wr => ∃ k : Nat, k ≤ 3 ∧ i = .int .i64 k ∧ PInt wr w3.heap.size N (laidK W H lw lh G k) ∧ Below w3.heap.size v3 wr ∧ v3.heap.size ≤ wr.heap.size ∧ ∀ j, j < v3.heap.size → j ≠ w3.heap.size → wr.heap[j]? = v3.heap[j]?) (fun i _ => 3 - (intOf i).toNat)
      case atStart => exact ⟨0, by omega, rfl, p12, Below.refl _ _, Nat.le_refl _, fun _ _ _ => rfl⟩
      case round =>
        obtain ⟨k, hk, rfl, pl, hbel, hsz, far⟩ := hrel
        have hAr := Av.below (hbel.mono (Nat.le_of_lt hs3))
        have hAsz : w.heap.size ≤ wr.drew.heap.size := Nat.le_of_lt (Nat.lt_of_lt_of_le (Nat.lt_trans hs3 hsv) hsz)
        have e4 : wr.cell? ⟨w7.heap.size, 4, none⟩ = some (.int .i64 (lw : Int)) := (World.cell?_of_block (w := v3) (a := ⟨w7.heap.size, 4, none⟩) (far w7.heap.size hp7 hpg)).trans E4
        have e5 : wr.cell? ⟨w7.heap.size, 5, none⟩ = some (.int .i64 0) := (World.cell?_of_block (w := v3) (a := ⟨w7.heap.size, 5, none⟩) (far w7.heap.size hp7 hpg)).trans E5
        have e6 : wr.cell? ⟨w7.heap.size, 6, none⟩ = some (.int .i64 (W : Int)) := (World.cell?_of_block (w := v3) (a := ⟨w7.heap.size, 6, none⟩) (far w7.heap.size hp7 hpg)).trans E6
        have e7 : wr.cell? ⟨w7.heap.size, 7, none⟩ = some (.int .i64 (lh : Int)) := (World.cell?_of_block (w := v3) (a := ⟨w7.heap.size, 7, none⟩) (far w7.heap.size hp7 hpg)).trans E7
        have e8 : wr.cell? ⟨w7.heap.size, 8, none⟩ = some (.int .i64 0) := (World.cell?_of_block (w := v3) (a := ⟨w7.heap.size, 8, none⟩) (far w7.heap.size hp7 hpg)).trans E8
        have e9 : wr.cell? ⟨w7.heap.size, 9, none⟩ = some (.int .i64 (lh : Int)) := (World.cell?_of_block (w := v3) (a := ⟨w7.heap.size, 9, none⟩) (far w7.heap.size hp7 hpg)).trans E9
        have e10 : wr.cell? ⟨w7.heap.size, 10, none⟩ = some (.int .i64 (lw : Int)) := (World.cell?_of_block (w := v3) (a := ⟨w7.heap.size, 10, none⟩) (far w7.heap.size hp7 hpg)).trans E10
        have e11 : wr.cell? ⟨w7.heap.size, 11, none⟩ = some (.int .i64 (H : Int)) := (World.cell?_of_block (w := v3) (a := ⟨w7.heap.size, 11, none⟩) (far w7.heap.size hp7 hpg)).trans E11
        have e12 : wr.cell? ⟨w7.heap.size, 12, none⟩ = some (.int .i64 (lw : Int)) := (World.cell?_of_block (w := v3) (a := ⟨w7.heap.size, 12, none⟩) (far w7.heap.size hp7 hpg)).trans E12
        have e13 : wr.cell? ⟨w7.heap.size, 13, none⟩ = some (.int .i64 (lh : Int)) := (World.cell?_of_block (w := v3) (a := ⟨w7.heap.size, 13, none⟩) (far w7.heap.size hp7 hpg)).trans E13
        have e14 : wr.cell? ⟨w7.heap.size, 14, none⟩ = some (.int .i64 (W : Int)) := (World.cell?_of_block (w := v3) (a := ⟨w7.heap.size, 14, none⟩) (far w7.heap.size hp7 hpg)).trans E14
        have e15 : wr.cell? ⟨w7.heap.size, 15, none⟩ = some (.int .i64 (H : Int)) := (World.cell?_of_block (w := v3) (a := ⟨w7.heap.size, 15, none⟩) (far w7.heap.size hp7 hpg)).trans E15
        obtain rfl | rfl | rfl | rfl : k = 0 ∨ k = 1 ∨ k = 2 ∨ k = 3 := by omega
        · skip
          obtain ⟨gb, ob, AL, cL, rfl, lL, fL, hcL, iL⟩ := (hAr).at_ (HP2.out 0 (by omega))
          simp only [highs, Nat.reduceAdd, Nat.add_assoc] at fL
          have fL : wr.cell? ⟨gb, ob + (q), none⟩ = some (.slice AL (lh * (W - lw)) cL) := by rw [HQ.out]; exact fL
          have iLd : IntsAt wr.drew wr.drew.heap.size AL (lh * (W - lw)) (cutF W lw 0 (W - lw) G) := IntsAt.more iL hAsz
          have hneL : 0 < lh * (W - lw) → ∀ ad, AL = some ad → w3.heap.size ≠ ad.block := fun h0 ad had => by
            obtain ⟨bx, ox, e, hlx, _⟩ := iL h0
            rw [e] at had
            injection had with had
            subst had
            exact Nat.ne_of_gt (Nat.lt_trans hlx hs3)
          have pld : PInt wr.drew w3.heap.size N (laidK W H lw lh G 0) := pl
          have hbd : Below w3.heap.size v3 wr.drew := hbel.drew
          have LA := lay_any w3.heap.size N W H (laidK W H lw lh G 0) lw 0 (W - lw) lh _ _ _ _ rfl rfl (show (W : Int) = _ by first | simp | omega) (show (lh : Int) = _ by first | simp | omega) AL cL (lh * (W - lw)) (cutF W lw 0 (W - lw) G) w3.heap.size v3 wr.drew HN.out pld hbd (Nat.le_refl _) rfl iLd hneL hcL (by omega) (by omega) (by omega) (by omega) (by omega)
          have LA := Lib.hid LA
          have hn1 : (q : Int) < nb := by omega
          have hn2 : ((q : Int)).toNat = q := by omega
          have hn3 : (0 : Int) ≤ (q : Int) := by omega
          have wk : IntKind.i64.wrap 1 = 1 := IntWalk.i64_in _ (by omega)
          clear hAr iL iLd hneL pld hbd
          go_wp2_with fail
          refine wp_region_still_tail 14 (by kernel_rfl) (by kernel_rfl) ?_
          simp only [List.take_succ_cons, List.take_zero, List.drop_succ_cons, List.drop_zero]
          change wpStill _ _ wr.drew (fun a' => wpList _ _ _ _ a' wr.drew) _ _
          repeat still_step
          refine wpStill_nil ?_
          go_wp2_with fail
          refine LA.out.mono ?_
          rintro e v4 ⟨rfl, p4, b4, z4, f4⟩
          have far5 : ∀ j, j < v3.heap.size → j ≠ w3.heap.size → v4.heap[j]? = v3.heap[j]? := fun j hj hjg => (f4 j (Nat.lt_of_lt_of_le hj hsz) hjg).trans (far j hj hjg)
          have sz5 : v3.heap.size ≤ v4.heap.size := Nat.le_trans hsz z4
          clear far f4 LA
          go_wp2_with fail
          go_roundw
          case rel => exact ⟨1, by omega, by go_num, p4, b4, sz5, far5⟩
          case measure => simp [intOf]
        · skip
          obtain ⟨gb, ob, AL, cL, rfl, lL, fL, hcL, iL⟩ := (hAr).at_ (HP2.out 1 (by omega))
          simp only [highs, Nat.reduceAdd, Nat.add_assoc] at fL
          have fL : wr.cell? ⟨gb, ob + (q+ 1), none⟩ = some (.slice AL ((H - lh) * lw) cL) := by rw [HQ.out]; exact fL
          have iLd : IntsAt wr.drew wr.drew.heap.size AL ((H - lh) * lw) (cutF W 0 lh lw G) := IntsAt.more iL hAsz
          have hneL : 0 < (H - lh) * lw → ∀ ad, AL = some ad → w3.heap.size ≠ ad.block := fun h0 ad had => by
            obtain ⟨bx, ox, e, hlx, _⟩ := iL h0
            rw [e] at had
            injection had with had
            subst had
            exact Nat.ne_of_gt (Nat.lt_trans hlx hs3)
          have pld : PInt wr.drew w3.heap.size N (laidK W H lw lh G 1) := pl
          have hbd : Below w3.heap.size v3 wr.drew := hbel.drew
          have LA := lay_any w3.heap.size N W H (laidK W H lw lh G 1) 0 lh lw (H - lh) _ _ _ _ rfl rfl (show (lw : Int) = _ by first | simp | omega) (show (H : Int) = _ by first | simp | omega) AL cL ((H - lh) * lw) (cutF W 0 lh lw G) w3.heap.size v3 wr.drew HN.out pld hbd (Nat.le_refl _) rfl iLd hneL hcL (by omega) (by omega) (by omega) (by omega) (by omega)
          have LA := Lib.hid LA
          have hn1 : (q : Int) + 1 < nb := by omega
          have hn2 : ((q : Int) + 1).toNat = q + 1 := by omega
          have hn3 : (0 : Int) ≤ (q : Int) + 1 := by omega
          have wk : IntKind.i64.wrap 2 = 2 := IntWalk.i64_in _ (by omega)
          clear hAr iL iLd hneL pld hbd
          go_wp2_with fail
          refine wp_region_still_tail 14 (by kernel_rfl) (by kernel_rfl) ?_
          simp only [List.take_succ_cons, List.take_zero, List.drop_succ_cons, List.drop_zero]
          change wpStill _ _ wr.drew (fun a' => wpList _ _ _ _ a' wr.drew) _ _
          repeat still_step
          refine wpStill_nil ?_
          go_wp2_with fail
          refine LA.out.mono ?_
          rintro e v4 ⟨rfl, p4, b4, z4, f4⟩
          have far5 : ∀ j, j < v3.heap.size → j ≠ w3.heap.size → v4.heap[j]? = v3.heap[j]? := fun j hj hjg => (f4 j (Nat.lt_of_lt_of_le hj hsz) hjg).trans (far j hj hjg)
          have sz5 : v3.heap.size ≤ v4.heap.size := Nat.le_trans hsz z4
          clear far f4 LA
          go_wp2_with fail
          go_roundw
          case rel => exact ⟨2, by omega, by go_num, p4, b4, sz5, far5⟩
          case measure => simp [intOf]
        · skip
          obtain ⟨gb, ob, AL, cL, rfl, lL, fL, hcL, iL⟩ := (hAr).at_ (HP2.out 2 (by omega))
          simp only [highs, Nat.reduceAdd, Nat.add_assoc] at fL
          have fL : wr.cell? ⟨gb, ob + (q+ 2), none⟩ = some (.slice AL ((H - lh) * (W - lw)) cL) := by rw [HQ.out]; exact fL
          have iLd : IntsAt wr.drew wr.drew.heap.size AL ((H - lh) * (W - lw)) (cutF W lw lh (W - lw) G) := IntsAt.more iL hAsz
          have hneL : 0 < (H - lh) * (W - lw) → ∀ ad, AL = some ad → w3.heap.size ≠ ad.block := fun h0 ad had => by
            obtain ⟨bx, ox, e, hlx, _⟩ := iL h0
            rw [e] at had
            injection had with had
            subst had
            exact Nat.ne_of_gt (Nat.lt_trans hlx hs3)
          have pld : PInt wr.drew w3.heap.size N (laidK W H lw lh G 2) := pl
          have hbd : Below w3.heap.size v3 wr.drew := hbel.drew
          have LA := lay_any w3.heap.size N W H (laidK W H lw lh G 2) lw lh (W - lw) (H - lh) _ _ _ _ rfl rfl (show (W : Int) = _ by first | simp | omega) (show (H : Int) = _ by first | simp | omega) AL cL ((H - lh) * (W - lw)) (cutF W lw lh (W - lw) G) w3.heap.size v3 wr.drew HN.out pld hbd (Nat.le_refl _) rfl iLd hneL hcL (by omega) (by omega) (by omega) (by omega) (by omega)
          have LA := Lib.hid LA
          have hn1 : (q : Int) + 2 < nb := by omega
          have hn2 : ((q : Int) + 2).toNat = q + 2 := by omega
          have hn3 : (0 : Int) ≤ (q : Int) + 2 := by omega
          have wk : IntKind.i64.wrap 3 = 3 := IntWalk.i64_in _ (by omega)
          clear hAr iL iLd hneL pld hbd
          go_wp2_with fail
          refine wp_region_still_tail 14 (by kernel_rfl) (by kernel_rfl) ?_
          simp only [List.take_succ_cons, List.take_zero, List.drop_succ_cons, List.drop_zero]
          change wpStill _ _ wr.drew (fun a' => wpList _ _ _ _ a' wr.drew) _ _
          repeat still_step
          refine wpStill_nil ?_
          go_wp2_with fail
          refine LA.out.mono ?_
          rintro e v4 ⟨rfl, p4, b4, z4, f4⟩
          have far5 : ∀ j, j < v3.heap.size → j ≠ w3.heap.size → v4.heap[j]? = v3.heap[j]? := fun j hj hjg => (f4 j (Nat.lt_of_lt_of_le hj hsz) hjg).trans (far j hj hjg)
          have sz5 : v3.heap.size ≤ v4.heap.size := Nat.le_trans hsz z4
          clear far f4 LA
          go_wp2_with fail
          go_roundw
          case rel => exact ⟨3, by omega, by go_num, p4, b4, sz5, far5⟩
          case measure => simp [intOf]
        · skip
          have p13 := pl.congr (h := G) (fun k hk => laid4 HN.out hlw hlh k hk)
          have hBr := hBv.trans (hbel.mono (Nat.le_of_lt hs3))
          have rr := BoxQ.below rv hbel hs3
          clear pl far Av hAr rv hbel
          have F1 : ∀ (args : Array Value) (w : World), (callFunc 38 args).run Try.prog w = .ok (.enter 38 args) w := fun _ _ => by kernel_rfl
          have RW := Lib.hid (rows_any 38 #[.pointer (some ⟨w.heap.size, 0, none⟩)] F1 w3.heap.size N W H HN.out (by omega) (by omega) (by omega) (joinF W (x % 2)) (16 * M + 15) G w3.heap.size wr wr p13 (Below.refl _ _) (Nat.le_refl _) m6 (fun A c h w1 hb1 hi hw => Lib.hid (djoin1_any w.heap.size x (by omega) A W c h w1 ((hb1.cell (p := ⟨w.heap.size, 0, none⟩) hs3).trans (BoxQ.c0 rr)) hi (by omega) (fun k hk => by have := hw k hk; omega))))
          clear F1
          have F1 := Lib.hid (show ∀ (args : Array Value) (w : World), (callFunc 38 args).run Try.prog w = .ok (.enter 38 args) w from fun _ _ => by kernel_rfl)
          go_wp2_with fail
          refine RW.out.mono ?_
          rintro e v4 ⟨rfl, p14, b14⟩
          clear RW F1
          have p15 := p14.congr (h := colF W (splitF H (y % 2)) f) (fun k hk => rows_back HN.out (by omega) hG k hk)
          have r15 := BoxQ.below rr b14 hs3
          have F2 : ∀ (args : Array Value) (w : World), (callFunc 40 args).run Try.prog w = .ok (.enter 40 args) w := fun _ _ => by kernel_rfl
          have CW := Lib.hid (columns_any 40 #[.pointer (some ⟨w.heap.size, 0, none⟩)] F2 w3.heap.size N W H HN.out (by omega) (by omega) (by omega) (joinF H (y % 2)) (4 * M + 3) _ w3.heap.size v4 v4 p15 (Below.refl _ _) (Nat.le_refl _) mC (fun A c h w1 hb1 hi hw => Lib.hid (djoin2_any w.heap.size y (by omega) A H c h w1 ((hb1.cell (p := ⟨w.heap.size, 1, none⟩) hs3).trans (BoxQ.c1 r15)) hi (by omega) (fun k hk => by have := hw k hk; omega))))
          clear F2
          go_wp2_with fail
          refine CW.out.mono ?_
          rintro e v5 ⟨rfl, p16, b16⟩
          have p17 := p16.congr (h := f) (fun k hk => cols_back HN.out (by omega) (fun k hk => rfl) k hk)
          have hB17 := hBr.trans ((b14.trans b16).mono (Nat.le_of_lt hs3))
          clear CW p14 p15 p16 b14 b16 r15 rr p13 hBr
          go_wp2_with fail
          go_ret
          exact ⟨w3.heap.size, rfl, p17, Nat.le_of_lt hs3, hB17⟩
    · obtain ⟨s', rfl⟩ : ∃ s', s = s' + 1 := ⟨s - 1, by omega⟩
      have JS := Lib.hid (JN s' R (by omega) (by rw [hR]; omega))
      have hlow : lowest (s' + 1) x y W H f = lowest s' (hf x) (hf y) (low W (x % 2)) (low H (y % 2)) (cutF W 0 0 (low W (x % 2)) (planeF x y W H f)) := rfl
      rw [hlow]
      have hle : R ≤ (l : Int) + 1 := by omega
      clear JN hR hpre2 hlow
      go_enter Try.func19, Try.ntmps19
      go_wp2_with fail
      have r0 : BoxQ (w.alloc (.cells #[.int .i64 x, .int .i64 y, .int .i64 ((x : Int) + W), .int .i64 ((y : Int) + H)] 23)) w.heap.size (.int .i64 x) (.int .i64 y) (.int .i64 ((x : Int) + W)) (.int .i64 ((y : Int) + H)) := heap_alloc_new w _
      have bb := below_alloc (Below.refl w.heap.size w) (.cells #[.int .i64 x, .int .i64 y, .int .i64 ((x : Int) + W), .int .i64 ((y : Int) + H)] 23)
      generalize World.alloc w _ = wa at *
      refine (FI.out wa).mono ?_
      rintro e w2 ⟨rfl, hb2⟩
      have hsa : w.heap.size < wa.heap.size := BoxQ.lt r0
      have r2 := BoxQ.below r0 hb2 hsa
      have hB2 := bb.trans (hb2.mono (Nat.le_of_lt hsa))
      have hs2 := Nat.lt_of_lt_of_le hsa hb2.size
      clear r0 bb hb2
      have c0 := BoxQ.c0 r2
      have c1 := BoxQ.c1 r2
      have c2 := BoxQ.c2 r2
      have c3 := BoxQ.c3 r2
      go_wp2_with fail
      refine (HA.out w2).mono ?_
      rintro e w3 ⟨rfl, hb3⟩
      have hB3 := hB2.trans (hb3.mono (Nat.le_of_lt hs2))
      have A3 := (hA.below hB3).more hB3.size
      clear hb3 hB2 r2 c0 c1 c2 c3 FI SI PA HA
      go_wp2_with fail
      refine (JS.out w3 A3).mono ?_
      rintro e w4 ⟨g, rfl, p4, hg, b4⟩
      go_wp2_with fail
      go_ret
      exact ⟨g, rfl, p4, Nat.le_trans hB3.size hg, below_trans hB3 b4⟩
end Go.Proofs.Ytmcdhdofgaoadaa
