/- WALK of waveletlaw14.LayersAll: every call answers true; memory below is kept. -/
import Derived.Test.YtknbppolecahbaaRSegs
import Derived.Test.YtknbppolecahbaaInts14
namespace Go.Proofs.Ytknbppolecahbaa
open Go.RowKit
set_option maxHeartbeats 8000000
set_option linter.unusedVariables false
set_option linter.unusedSimpArgs false

theorem snoc_lt {k : Nat} {g : Nat → Int} {x : Int} : ∀ j, j < k → g j = (if j < k then g j else x) := fun j hj => (if_pos hj).symm

theorem layersAll_walk (T0 n0 l s0 fr0 to0 : Int) (A : Option Addr) (m c : Nat) (f : Nat → Int) (w : World) (ha : IntsAt w w.heap.size A m f) (hm : m ≤ 9223372036854775807) (hl : -9223372036854775808 ≤ l ∧ l ≤ 9223372036854775807) :
    Calls Try.prog 6 #[.int .i64 T0, .int .i64 n0, .int .i64 l, .int .i64 s0, .int .i64 fr0, .int .i64 to0, .slice A m c] w fun e w' => e = .returned (.bool true) ∧ Below w.heap.size w w' := by
  obtain ⟨mm, hm1, hm2, hm3⟩ : ∃ mm, mm ≤ m ∧ mm ≤ 60 ∧ (m ≤ mm ∨ 60 ≤ mm) := ⟨min m 60, by omega, by omega, by omega⟩
  go_enter Try.func6, Try.ntmps6
  go_wp2_with fail
  refine (known14 _).mono ?_
  rintro e w' ⟨rfl, rfl⟩
  go_wp2_with fail
  refine (within14e _ _ (by omega) (by omega) _).mono ?_
  rintro e w' ⟨T, hT0, hT1, rfl, rfl⟩
  go_wp2_with fail
  refine (within14e _ _ (by omega) (by omega) _).mono ?_
  rintro e w' ⟨V, hV0, hV1, rfl, rfl⟩
  go_wp2_with fail
  refine (within14e _ _ (by omega) (by omega) _).mono ?_
  rintro e w' ⟨s, hs0, hs1, rfl, rfl⟩
  go_wp2_with fail
  go_loopw [15, 16, 17] (fun ends at_ i wr => ∃ (k : Nat) (g : Nat → Int) (U : Int) (X : Option Addr) (cx : Nat), k ≤ mm ∧ ends = .slice X k cx ∧ at_ = .int .i64 U ∧ i = .int .i64 k ∧ 0 ≤ U ∧ U ≤ 50 * (k : Int) ∧ (∀ j, j < k → 0 ≤ g j ∧ g j ≤ 3000) ∧ OwnI wr w.heap.size 3 (.slice X k cx) k g ∧ Below w.heap.size w wr) (fun _ _ i _ => mm - (intOf i).toNat)
  case atStart => exact ⟨0, fun _ => 0, 0, none, 0, Nat.zero_le _, rfl, rfl, rfl, by omega, by omega, fun j hj => by omega, OwnI.nil_ _ _ _ _, Below.refl _ _⟩
  case round =>
    obtain ⟨k, g, U, X, cx, hk, rfl, rfl, rfl, hU0, hU1, hg, hown, hbel⟩ := hrel
    by_cases hlt : k < mm
    · obtain ⟨b, off, rfl, hb, hc⟩ := (ha.below hbel).at_ (show k < m by omega)
      have hsz := hbel.size
      go_wp2_with fail
      refine (within14e _ _ (by omega) (by omega) _).mono ?_
      rintro e w' ⟨v, hv0, hv1, rfl, rfl⟩
      have s1 : IntKind.i64.wrap (U + v) = U + v := IntWalk.i64_in _ (by omega)
      have hown := hown.congr (g := fun j => if j < k then g j else U + v) snoc_lt
      go_wp2_with (first
        | (at_builtin; refine wpList_app1 wr ((Below.refl _ _).alloc (Nat.le_refl _) _) rfl _ _ 26 rfl 3 int_info Try.underlying26 w.heap.size X k cx (fun j => if j < k then g j else U + v) rfl hown wr.heap.size rfl (by simp) (by omega) (by omega) ?_; intro gg cap w1 hown1 hst hlt1))
      have hb1 : Below w.heap.size w w1 := hbel.trans hst.below
      clear hbel hst
      go_wp2
      go_roundw
      case rel => exact ⟨k + 1, _, U + v, _, cap, by omega, rfl, rfl, by go_num, by omega, by omega, fun j hj => by
        by_cases h : j < k
        · simp only [if_pos h]; exact hg j h
        · simp only [if_neg h]; omega, hown1, hb1⟩
      case measure => simp [intOf]; omega
    · obtain rfl : k = mm := by omega
      have hI := hown.ints
      clear hown
      obtain ⟨t, ht⟩ : ∃ t, (bits .and .i64 s 4 != 0) = t := ⟨_, rfl⟩
      obtain ⟨b, hb⟩ : ∃ b, (bits .and .i64 s 1 != 0) = b := ⟨_, rfl⟩
      have C1 := Lib.hid (fun (k : Int) (w : World) => ends_any s k t b ht hb w)
      have C2 := Lib.hid (fun (k : Int) (hk : k ≤ 9223372036854775807) (w : World) => rends_any s k hk t b ht hb w)
      have S1 := Lib.hid (segments_any s t b ht hb)
      have S2 := Lib.hid (rsegments_any s t b ht hb)
      clear ht hb
      rcases hm3 with hm3 | hm3
      · have hkm : ¬ ((k : Int) < (m : Int)) := by omega
        go_wp2_with fail
        refine (within14e _ _ (by omega) (by omega) _).mono ?_
        rintro e w' ⟨tu, htu0, htu1, rfl, rfl⟩
        obtain ⟨tu, rfl⟩ := Int.eq_ofNat_of_zero_le htu0
        go_wp2_with fail
        refine (within14e _ _ (by omega) (by omega) _).mono ?_
        rintro e w' ⟨fr, hfr0, hfr1, rfl, rfl⟩
        obtain ⟨fr, rfl⟩ := Int.eq_ofNat_of_zero_le hfr0
        go_wp2_with fail
        refine (S1.out fr tu X k cx g wr hI (by omega) (by omega) (by omega) (fun j hj => by have := hg j hj; omega)).mono ?_
        rintro e w2 ⟨A1, A2, d1, d2, L, hL, rfl, i1, i2, hb2⟩
        have HL := Lib.hid hL
        clear hL
        go_wp2_with fail
        refine (S2.out fr tu X k cx g w2 ((hI.below hb2).more hb2.size) (by omega) (by omega) (by omega) (fun j hj => by have := hg j hj; omega)).mono ?_
        rintro e w3 ⟨A3, A4, d3, d4, L2, hL2, rfl, i3, i4, hb3⟩
        obtain rfl : L2 = L := hL2.trans HL.out.symm
        clear hL2
        have i1 := i1.below hb3
        have i2 := i2.below hb3
        have hB3 := (below_trans (below_trans hbel hb2) hb3)
        have hLn : L2.length ≤ 4611686018427387904 := by rw [HL.out]; have := piecesP_len (fun k => endsB t b k) tu fr (tu - fr); omega
        go_wp2_with fail
        refine (within14e _ _ (by omega) (by omega) _).mono ?_
        rintro e w' ⟨kk, hkk0, hkk1, rfl, rfl⟩
        go_wp2_with (first
          | (go_at_call 11; refine (passes_any _ _ _ (by omega) (by omega) (by omega) (by omega) _).mono ?_; rintro e w' ⟨rfl, rfl⟩)
          | (go_at_call 15; refine (rpasses_any _ _ _ (by omega) (by omega) (by omega) (by omega) _).mono ?_; rintro e w' ⟨rfl, hq⟩; have hq2 := hq.symm; subst hq2)
          | (go_at_call 12; refine (C1.out _ _).mono ?_; rintro e w' ⟨rfl, rfl⟩)
          | (go_at_call 16; refine (C2.out _ (by omega) _).mono ?_; rintro e w' ⟨rfl, hq⟩; have hq2 := hq.symm; subst hq2))
        refine (ints14 A1 A3 _ _ _ _ w3 _ _ i1 i3 hLn).mono ?_
        rintro e w' ⟨rfl, q1, rfl⟩
        go_wp2_with fail
        refine (ints14 A2 A4 _ _ _ _ (w3.drewN q1) _ _ i2 i4 hLn).mono ?_
        rintro e w' ⟨rfl, q2, rfl⟩
        go_wp2_with fail
        go_ret
        exact ⟨rfl, below_drewN hB3 _⟩
      · by_cases h6 : k < m
        · have hkm : ((k : Int) < (m : Int)) := by omega
          have hkm2 : ¬ ((k : Int) < 60) := by omega
          go_wp2_with fail
          refine (within14e _ _ (by omega) (by omega) _).mono ?_
          rintro e w' ⟨tu, htu0, htu1, rfl, rfl⟩
          obtain ⟨tu, rfl⟩ := Int.eq_ofNat_of_zero_le htu0
          go_wp2_with fail
          refine (within14e _ _ (by omega) (by omega) _).mono ?_
          rintro e w' ⟨fr, hfr0, hfr1, rfl, rfl⟩
          obtain ⟨fr, rfl⟩ := Int.eq_ofNat_of_zero_le hfr0
          go_wp2_with fail
          refine (S1.out fr tu X k cx g wr hI (by omega) (by omega) (by omega) (fun j hj => by have := hg j hj; omega)).mono ?_
          rintro e w2 ⟨A1, A2, d1, d2, L, hL, rfl, i1, i2, hb2⟩
          have HL := Lib.hid hL
          clear hL
          go_wp2_with fail
          refine (S2.out fr tu X k cx g w2 ((hI.below hb2).more hb2.size) (by omega) (by omega) (by omega) (fun j hj => by have := hg j hj; omega)).mono ?_
          rintro e w3 ⟨A3, A4, d3, d4, L2, hL2, rfl, i3, i4, hb3⟩
          obtain rfl : L2 = L := hL2.trans HL.out.symm
          clear hL2
          have i1 := i1.below hb3
          have i2 := i2.below hb3
          have hB3 := (below_trans (below_trans hbel hb2) hb3)
          have hLn : L2.length ≤ 4611686018427387904 := by rw [HL.out]; have := piecesP_len (fun k => endsB t b k) tu fr (tu - fr); omega
          go_wp2_with fail
          refine (within14e _ _ (by omega) (by omega) _).mono ?_
          rintro e w' ⟨kk, hkk0, hkk1, rfl, rfl⟩
          go_wp2_with (first
            | (go_at_call 11; refine (passes_any _ _ _ (by omega) (by omega) (by omega) (by omega) _).mono ?_; rintro e w' ⟨rfl, rfl⟩)
            | (go_at_call 15; refine (rpasses_any _ _ _ (by omega) (by omega) (by omega) (by omega) _).mono ?_; rintro e w' ⟨rfl, hq⟩; have hq2 := hq.symm; subst hq2)
            | (go_at_call 12; refine (C1.out _ _).mono ?_; rintro e w' ⟨rfl, rfl⟩)
            | (go_at_call 16; refine (C2.out _ (by omega) _).mono ?_; rintro e w' ⟨rfl, hq⟩; have hq2 := hq.symm; subst hq2))
          refine (ints14 A1 A3 _ _ _ _ w3 _ _ i1 i3 hLn).mono ?_
          rintro e w' ⟨rfl, q1, rfl⟩
          go_wp2_with fail
          refine (ints14 A2 A4 _ _ _ _ (w3.drewN q1) _ _ i2 i4 hLn).mono ?_
          rintro e w' ⟨rfl, q2, rfl⟩
          go_wp2_with fail
          go_ret
          exact ⟨rfl, below_drewN hB3 _⟩
        · have hkm : ¬ ((k : Int) < (m : Int)) := by omega
          go_wp2_with fail
          refine (within14e _ _ (by omega) (by omega) _).mono ?_
          rintro e w' ⟨tu, htu0, htu1, rfl, rfl⟩
          obtain ⟨tu, rfl⟩ := Int.eq_ofNat_of_zero_le htu0
          go_wp2_with fail
          refine (within14e _ _ (by omega) (by omega) _).mono ?_
          rintro e w' ⟨fr, hfr0, hfr1, rfl, rfl⟩
          obtain ⟨fr, rfl⟩ := Int.eq_ofNat_of_zero_le hfr0
          go_wp2_with fail
          refine (S1.out fr tu X k cx g wr hI (by omega) (by omega) (by omega) (fun j hj => by have := hg j hj; omega)).mono ?_
          rintro e w2 ⟨A1, A2, d1, d2, L, hL, rfl, i1, i2, hb2⟩
          have HL := Lib.hid hL
          clear hL
          go_wp2_with fail
          refine (S2.out fr tu X k cx g w2 ((hI.below hb2).more hb2.size) (by omega) (by omega) (by omega) (fun j hj => by have := hg j hj; omega)).mono ?_
          rintro e w3 ⟨A3, A4, d3, d4, L2, hL2, rfl, i3, i4, hb3⟩
          obtain rfl : L2 = L := hL2.trans HL.out.symm
          clear hL2
          have i1 := i1.below hb3
          have i2 := i2.below hb3
          have hB3 := (below_trans (below_trans hbel hb2) hb3)
          have hLn : L2.length ≤ 4611686018427387904 := by rw [HL.out]; have := piecesP_len (fun k => endsB t b k) tu fr (tu - fr); omega
          go_wp2_with fail
          refine (within14e _ _ (by omega) (by omega) _).mono ?_
          rintro e w' ⟨kk, hkk0, hkk1, rfl, rfl⟩
          go_wp2_with (first
            | (go_at_call 11; refine (passes_any _ _ _ (by omega) (by omega) (by omega) (by omega) _).mono ?_; rintro e w' ⟨rfl, rfl⟩)
            | (go_at_call 15; refine (rpasses_any _ _ _ (by omega) (by omega) (by omega) (by omega) _).mono ?_; rintro e w' ⟨rfl, hq⟩; have hq2 := hq.symm; subst hq2)
            | (go_at_call 12; refine (C1.out _ _).mono ?_; rintro e w' ⟨rfl, rfl⟩)
            | (go_at_call 16; refine (C2.out _ (by omega) _).mono ?_; rintro e w' ⟨rfl, hq⟩; have hq2 := hq.symm; subst hq2))
          refine (ints14 A1 A3 _ _ _ _ w3 _ _ i1 i3 hLn).mono ?_
          rintro e w' ⟨rfl, q1, rfl⟩
          go_wp2_with fail
          refine (ints14 A2 A4 _ _ _ _ (w3.drewN q1) _ _ i2 i4 hLn).mono ?_
          rintro e w' ⟨rfl, q2, rfl⟩
          go_wp2_with fail
          go_ret
          exact ⟨rfl, below_drewN hB3 _⟩
end Go.Proofs.Ytknbppolecahbaa
