/- WALK of waveletlaw10.DwtRows: every call answers true; memory below is kept. -/
import Derived.Test.YtmcdhdofgaoadaaDPlane
import Derived.Test.YtmcdhdofgaoadaaDwtLaw
import Derived.Test.YtmcdhdofgaoadaaRSplit9b
namespace Go.Proofs.Ytmcdhdofgaoadaa
open Go.RowKit
set_option maxHeartbeats 8000000
set_option linter.unusedVariables false
set_option linter.unusedSimpArgs false

theorem splitF_one (f : Nat → Int) : splitF 1 0 f 0 = f 0 := by
  unfold splitF
  rw [if_pos rfl, if_neg (by omega)]
/-- a plane of one row, split once -/
theorem bands_row (at_ n : Nat) (g : Nat → Int) : ∃ f0 f1 f2 f3, bandsF 1 at_ 2 n 1 g = [(low n (at_ % 2), f0), (n - low n (at_ % 2), f1), (0, f2), (0, f3)] ∧ (∀ k, k < low n (at_ % 2) → f0 k = splitF n (at_ % 2) g k) ∧ (∀ k, k < n - low n (at_ % 2) → f1 k = splitF n (at_ % 2) g (low n (at_ % 2) + k)) := by
  have hlo : low n (at_ % 2) ≤ n := low_le (by omega)
  have hG : ∀ k, k < n → planeF at_ 2 n 1 g k = splitF n (at_ % 2) g k := fun k hk => by
    unfold planeF rowsF
    rw [Nat.div_eq_of_lt hk, Nat.mod_eq_of_lt hk]
    refine splitF_congr (by omega) hk (fun j hj => ?_)
    unfold colF
    rw [Nat.zero_mul, Nat.zero_add, Nat.div_eq_of_lt hj, Nat.mod_eq_of_lt hj]
    rw [show 2 % 2 = 0 from rfl, splitF_one, Nat.zero_mul, Nat.zero_add]
  refine ⟨cutF n 0 0 (low n (at_ % 2)) (planeF at_ 2 n 1 g), cutF n (low n (at_ % 2)) 0 (n - low n (at_ % 2)) (planeF at_ 2 n 1 g), cutF n 0 1 (low n (at_ % 2)) (planeF at_ 2 n 1 g), cutF n (low n (at_ % 2)) 1 (n - low n (at_ % 2)) (planeF at_ 2 n 1 g), ?_, fun k hk => ?_, fun k hk => ?_⟩
  · have h1 : low 1 (2 % 2) = 1 := rfl
    unfold bandsF highs bandsF
    rw [h1]
    simp
  · unfold cutF
    rw [Nat.div_eq_of_lt hk, Nat.mod_eq_of_lt hk, Nat.zero_mul, Nat.zero_add]
    exact hG k (by omega)
  · unfold cutF
    rw [Nat.div_eq_of_lt hk, Nat.mod_eq_of_lt hk, Nat.zero_mul, Nat.zero_add]
    exact hG _ (by omega)
/-- a plane of one column, split once -/
theorem bands_col (at_ n : Nat) (g : Nat → Int) : ∃ f0 f1 f2 f3, bandsF 1 4 at_ 1 n g = [(low n (at_ % 2), f0), (0, f1), (n - low n (at_ % 2), f2), (0, f3)] ∧ (∀ k, k < low n (at_ % 2) → f0 k = splitF n (at_ % 2) g k) ∧ (∀ k, k < n - low n (at_ % 2) → f2 k = splitF n (at_ % 2) g (low n (at_ % 2) + k)) := by
  have hlo : low n (at_ % 2) ≤ n := low_le (by omega)
  have hG : ∀ k, k < n → planeF 4 at_ 1 n g k = splitF n (at_ % 2) g k := fun k hk => by
    unfold planeF rowsF
    rw [Nat.div_one, Nat.mod_one, Nat.mul_one, show 4 % 2 = 0 from rfl, splitF_one, Nat.add_zero]
    unfold colF
    rw [Nat.div_one, Nat.mod_one]
    refine splitF_congr (by omega) hk (fun j hj => ?_)
    rw [Nat.mul_one, Nat.add_zero]
  refine ⟨cutF 1 0 0 1 (planeF 4 at_ 1 n g), cutF 1 1 0 (1 - 1) (planeF 4 at_ 1 n g), cutF 1 0 (low n (at_ % 2)) 1 (planeF 4 at_ 1 n g), cutF 1 1 (low n (at_ % 2)) (1 - 1) (planeF 4 at_ 1 n g), ?_, fun k hk => ?_, fun k hk => ?_⟩
  · have h1 : low 1 (4 % 2) = 1 := rfl
    unfold bandsF highs bandsF
    rw [h1]
    simp
  · unfold cutF
    rw [Nat.div_one, Nat.mod_one, Nat.mul_one, Nat.zero_add, Nat.add_zero]
    exact hG k (by omega)
  · unfold cutF
    rw [Nat.div_one, Nat.mod_one, Nat.mul_one, Nat.add_zero]
    exact hG _ (by omega)

set_option maxRecDepth 100000 in
theorem dwtRows_walk (a : Int) (A : Option Addr) (n0 c : Nat) (f : Nat → Int) (down : Bool) (w : World) (ha : IntsAt w w.heap.size A n0 f) (hn : n0 ≤ 9223372036854775807) :
    Calls Try.prog 6 #[.int .i64 a, .slice A n0 c, .bool down] w fun e w' => e = .returned (.bool true) ∧ Below w.heap.size w w' := by
  go_enter Try.func6, Try.ntmps6
  go_wp2_with fail
  refine (known10 _).mono ?_
  rintro e w1 ⟨rfl, hb1⟩
  go_wp2_with fail
  refine (within10e _ _ (by omega) (by omega) _).mono ?_
  rintro e w' ⟨p, hp0, hp1, rfl, rfl⟩
  obtain ⟨p, rfl⟩ := Int.eq_ofNat_of_zero_le hp0
  go_wp2_with fail
  refine (within10e _ _ (by omega) (by omega) _).mono ?_
  rintro e w' ⟨s, hs0, hs1, rfl, rfl⟩
  obtain ⟨s, rfl⟩ := Int.eq_ofNat_of_zero_le hs0
  go_wp2_with fail
  refine (plane_any 0 0 (1 + (s : Int)) 1 A n0 c f w1 ((ha.below hb1).more hb1.size) hn).mono ?_
  rintro e w3 ⟨x, y, W, H, pb, g, hx, hy, hW, hH, rfl, hpb, p3, m3, b3⟩
  obtain rfl : x = 0 := by omega
  obtain rfl : y = 0 := by omega
  obtain rfl : H = 1 := by omega
  obtain ⟨n, hnW⟩ : ∃ n, n = 1 * W := ⟨_, rfl⟩
  have hn12 : n ≤ 12 := by omega
  have hn1 : 1 ≤ n := by omega
  rw [← hnW] at p3 m3 ⊢
  have hB3 := below_trans hb1 b3
  clear hx hy hW hH hnW b3 hb1 ha
  unfold rectV
  have hat : p ≤ 4611686018427387904 := by omega
  obtain ⟨o, ho⟩ : ∃ o, o = p % 2 := ⟨_, rfl⟩
  have ho1 : o ≤ 1 := by omega
  have hlo := low_le (n := n) ho1
  have hM16 : ((524304 : Int) + 1) * 16 ^ 1 ≤ 4503599627370496 := by omega
  cases down
  · obtain ⟨f0, f1, f2, f3, hbs, hf0, hf1⟩ := bands_row p n g
    have SP : ∀ v : World, PInt v pb n g → Calls Try.prog 15 #[.agg #[.int .i64 p, .int .i64 2, .int .i64 ((p : Int) + n), .int .i64 3], .int .i64 1, .slice (some ⟨pb, 0, none⟩) n n] v fun e w' => ∃ u, e = .returned u ∧ RowsAt w' v.heap.size u [(low n o, f0), (n - low n o, f1), (0, f2), (0, f3)] ∧ Below v.heap.size v w' := fun v pp => by
      have := dsplit_any 1 (by omega) p 2 n 1 n (by simp) (by omega) (by omega) (by omega) (by omega) _ n g 524304 v (pp.ints pp.lt) m3 (by omega) hM16
      rw [hbs, ← ho] at this
      simp only [rectV] at this
      exact this
    rw [← ho] at hf0 hf1
    have RS : ∀ v : World, PInt v pb n g → Calls Try.prog 18 #[.int .i64 p, .slice (some ⟨pb, 0, none⟩) n n] v fun e w' => ∃ A' c', e = .returned (.slice A' n c') ∧ OwnI w' v.heap.size 3 (.slice A' n c') n (splitF n o g) ∧ Below v.heap.size v w' := fun v pp => by
      have := rsplit_any p _ n n g v (pp.ints pp.lt) (by omega) (fun k hk => by have := m3 k hk; omega) hat
      rw [← ho] at this
      exact this
    have HF0 := Lib.hid hf0
    have HF1 := Lib.hid hf1
    have SP := Lib.hid SP
    have RS := Lib.hid RS
    clear hbs ho m3 hf0 hf1
    have p5 := (p3.alloc (.cells #[.int .i64 0, .int .i64 0, .int .i64 W, .int .i64 1] 23)).alloc (.cells #[.int .i64 p, .int .i64 2, .int .i64 ((p : Int) + n), .int .i64 3] 23)
    have hB5 := below_alloc (below_alloc hB3 (.cells #[.int .i64 0, .int .i64 0, .int .i64 W, .int .i64 1] 23)) (.cells #[.int .i64 p, .int .i64 2, .int .i64 ((p : Int) + n), .int .i64 3] 23)
    have P5 := Lib.hid (And.intro p5 hB5)
    clear p5 hB5
    go_wp2_with fail
    obtain ⟨p5, hB5⟩ := P5.out
    clear P5 p3 hB3
    generalize World.alloc (World.alloc w3 _) _ = w5 at *
    refine (SP.out w5 p5).mono ?_
    rintro e w6 ⟨u, rfl, ru, b6⟩
    obtain ⟨Ab, cb, rfl, hcb, bB⟩ := ru.bands
    simp only [List.length_cons, List.length_nil, Nat.reduceAdd] at hcb ⊢
    have p6 := p5.below b6 p5.lt
    have hB6 := below_trans hB5 b6
    clear ru b6 p5 hB5 SP
    go_wp2_with fail
    refine (RS.out w6 p6).mono ?_
    rintro e w7 ⟨A7, c7, rfl, o7, b7⟩
    have i7 := o7.ints
    have bB7 := (bB.below b7).more b7.size
    have hB7 := below_trans hB6 b7
    clear o7 bB b7 hB6 p6 RS
    obtain ⟨gb, ob, rfl, hgl, hk⟩ := bB7 (by simp)
    obtain ⟨X0, d0, e0, _, i0⟩ := hk 0 _ rfl
    obtain ⟨X1, d1, e1, _, i1⟩ := hk 1 _ rfl
    obtain ⟨X2, d2, e2, _, i2⟩ := hk 2 _ rfl
    obtain ⟨X3, d3, e3, _, i3⟩ := hk 3 _ rfl
    simp only [Nat.add_zero] at e0 e1 e2 e3
    simp only at i0 i1 i2 i3
    clear hk bB7
    have hSF : ∀ k, k < n → joinRow (low n o) f0 f1 k = splitF n o g k := fun k hk => by
      unfold joinRow
      split
      · rename_i h; exact HF0.out k h
      · rename_i h
        rw [HF1.out (k - low n o) (by omega), Nat.add_sub_of_le (by omega)]
    have HSF := Lib.hid hSF
    clear hSF
    generalize low n o = L at *
    generalize splitF n o g = SFg at *
    have hLn : L + (n - L) = n := by omega
    go_wp2_with (first
      | (at_builtin; refine wpList_copyE rfl _ _ 24 rfl 3 int_info Try.underlying24 w7.heap.size rfl _ X0 L d0 f0 rfl i0 (Nat.le_refl _) (by omega) (Nat.le_refl _) ?_; intro U u8 w8 o8 b8; have iH := i1.below b8)
      | (at_builtin; refine wpList_appN rfl _ _ 24 rfl 3 int_info Try.underlying24 w7.heap.size U L u8 f0 rfl o8 _ X1 (n - L) d1 f1 rfl iH (by omega) b8.size ?_; intro A9 c9 w9 o9 st9; rw [hLn] at o9; rw [hLn]; have i9 := (o9.congr (fun k hk => HSF.out k hk)).ints; have b9 := (grown_below b8).trans st9.below; have j7 := i7.below b9; have hB9 := below_trans hB7 b9))
    clear o8 st9 o9 iH
    refine (ints10 A9 A7 n c9 c7 SFg w9 _ _ i9 j7 (by omega)).mono ?_
    rintro e w' ⟨rfl, q, rfl⟩
    go_wp2_with fail
    go_ret
    exact ⟨rfl, below_drewN hB9 _⟩
  · obtain ⟨f0, f1, f2, f3, hbs, hf0, hf1⟩ := bands_col p n g
    have SP : ∀ v : World, PInt v pb n g → Calls Try.prog 15 #[.agg #[.int .i64 4, .int .i64 p, .int .i64 5, .int .i64 ((p : Int) + n)], .int .i64 1, .slice (some ⟨pb, 0, none⟩) n n] v fun e w' => ∃ u, e = .returned u ∧ RowsAt w' v.heap.size u [(low n o, f0), (0, f1), (n - low n o, f2), (0, f3)] ∧ Below v.heap.size v w' := fun v pp => by
      have := dsplit_any 1 (by omega) 4 p 1 n n (by simp) (by omega) (by omega) (by omega) (by omega) _ n g 524304 v (pp.ints pp.lt) m3 (by omega) hM16
      rw [hbs, ← ho] at this
      simp only [rectV] at this
      exact this
    rw [← ho] at hf0 hf1
    have RS : ∀ v : World, PInt v pb n g → Calls Try.prog 18 #[.int .i64 p, .slice (some ⟨pb, 0, none⟩) n n] v fun e w' => ∃ A' c', e = .returned (.slice A' n c') ∧ OwnI w' v.heap.size 3 (.slice A' n c') n (splitF n o g) ∧ Below v.heap.size v w' := fun v pp => by
      have := rsplit_any p _ n n g v (pp.ints pp.lt) (by omega) (fun k hk => by have := m3 k hk; omega) hat
      rw [← ho] at this
      exact this
    have HF0 := Lib.hid hf0
    have HF1 := Lib.hid hf1
    have SP := Lib.hid SP
    have RS := Lib.hid RS
    clear hbs ho m3 hf0 hf1
    have p5 := (p3.alloc (.cells #[.int .i64 0, .int .i64 0, .int .i64 W, .int .i64 1] 23)).alloc (.cells #[.int .i64 4, .int .i64 p, .int .i64 5, .int .i64 ((p : Int) + n)] 23)
    have hB5 := below_alloc (below_alloc hB3 (.cells #[.int .i64 0, .int .i64 0, .int .i64 W, .int .i64 1] 23)) (.cells #[.int .i64 4, .int .i64 p, .int .i64 5, .int .i64 ((p : Int) + n)] 23)
    have P5 := Lib.hid (And.intro p5 hB5)
    clear p5 hB5
    go_wp2_with fail
    obtain ⟨p5, hB5⟩ := P5.out
    clear P5 p3 hB3
    generalize World.alloc (World.alloc w3 _) _ = w5 at *
    refine (SP.out w5 p5).mono ?_
    rintro e w6 ⟨u, rfl, ru, b6⟩
    obtain ⟨Ab, cb, rfl, hcb, bB⟩ := ru.bands
    simp only [List.length_cons, List.length_nil, Nat.reduceAdd] at hcb ⊢
    have p6 := p5.below b6 p5.lt
    have hB6 := below_trans hB5 b6
    clear ru b6 p5 hB5 SP
    go_wp2_with fail
    refine (RS.out w6 p6).mono ?_
    rintro e w7 ⟨A7, c7, rfl, o7, b7⟩
    have i7 := o7.ints
    have bB7 := (bB.below b7).more b7.size
    have hB7 := below_trans hB6 b7
    clear o7 bB b7 hB6 p6 RS
    obtain ⟨gb, ob, rfl, hgl, hk⟩ := bB7 (by simp)
    obtain ⟨X0, d0, e0, _, i0⟩ := hk 0 _ rfl
    obtain ⟨X1, d1, e1, _, i1⟩ := hk 1 _ rfl
    obtain ⟨X2, d2, e2, _, i2⟩ := hk 2 _ rfl
    obtain ⟨X3, d3, e3, _, i3⟩ := hk 3 _ rfl
    simp only [Nat.add_zero] at e0 e1 e2 e3
    simp only at i0 i1 i2 i3
    clear hk bB7
    have hSF : ∀ k, k < n → joinRow (low n o) f0 f2 k = splitF n o g k := fun k hk => by
      unfold joinRow
      split
      · rename_i h; exact HF0.out k h
      · rename_i h
        rw [HF1.out (k - low n o) (by omega), Nat.add_sub_of_le (by omega)]
    have HSF := Lib.hid hSF
    clear hSF
    generalize low n o = L at *
    generalize splitF n o g = SFg at *
    have hLn : L + (n - L) = n := by omega
    go_wp2_with (first
      | (at_builtin; refine wpList_copyE rfl _ _ 24 rfl 3 int_info Try.underlying24 w7.heap.size rfl _ X0 L d0 f0 rfl i0 (Nat.le_refl _) (by omega) (Nat.le_refl _) ?_; intro U u8 w8 o8 b8; have iH := i2.below b8)
      | (at_builtin; refine wpList_appN rfl _ _ 24 rfl 3 int_info Try.underlying24 w7.heap.size U L u8 f0 rfl o8 _ X2 (n - L) d2 f2 rfl iH (by omega) b8.size ?_; intro A9 c9 w9 o9 st9; rw [hLn] at o9; rw [hLn]; have i9 := (o9.congr (fun k hk => HSF.out k hk)).ints; have b9 := (grown_below b8).trans st9.below; have j7 := i7.below b9; have hB9 := below_trans hB7 b9))
    clear o8 st9 o9 iH
    refine (ints10 A9 A7 n c9 c7 SFg w9 _ _ i9 j7 (by omega)).mono ?_
    rintro e w' ⟨rfl, q, rfl⟩
    go_wp2_with fail
    go_ret
    exact ⟨rfl, below_drewN hB9 _⟩
end Go.Proofs.Ytmcdhdofgaoadaa
