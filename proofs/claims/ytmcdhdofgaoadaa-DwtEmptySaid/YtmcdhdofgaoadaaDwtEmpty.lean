/- WALK of waveletlaw10.DwtEmpty: every call answers true; memory below is kept. -/
import Derived.Test.YtmcdhdofgaoadaaDJoin
import Derived.Test.YtmcdhdofgaoadaaDPlane
namespace Go.Proofs.Ytmcdhdofgaoadaa
open Go.RowKit
set_option maxHeartbeats 8000000
set_option linter.unusedVariables false
set_option linter.unusedSimpArgs false

set_option maxRecDepth 100000 in
theorem dwtEmpty_walk (a b d : Int) (wide : Bool) (w : World) :
    Calls Try.prog 10 #[.int .i64 a, .int .i64 b, .int .i64 d, .bool wide] w fun e w' => e = .returned (.bool true) ∧ Below w.heap.size w w' := by
  obtain ⟨W, H, hWH⟩ : ∃ W H : Nat, (wide = false ∧ W = 0 ∧ H = 5) ∨ (wide = true ∧ W = 5 ∧ H = 0) := by
    cases wide
    · exact ⟨0, 5, .inl ⟨rfl, rfl, rfl⟩⟩
    · exact ⟨5, 0, .inr ⟨rfl, rfl, rfl⟩⟩
  have hN : H * W = 0 := by rcases hWH with ⟨_, rfl, rfl⟩ | ⟨_, rfl, rfl⟩ <;> rfl
  have hW5 : W ≤ 5 := by omega
  have hH5 : H ≤ 5 := by omega
  go_enter Try.func10, Try.ntmps10
  go_wp2_with fail
  refine (known10 _).mono ?_
  rintro e w1 ⟨rfl, hb1⟩
  go_wp2_with fail
  refine (within10e _ _ (by omega) (by omega) _).mono ?_
  rintro e w' ⟨x, hx0, hx1, rfl, rfl⟩
  obtain ⟨x, rfl⟩ := Int.eq_ofNat_of_zero_le hx0
  go_wp2_with fail
  refine (within10e _ _ (by omega) (by omega) _).mono ?_
  rintro e w' ⟨y, hy0, hy1, rfl, rfl⟩
  obtain ⟨y, rfl⟩ := Int.eq_ofNat_of_zero_le hy0
  go_wp2_with fail
  refine (within10e _ _ (by omega) (by omega) _).mono ?_
  rintro e w' ⟨l, hl0, hl1, rfl, rfl⟩
  obtain ⟨l, rfl⟩ := Int.eq_ofNat_of_zero_le hl0
  have p16 : (16 : Int) ^ l ≤ 1048576 := by
    have h := Nat.pow_le_pow_right (show 0 < 16 by omega) (show l ≤ 5 by omega)
    have e : (16 : Int) ^ l = ((16 ^ l : Nat) : Int) := by simp
    rw [e]; omega
  have SP : ∀ v : World, Calls Try.prog 15 #[rectV x y W H, .int .i64 l, .slice none 0 0] v fun e w' => ∃ u, e = .returned u ∧ RowsAt w' v.heap.size u (bandsF l x y W H (fun _ => 0)) ∧ Below v.heap.size v w' := fun v =>
    dsplit_any l (by omega) x y W H 0 hN (by omega) (by omega) (by omega) (by omega) none 0 _ 0 v IntsAt.none_ (fun k hk => by omega) (by omega) (by omega)
  have hsm : ∀ (i : Nat) (z : Nat × (Nat → Int)), (bandsF l x y W H (fun _ => 0))[i]? = some z → z.1 = 0 := fun i z hz => by
    have := bands_small l x y W H _ i z hz
    omega
  have JN : ∀ (v : World) (A : Option Addr) (c : Nat), BandsAt v v.heap.size A (bandsF l x y W H (fun _ => 0)) → Calls Try.prog 19 #[rectV x y W H, .int .i64 l, .slice A (3 * l + 1) c, .int .i64 ((l : Int) + 1)] v fun e w' => ∃ g, e = .returned (.slice (some ⟨g, 0, none⟩) 0 0) ∧ Below v.heap.size v w' := fun v A c hA => by
    refine (djoin_any l (by omega) x y W H 0 hN (by omega) (by omega) (by omega) (by omega) 0 (Nat.zero_le _) ((l : Int) + 1) (by simp) A (3 * l + 1) c _ (fun _ => 0) 0 v hA (bandsF_len _ _ _ _ _ _) (Nat.le_refl _) (by omega) (fun _ _ => rfl) (fun k hk => by omega) (by omega) (by omega)).mono ?_
    rintro e w' ⟨g, rfl, _, _, hb⟩
    refine ⟨g, ?_, hb⟩
    have : (lowest 0 x y W H (fun _ => 0)).1 = 0 := hN
    rw [this]
  have hlen := bandsF_len l x y W H (fun _ => 0)
  generalize bandsF l x y W H (fun _ => 0) = bs at *
  have SM := Lib.hid hsm
  have LE := Lib.hid hlen
  clear hsm hlen hN p16
  rcases hWH with ⟨rfl, rfl, rfl⟩ | ⟨rfl, rfl, rfl⟩
  · rw [show rectV x y 0 5 = .agg #[.int .i64 x, .int .i64 y, .int .i64 x, .int .i64 ((y : Int) + 5)] by simp [rectV]] at SP JN
    have SP := Lib.hid SP
    have JN := Lib.hid JN
    go_wp2_with fail
    have rb := BoxR.new_ w1 (.int .i64 x) (.int .i64 y) (.int .i64 x) (.int .i64 ((y : Int) + 5))
    have bb := below_alloc hb1 (.cells #[.int .i64 x, .int .i64 y, .int .i64 x, .int .i64 ((y : Int) + 5)] 23)
    generalize World.alloc w1 _ = w2 at *
    refine (SP.out w2).mono ?_
    rintro e w3 ⟨v, rfl, r3, b3⟩
    obtain ⟨A, c, rfl, hc, hB⟩ := r3.bands
    rw [LE.out] at hc ⊢
    have rb := rb.below b3 rb.lt
    have hB3 := below_trans bb b3
    have c0 := rb.c0
    have c1 := rb.c1
    have c2 := rb.c2
    have c3 := rb.c3
    clear SP r3 b3 bb rb
    go_wp2_with fail
    go_loopw [11] (fun i wr => ∃ (j q : Nat), j ≤ 3 * l + 1 ∧ i = .int .i64 j ∧ wr = w3.drewN q) (fun i _ => 3 * l + 1 - (intOf i).toNat)
    case atStart => exact ⟨0, 0, Nat.zero_le _, rfl, rfl⟩
    case round =>
      obtain ⟨j, q, hj, rfl, rfl⟩ := hrel
      by_cases hlt : j < 3 * l + 1
      · obtain ⟨z, hz⟩ : ∃ z, bs[j]? = some z := ⟨_, List.getElem?_eq_getElem (by rw [LE.out]; exact hlt)⟩
        obtain ⟨gb, go, X, dx, rfl, lx, fx, _, jx⟩ := hB.at_ hz
        have sm := SM.out j z hz
        rw [sm] at fx
        have fx' : (w3.drewN q).cell? ⟨gb, go + j, none⟩ = some (.slice X 0 dx) := fx
        clear fx
        go_wp2_with fail
        go_roundw
        case rel => exact ⟨j + 1, _, by omega, by go_num, rfl⟩
        case measure => simp [intOf]; omega
      · obtain rfl : j = 3 * l + 1 := by omega
        go_wp2_with fail
        refine (JN.out (w3.drewN q) A c (hB.drewN q)).mono ?_
        rintro e w4 ⟨g, rfl, b4⟩
        have hB4 := below_trans (below_drewN hB3 q) b4
        go_wp2_with fail
        go_ret
        exact ⟨rfl, hB4⟩
  · rw [show rectV x y 5 0 = .agg #[.int .i64 x, .int .i64 y, .int .i64 ((x : Int) + 5), .int .i64 y] by simp [rectV]] at SP JN
    have SP := Lib.hid SP
    have JN := Lib.hid JN
    go_wp2_with fail
    have rb := BoxR.new_ w1 (.int .i64 x) (.int .i64 y) (.int .i64 ((x : Int) + 5)) (.int .i64 y)
    have bb := below_alloc hb1 (.cells #[.int .i64 x, .int .i64 y, .int .i64 ((x : Int) + 5), .int .i64 y] 23)
    generalize World.alloc w1 _ = w2 at *
    refine (SP.out w2).mono ?_
    rintro e w3 ⟨v, rfl, r3, b3⟩
    obtain ⟨A, c, rfl, hc, hB⟩ := r3.bands
    rw [LE.out] at hc ⊢
    have rb := rb.below b3 rb.lt
    have hB3 := below_trans bb b3
    have c0 := rb.c0
    have c1 := rb.c1
    have c2 := rb.c2
    have c3 := rb.c3
    clear SP r3 b3 bb rb
    go_wp2_with fail
    go_loopw [11] (fun i wr => ∃ (j q : Nat), j ≤ 3 * l + 1 ∧ i = .int .i64 j ∧ wr = w3.drewN q) (fun i _ => 3 * l + 1 - (intOf i).toNat)
    case atStart => exact ⟨0, 0, Nat.zero_le _, rfl, rfl⟩
    case round =>
      obtain ⟨j, q, hj, rfl, rfl⟩ := hrel
      by_cases hlt : j < 3 * l + 1
      · obtain ⟨z, hz⟩ : ∃ z, bs[j]? = some z := ⟨_, List.getElem?_eq_getElem (by rw [LE.out]; exact hlt)⟩
        obtain ⟨gb, go, X, dx, rfl, lx, fx, _, jx⟩ := hB.at_ hz
        have sm := SM.out j z hz
        rw [sm] at fx
        have fx' : (w3.drewN q).cell? ⟨gb, go + j, none⟩ = some (.slice X 0 dx) := fx
        clear fx
        go_wp2_with fail
        go_roundw
        case rel => exact ⟨j + 1, _, by omega, by go_num, rfl⟩
        case measure => simp [intOf]; omega
      · obtain rfl : j = 3 * l + 1 := by omega
        go_wp2_with fail
        refine (JN.out (w3.drewN q) A c (hB.drewN q)).mono ?_
        rintro e w4 ⟨g, rfl, b4⟩
        have hB4 := below_trans (below_drewN hB3 q) b4
        go_wp2_with fail
        go_ret
        exact ⟨rfl, hB4⟩
end Go.Proofs.Ytmcdhdofgaoadaa
