/- WALK of waveletlaw10.DwtFlat: every call answers true; memory below is kept. -/
import Derived.Test.YtmcdhdofgaoadaaDwtLaw
import Derived.Test.YtmcdhdofgaoadaaDKnown
namespace Go.Proofs.Ytmcdhdofgaoadaa
open Go.RowKit
set_option maxHeartbeats 8000000
set_option linter.unusedVariables false
set_option linter.unusedSimpArgs false

set_option maxRecDepth 100000 in
theorem dwtFlat_walk (a b d e0 : Int) (w : World) :
    Calls Try.prog 5 #[.int .i64 a, .int .i64 b, .int .i64 d, .int .i64 e0] w fun e w' => e = .returned (.bool true) ∧ Below w.heap.size w w' := by
  go_enter Try.func5, Try.ntmps5
  go_wp2_with fail
  refine (known10 _).mono ?_
  rintro e w1 ⟨rfl, hb1⟩
  go_wp2_with fail
  refine (within10e _ _ (by omega) (by omega) _).mono ?_
  rintro e w' ⟨W, hW0, hW1, rfl, rfl⟩
  obtain ⟨W, rfl⟩ := Int.eq_ofNat_of_zero_le hW0
  go_wp2_with fail
  refine (within10e _ _ (by omega) (by omega) _).mono ?_
  rintro e w' ⟨H, hH0, hH1, rfl, rfl⟩
  obtain ⟨H, rfl⟩ := Int.eq_ofNat_of_zero_le hH0
  go_wp2_with fail
  refine (within10e _ _ (by omega) (by omega) _).mono ?_
  rintro e w' ⟨l, hl0, hl1, rfl, rfl⟩
  obtain ⟨l, rfl⟩ := Int.eq_ofNat_of_zero_le hl0
  go_wp2_with fail
  refine (within10e _ _ (by omega) (by omega) _).mono ?_
  rintro e w' ⟨c, hc0, hc1, rfl, rfl⟩
  obtain ⟨N, hN⟩ : ∃ N, (1 + H) * (1 + W) = N := ⟨_, rfl⟩
  have hN2 : N ≤ 400 := by
    rw [← hN]
    exact Nat.mul_le_mul (show 1 + H ≤ 20 by omega) (show 1 + W ≤ 20 by omega)
  have sN : IntKind.i64.wrap ((1 + (W : Int)) * (1 + H)) = (N : Int) := by
    rw [show (1 + (W : Int)) * (1 + H) = (N : Int) by rw [← hN, Nat.mul_comm]; simp]
    exact IntWalk.i64_in _ (by omega)
  have hmk := fun u => run_make_row' (P := Try.prog) 24 3 (.int .i64 0) 8 Try.underlying24 int_info rfl .i64 .i64 N (by omega) (by omega) u
  have HN := Lib.hid hN
  clear hN
  go_wp2_with fail
  clear hmk
  have q0 := (PInt.made w1 N).congr (h := fun j => if j < 0 then c else 0) (fun k hk => by simp)
  have b0 := below_alloc (Below.refl w1.heap.size w1) (.cells (madeCells #[.int .i64 0] N) 3)
  go_loopw [10] (fun i wr => ∃ k : Nat, k ≤ N ∧ i = .int .i64 k ∧ PInt wr w1.heap.size N (fun j => if j < k then c else 0) ∧ Below w1.heap.size w1 wr) (fun i _ => N - (intOf i).toNat)
  case atStart => exact ⟨0, Nat.zero_le _, rfl, q0, b0⟩
  case round =>
    obtain ⟨wa, hwa⟩ : ∃ wa, wa = wr := ⟨_, rfl⟩
    subst hwa
    obtain ⟨k, hk, rfl, pl, hbel⟩ := hrel
    clear q0 b0
    by_cases hlt : k < N
    · have hcell : ∃ v, wa.cell? ⟨w1.heap.size, k, none⟩ = some v := ⟨_, pl.cell hlt⟩
      obtain ⟨v0, hcell⟩ := hcell
      have hfr := pl.frozen k
      have P2 := Lib.hid ((pl.set_ k c).congr (h := fun j => if j < k + 1 then c else 0) (fun j hj => by
        by_cases e : j = k
        · subst e; simp
        · have : (j < k + 1) = (j < k) := by simp; omega
          simp [e, this]))
      have B2 := Lib.hid (hbel.setCell (p := ⟨w1.heap.size, k, none⟩) (Nat.le_refl _) (.int .i64 c))
      clear pl hbel
      go_wp2_with fail
      go_roundw
      case rel => exact ⟨k + 1, by omega, by go_num, P2.out, B2.out⟩
      case measure => simp [intOf]; omega
    · obtain rfl : k = N := by omega
      have pl := pl.congr (h := fun _ => c) (fun j hj => by rw [if_pos hj])
      have hbb := below_trans hb1 hbel
      have e0 : rectV 0 0 (1 + W) (1 + H) = .agg #[.int .i64 0, .int .i64 0, .int .i64 (1 + (W : Int)), .int .i64 (1 + (H : Int))] := by simp [rectV]
      have SP := dsplit_any l (by omega) 0 0 (1 + W) (1 + H) k HN.out (by omega) (by omega) (by omega) (by omega) (some ⟨w1.heap.size, 0, none⟩) k (fun _ => c) 65536 wa (pl.ints pl.lt) (fun j hj => by simp only; omega) (by omega) (by
        have : (16 : Int) ^ l ≤ 16 ^ 5 := by
          have h := Nat.pow_le_pow_right (show 0 < 16 by omega) (show l ≤ 5 by omega)
          have e : (16 : Int) ^ l = ((16 ^ l : Nat) : Int) := by simp
          rw [e]; omega
        omega)
      rw [e0] at SP
      obtain ⟨bs, hbs⟩ : ∃ bs, bs = bandsF l 0 0 (1 + W) (1 + H) (fun _ => c) := ⟨_, rfl⟩
      have hlen : bs.length = 3 * l + 1 := by rw [hbs, bandsF_len]
      have hflat := bands_flat c l (1 + W) (1 + H) (fun _ => c) (fun _ _ => rfl)
      obtain ⟨x0, hx0, hx0p⟩ := bands_first_pos l 0 0 (1 + W) (1 + H) (fun _ => c) rfl rfl (by omega) (by omega)
      have hsm := bands_small l 0 0 (1 + W) (1 + H) (fun _ => c)
      rw [← hbs] at SP hflat hx0 hsm
      rw [HN.out] at hsm
      have SP := Lib.hid SP
      have FL := Lib.hid hflat
      have SM := Lib.hid hsm
      have LE := Lib.hid hlen
      clear hflat hsm hlen hbs pl hbel e0
      go_wp2_with fail
      refine SP.out.mono ?_
      rintro e w2 ⟨v, rfl, r2, b2⟩
      obtain ⟨A, cc, rfl, hcc, hB⟩ := r2.bands
      rw [LE.out] at hcc ⊢
      have hB2 := below_trans hbb b2
      clear SP r2 b2 hbb
      go_wp2_with fail
      go_loopw [12] (fun i wr => ∃ (j q : Nat), j ≤ 3 * l + 1 ∧ i = .int .i64 j ∧ wr = w2.drewN q) (fun i _ => 3 * l + 1 - (intOf i).toNat)
      case atStart => exact ⟨0, 0, Nat.zero_le _, rfl, rfl⟩
      case round =>
        obtain ⟨j, q, hj, rfl, rfl⟩ := hrel
        by_cases hlt2 : j < 3 * l + 1
        · obtain ⟨x, hx⟩ : ∃ x, bs[j]? = some x := ⟨_, List.getElem?_eq_getElem (by rw [LE.out]; exact hlt2)⟩
          obtain ⟨gb, go, X, dx, rfl, lx, fx, _, jx⟩ := hB.at_ hx
          have fl := FL.out j x hx
          have sm := SM.out j x hx
          obtain ⟨m, h⟩ := x
          simp only at fx jx fl sm
          have FLX := Lib.hid fl
          clear fl hx hB
          go_wp2_with fail
          go_loopw [13] (fun i wr => ∃ (z q : Nat), z ≤ m ∧ i = .int .i64 z ∧ wr = w2.drewN q) (fun i _ => m - (intOf i).toNat)
          case atStart => exact ⟨0, q, Nat.zero_le _, rfl, rfl⟩
          case round =>
            obtain ⟨z, q2, hz, rfl, rfl⟩ := hrel
            have fx' : (w2.drewN q2).cell? ⟨gb, go + j, none⟩ = some (.slice X m dx) := fx
            by_cases hlt3 : z < m
            · obtain ⟨g3, o3, rfl, l3, f3⟩ := jx.at_ hlt3
              have f3' : (w2.drewN q2).cell? ⟨g3, o3 + z, none⟩ = some (.int .i64 (h z)) := f3
              rw [FLX.out z hlt3] at f3'
              rcases Nat.eq_zero_or_pos j with h0 | h0
              · subst h0
                rw [if_pos rfl] at f3'
                simp only [Nat.add_zero] at fx fx'
                clear f3 fx
                go_wp2_with fail
                go_roundw
                case rel => exact ⟨z + 1, _, by omega, by go_num, rfl⟩
                case measure => simp [intOf]; omega
              · rw [if_neg (by omega)] at f3'
                have t1 : ((j : Int) == 0) = false := by rw [beq_eq_false_iff_ne]; omega
                have t2 : (0 : Int) < j := by omega
                clear f3 fx
                go_wp2_with fail
                go_roundw
                case rel => exact ⟨z + 1, _, by omega, by go_num, rfl⟩
                case measure => simp [intOf]; omega
            · obtain rfl : z = m := by omega
              go_wp2_with fail
              go_roundw
              case rel => exact ⟨j + 1, _, by omega, by go_num, rfl⟩
              case measure => simp [intOf]; omega
        · obtain rfl : j = 3 * l + 1 := by omega
          obtain ⟨gb, go, X, dx, rfl, lx, fx, _, jx⟩ := hB.at_ hx0
          have fx' : (w2.drewN q).cell? ⟨gb, go, none⟩ = some (.slice X x0.1 dx) := fx
          clear fx
          go_wp2_with fail
          go_ret
          exact ⟨ret_bool (by first | rfl | (simp; omega)), below_drewN hB2 _⟩
end Go.Proofs.Ytmcdhdofgaoadaa
