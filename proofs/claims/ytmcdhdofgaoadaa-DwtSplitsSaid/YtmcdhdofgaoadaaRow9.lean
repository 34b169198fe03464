/- CONTRACT of waveletlaw9.Row: the first sixty numbers, each brought into its bounds, in new memory. -/
import Derived.Test.YtmcdhdofgaoadaaMem
import Derived.Test.YtmcdhdofgaoadaaWithin9
namespace Go.Proofs.Ytmcdhdofgaoadaa
open Go.RowKit
set_option maxHeartbeats 1000000
set_option linter.unusedVariables false

theorem int_info : (Try.prog.info? 3).map (fun i => (i.zero, i.size, i.bytes)) = some (some (.int .i64 0), 1, 8) := by kernel_rfl

def rowF (f : Nat → Int) (k : Nat) : Int := f k % 1048576 - 524288
theorem rowF_bd (f : Nat → Int) (k : Nat) : -524288 ≤ rowF f k ∧ rowF f k < 524288 := by unfold rowF; omega

theorem row9m (A : Option Addr) (n c m : Nat) (f : Nat → Int) (w : World) (ha : IntsAt w w.heap.size A n f) (hn : n ≤ 9223372036854775807) (hm1 : m ≤ n) (hm2 : m ≤ 60) (hm3 : n ≤ m ∨ 60 ≤ m) :
    Calls Try.prog 20 #[.slice A n c] w fun e w' => ∃ A' c', e = .returned (.slice A' m c') ∧ OwnI w' w.heap.size 3 (.slice A' m c') m (rowF f) ∧ Below w.heap.size w w' := by
  go_enter Try.func20, Try.ntmps20
  go_wp2
  go_loopw [3, 4] (fun v i wr => ∃ (k : Nat) (A' : Option Addr) (c' : Nat), k ≤ m ∧ i = .int .i64 k ∧ v = .slice A' k c' ∧ OwnI wr w.heap.size 3 (.slice A' k c') k (rowF f) ∧ Below w.heap.size w wr) (fun _ i _ => m - (intOf i).toNat)
  case atStart => exact ⟨0, none, 0, Nat.zero_le _, rfl, rfl, OwnI.nil_ _ _ _ _, Below.refl _ _⟩
  case round =>
    obtain ⟨k, A', c', hk, rfl, rfl, hown, hbel⟩ := hrel
    by_cases hlt : k < m
    · obtain ⟨b, off, rfl, hb, hc⟩ := (ha.below hbel).at_ (show k < n by omega)
      have hsz := hbel.size
      go_wp2_with (first
        | (go_at_call 41; refine (within9 _ _ (by omega) (by omega) _).mono ?_; rintro e w' ⟨rfl, rfl⟩; have hm0 := Int.emod_nonneg (f k) (b := 1048576) (by omega); have hm1 := Int.emod_lt_of_pos (f k) (b := 1048576) (by omega))
        | (at_builtin; refine wpList_app1 wr ((Below.refl _ _).alloc (Nat.le_refl _) _) rfl _ _ 24 rfl 3 int_info Try.underlying24 w.heap.size A' k c' (rowF f) rfl hown wr.heap.size rfl (by simp [rowF]) (by omega) (by omega) ?_; intro g cap w1 hown1 hst hlt1))
      have hb1 : Below w.heap.size w w1 := hbel.trans hst.below
      clear hown hbel hst
      go_wp2
      go_roundw
      case rel => exact ⟨k + 1, _, cap, by omega, by go_num, rfl, hown1, hb1⟩
      case measure => simp [intOf]; omega
    · obtain rfl : k = m := by omega
      rcases hm3 with hm3 | hm3
      · go_wp2
        go_ret
        exact ⟨_, _, rfl, hown, hbel⟩
      · by_cases h6 : k < n
        all_goals
          go_wp2
          go_ret
          exact ⟨_, _, rfl, hown, hbel⟩

theorem row9 (A : Option Addr) (n c : Nat) (f : Nat → Int) (w : World) (ha : IntsAt w w.heap.size A n f) (hn : n ≤ 9223372036854775807) :
    Calls Try.prog 20 #[.slice A n c] w fun e w' => ∃ A' c', e = .returned (.slice A' (min n 60) c') ∧ OwnI w' w.heap.size 3 (.slice A' (min n 60) c') (min n 60) (rowF f) ∧ Below w.heap.size w w' :=
  row9m A n c (min n 60) f w ha hn (by omega) (by omega) (by omega)
end Go.Proofs.Ytmcdhdofgaoadaa
