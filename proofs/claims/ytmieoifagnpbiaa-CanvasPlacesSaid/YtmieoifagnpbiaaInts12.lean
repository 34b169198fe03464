/- CONTRACT of waveletlaw12.ints: two rows that are the same are found the same; nothing is written. -/
import Derived.Test.YtmieoifagnpbiaaMem
namespace Go.Proofs.Ytmieoifagnpbiaa
open Go.RowKit
set_option maxHeartbeats 1000000
set_option linter.unusedVariables false

theorem ints12 (A A' : Option Addr) (n c c' : Nat) (f : Nat → Int) (w : World) (B B' : Nat) (ha : IntsAt w B A n f) (ha' : IntsAt w B' A' n f) (hn : n ≤ 4611686018427387904) :
    Calls Try.prog 30 #[.slice A n c, .slice A' n c'] w fun e w' => e = .returned (.bool true) ∧ ∃ q, w' = w.drewN q := by
  go_enter Try.func30, Try.ntmps30
  go_wp2
  go_loopw [5] (fun i wr => ∃ k q : Nat, k ≤ n ∧ i = .int .i64 k ∧ wr = w.drewN q) (fun i _ => n - (intOf i).toNat)
  case atStart => exact ⟨0, 0, Nat.zero_le _, rfl, rfl⟩
  case round =>
    obtain ⟨k, q, hk, rfl, rfl⟩ := hrel
    by_cases hlt : k < n
    · obtain ⟨b, off, rfl, hb, hc⟩ := ha.at_ hlt
      obtain ⟨b', off', rfl, hb', hc'⟩ := ha'.at_ hlt
      clear ha ha'
      go_wp2
      go_quiet (fail)
      go_wp2
      go_roundw
      case rel => exact ⟨k + 1, _, by omega, by go_num, rfl⟩
      case measure => simp [intOf]; omega
    · go_wp2
      go_ret
      exact ⟨rfl, q, rfl⟩
end Go.Proofs.Ytmieoifagnpbiaa
