/- CONTRACT of waveletlaw12.rects: two rows of rectangles that are the same are found the same; nothing is written. -/
import Derived.Test.YtmieoifagnpbiaaCells
import Derived.Test.YtmieoifagnpbiaaCan5
namespace Go.Proofs.Ytmieoifagnpbiaa
open Go.RowKit
set_option maxHeartbeats 4000000
set_option linter.unusedVariables false
set_option linter.unusedSimpArgs false

theorem rects12 (A A' : Option Addr) (n c c' : Nat) (g : Nat → Rc) (w : World) (B B' : Nat) (ha : CellsAt w B A 4 n (fun k => rcL (g k))) (ha' : CellsAt w B' A' 4 n (fun k => rcL (g k))) (hn : n ≤ 1152921504606846976) :
    Calls Try.prog 20 #[.slice A n c, .slice A' n c'] w fun e w' => e = .returned (.bool true) ∧ ∃ q, w' = w.drewN q := by
  go_enter Try.func20, Try.ntmps20
  go_wp2
  go_loopw [5] (fun i wr => ∃ k q : Nat, k ≤ n ∧ i = .int .i64 k ∧ wr = w.drewN q) (fun i _ => n - (intOf i).toNat)
  case atStart => exact ⟨0, 0, Nat.zero_le _, rfl, rfl⟩
  case round =>
    obtain ⟨k, q, hk, rfl, rfl⟩ := hrel
    by_cases hlt : k < n
    · obtain ⟨b, off, rfl, hb, hc⟩ := ha.at_ hlt
      obtain ⟨b', off', rfl, hb', hc'⟩ := ha'.at_ hlt
      clear ha ha'
      have c0 : w.cell? ⟨b, off + k * 4, none⟩ = some (.int .i64 (g k).x0) := by have := hc 0 _ rfl; simpa using this
      have c1 : w.cell? ⟨b, off + k * 4 + 1, none⟩ = some (.int .i64 (g k).y0) := hc 1 _ rfl
      have c2 : w.cell? ⟨b, off + k * 4 + 2, none⟩ = some (.int .i64 (g k).x1) := hc 2 _ rfl
      have c3 : w.cell? ⟨b, off + k * 4 + 3, none⟩ = some (.int .i64 (g k).y1) := hc 3 _ rfl
      have d0 : w.cell? ⟨b', off' + k * 4, none⟩ = some (.int .i64 (g k).x0) := by have := hc' 0 _ rfl; simpa using this
      have d1 : w.cell? ⟨b', off' + k * 4 + 1, none⟩ = some (.int .i64 (g k).y0) := hc' 1 _ rfl
      have d2 : w.cell? ⟨b', off' + k * 4 + 2, none⟩ = some (.int .i64 (g k).x1) := hc' 2 _ rfl
      have d3 : w.cell? ⟨b', off' + k * 4 + 3, none⟩ = some (.int .i64 (g k).y1) := hc' 3 _ rfl
      clear hc hc'
      go_wp2
      go_quiet (fail)
      go_wp2
      go_roundw
      case rel => exact ⟨k + 1, _, by omega, by go_num, rfl⟩
      case measure => simp [intOf]; omega
    · go_wp2
      go_ret
      exact ⟨rfl, q, rfl⟩
end Go.Proofs.Ytmieoifagnpbiaa
