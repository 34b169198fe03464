/- CONTRACTS of canvas.both, whole, empty, floor, ceil: rectangles. -/
import Derived.Test.YtpgkdpoehkdhcaaCan4
import Derived.Test.YtpgkdpoehkdhcaaCells
namespace Go.Proofs.Ytpgkdpoehkdhcaa
open Go.RowKit
set_option maxHeartbeats 8000000
set_option linter.unusedVariables false
set_option linter.unusedSimpArgs false

/-- a rectangle -/
structure Rc where
  x0 : Int
  y0 : Int
  x1 : Int
  y1 : Int
def rcV (r : Rc) : Value := .agg #[.int .i64 r.x0, .int .i64 r.y0, .int .i64 r.x1, .int .i64 r.y1]
def rcL (r : Rc) : List Value := [.int .i64 r.x0, .int .i64 r.y0, .int .i64 r.x1, .int .i64 r.y1]
theorem rcL_len (r : Rc) : (rcL r).length = 4 := rfl
theorem rcL_one (r : Rc) : ∀ u ∈ rcL r, u.oneCell' = true := by intro u hu; simp [rcL] at hu; rcases hu with rfl | rfl | rfl | rfl <;> rfl
def mxI (a b : Int) : Int := if a < b then b else a
def mnI (a b : Int) : Int := if b < a then b else a
def bothR (a b : Rc) : Rc := ⟨mxI a.x0 b.x0, mxI a.y0 b.y0, mnI a.x1 b.x1, mnI a.y1 b.y1⟩

def emptyB (r : Rc) : Bool := decide (r.x1 ≤ r.x0) || decide (r.y1 ≤ r.y0)
theorem empty_any (r : Rc) (w : World) :
    Calls Try.prog 55 #[rcV r] w fun e w' => e = .returned (.bool (emptyB r)) ∧ Below w.heap.size w w' := by
  obtain ⟨x0, y0, x1, y1⟩ := r
  unfold rcV emptyB
  simp only
  have hb := below_alloc (Below.refl w.heap.size w) (.cells #[.int .i64 x0, .int .i64 y0, .int .i64 x1, .int .i64 y1] 38)
  by_cases h1 : x1 ≤ x0
  · rw [decide_eq_true h1, Bool.true_or]
    go_enter Try.func55, Try.ntmps55
    go_wp2_with fail
    go_ret
    exact ⟨rfl, hb⟩
  · rw [decide_eq_false h1, Bool.false_or]
    by_cases h2 : y1 ≤ y0
    · rw [decide_eq_true h2]
      go_enter Try.func55, Try.ntmps55
      go_wp2_with fail
      go_ret
      exact ⟨rfl, hb⟩
    · rw [decide_eq_false h2]
      go_enter Try.func55, Try.ntmps55
      go_wp2_with fail
      go_ret
      exact ⟨rfl, hb⟩

theorem pow_bd {k : Nat} (hk : k ≤ 40) : (1 : Int) ≤ 2 ^ k ∧ (2 : Int) ^ k ≤ 1099511627776 := by
  have h1 : 1 ≤ 2 ^ k := Nat.one_le_two_pow
  have h2 : 2 ^ k ≤ 2 ^ 40 := Nat.pow_le_pow_right (by omega) hk
  have h3 : (2 : Int) ^ k = ((2 ^ k : Nat) : Int) := by simp
  rw [h3]
  generalize 2 ^ k = d at *
  omega
theorem wr {a : Int} (h : -9223372036854775808 ≤ a ∧ a ≤ 9223372036854775807) : IntKind.i64.wrap a = a := IntWalk.i64_in _ h
/-- n by 2^k, floor and ceil -/
def flI (n : Int) (k : Nat) : Int := n / 2 ^ k
def ceI (n : Int) (k : Nat) : Int := (n + 2 ^ k - 1) / 2 ^ k
theorem floor_any (n : Int) (k : Nat) (hn : -1152921504606846976 ≤ n ∧ n ≤ 1152921504606846976) (hk : k ≤ 40) (w : World) :
    Calls Try.prog 56 #[.int .i64 n, .int .i64 k] w fun e w' => e = .returned (.int .i64 (flI n k)) ∧ w' = w := by
  have h0 : ¬ ((k : Int) < 0) := by omega
  have h1 : ¬ ((40 : Int) < k) := by omega
  go_enter Try.func56, Try.ntmps56
  go_wp2_with fail
  go_ret
  exact ⟨rfl, rfl⟩
theorem ceil_any (n : Int) (k : Nat) (hn : -1152921504606846976 ≤ n ∧ n ≤ 1152921504606846976) (hk : k ≤ 40) (w : World) :
    Calls Try.prog 51 #[.int .i64 n, .int .i64 k] w fun e w' => e = .returned (.int .i64 (ceI n k)) ∧ w' = w := by
  have h0 : ¬ ((k : Int) < 0) := by omega
  have h1 : ¬ ((40 : Int) < k) := by omega
  obtain ⟨p1, p2⟩ := pow_bd hk
  obtain ⟨d, hd⟩ : ∃ d : Int, 2 ^ k = d := ⟨_, rfl⟩
  have E : wrap64 (wrap64 (n + wrap64 (2 ^ k)) - 1) / 2 ^ k = ceI n k := by
    unfold ceI
    rw [hd] at p1 p2 ⊢
    rw [IntWalk.wrap64_in d (by omega), IntWalk.wrap64_in (n + d) (by omega), IntWalk.wrap64_in (n + d - 1) (by omega)]
  clear p1 p2 hd
  go_enter Try.func51, Try.ntmps51
  go_wp2_with fail
  go_ret
  exact ⟨rfl, rfl⟩
end Go.Proofs.Ytpgkdpoehkdhcaa
