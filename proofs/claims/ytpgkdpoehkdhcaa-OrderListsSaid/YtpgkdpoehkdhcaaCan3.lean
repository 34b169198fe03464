/- CONTRACT of canvas.alike. -/
import Derived.Test.YtpgkdpoehkdhcaaCan2
import Derived.BigQuiet
namespace Go.Proofs.Ytpgkdpoehkdhcaa
open Go.RowKit
set_option maxHeartbeats 8000000
set_option linter.unusedVariables false
set_option linter.unusedSimpArgs false

def sameC (a b : CompD) : Bool := decide (a.dp = b.dp) && (decide (a.sg = b.sg) && (decide (a.dx = b.dx) && decide (a.dy = b.dy)))
def alikeB (n : Nat) (F : Nat → CompD) : Bool := decide (3 ≤ n) && (sameC (F 1) (F 0) && sameC (F 2) (F 0))
theorem sameC_bad {a b : CompD} (h : a.dp ≠ b.dp ∨ a.sg ≠ b.sg ∨ a.dx ≠ b.dx ∨ a.dy ≠ b.dy) : sameC a b = false := by
  unfold sameC
  rcases h with h | h | h | h <;> simp [h]
theorem sameC_good {a b : CompD} (h1 : a.dp = b.dp) (h2 : a.sg = b.sg) (h3 : a.dx = b.dx) (h4 : a.dy = b.dy) : sameC a b = true := by
  unfold sameC
  simp [h1, h2, h3, h4]

theorem alike_any (A : Option Addr) (n c : Nat) (F : Nat → CompD) (w : World) (ha : CompsAt w w.heap.size A n F) (hc : n ≤ c) :
    Calls Try.prog 42 #[.slice A n c] w fun e w' => e = .returned (.bool (alikeB n F)) ∧ Below w.heap.size w w' := by
  obtain ⟨E, hE⟩ : ∃ E, alikeB n F = E := ⟨_, rfl⟩
  rw [hE]
  have HE := Lib.hid hE
  clear hE
  by_cases h3 : n < 3
  · go_enter Try.func42, Try.ntmps42
    go_wp2_with fail
    go_ret
    exact ⟨by rw [← HE.out]; unfold alikeB; rw [show decide (3 ≤ n) = false by simp; omega]; rfl, Below.refl _ _⟩
  obtain ⟨b, off, rfl, hlb, hk⟩ := ha (by omega)
  have g1 : (0 : Int) ≤ 1 := by omega
  have g2 : (1 : Int) ≤ 3 := by omega
  have g3 : (3 : Int) ≤ c := by omega
  go_enter Try.func42, Try.ntmps42
  go_wp2_with fail
  go_loopw [11] (fun i wr => ∃ k : Nat, k ≤ 2 ∧ i = .int .i64 k ∧ (1 ≤ k → sameC (F 1) (F 0) = true) ∧ (2 ≤ k → sameC (F 2) (F 0) = true) ∧ Below w.heap.size w wr) (fun i _ => 2 - (intOf i).toNat)
  case atStart => exact ⟨0, Nat.zero_le _, rfl, fun h => by omega, fun h => by omega, Below.refl _ _⟩
  case round =>
    obtain ⟨k, hk2, rfl, hs1, hs2, hbel⟩ := hrel
    by_cases hlt : k < 2
    · obtain ⟨z1, z2, z3, z4, z5⟩ := hk 0 (by omega)
      obtain ⟨y1, y2, y3, y4, y5⟩ := hk (1 + k) (by omega)
      have e5 : off + (1 + k) * 5 = off + 5 + k * 5 := by omega
      rw [e5] at y1 y2 y3 y4 y5
      rw [Nat.zero_mul, Nat.add_zero] at z1 z2 z3 z4 z5
      have mv : ∀ (j : Nat) (v : Value), w.cell? ⟨b, j, none⟩ = some v → wr.cell? ⟨b, j, none⟩ = some v := fun j v h => (hbel.cell (p := ⟨b, j, none⟩) hlb).trans h
      replace z1 := mv _ _ z1
      replace z2 := mv _ _ z2
      replace z3 := mv _ _ z3
      replace z4 := mv _ _ z4
      replace y1 := mv _ _ y1
      replace y2 := mv _ _ y2
      replace y3 := mv _ _ y3
      replace y4 := mv _ _ y4
      replace y5 := mv _ _ y5
      have hbad : ((F (1 + k)).dp ≠ (F 0).dp ∨ (F (1 + k)).sg ≠ (F 0).sg ∨ (F (1 + k)).dx ≠ (F 0).dx ∨ (F (1 + k)).dy ≠ (F 0).dy) → E = false := fun h => by
        have h := sameC_bad h
        rw [← HE.out]
        unfold alikeB
        have : k = 0 ∨ k = 1 := by omega
        rcases this with rfl | rfl
        · rw [show F 1 = F (1 + 0) from rfl, h]; simp
        · rw [show F 2 = F (1 + 1) from rfl, h]; simp
      have hgood : (F (1 + k)).dp = (F 0).dp → (F (1 + k)).sg = (F 0).sg → (F (1 + k)).dx = (F 0).dx → (F (1 + k)).dy = (F 0).dy → (1 ≤ k + 1 → sameC (F 1) (F 0) = true) ∧ (2 ≤ k + 1 → sameC (F 2) (F 0) = true) := fun h1 h2 h3 h4 => by
        have h := sameC_good h1 h2 h3 h4
        have : k = 0 ∨ k = 1 := by omega
        rcases this with rfl | rfl
        · exact ⟨fun _ => h, fun h => by omega⟩
        · exact ⟨fun _ => hs1 (by omega), fun _ => h⟩
      have hsz := hbel.size
      have hlw : b < wr.heap.size := Nat.lt_of_lt_of_le hlb hsz
      obtain ⟨dp1, hdp1⟩ : ∃ v, (F (1 + k)).dp = v := ⟨_, rfl⟩
      obtain ⟨dp0, hdp0⟩ : ∃ v, (F 0).dp = v := ⟨_, rfl⟩
      obtain ⟨dx1, hdx1⟩ : ∃ v, (F (1 + k)).dx = v := ⟨_, rfl⟩
      obtain ⟨dx0, hdx0⟩ : ∃ v, (F 0).dx = v := ⟨_, rfl⟩
      obtain ⟨dy1, hdy1⟩ : ∃ v, (F (1 + k)).dy = v := ⟨_, rfl⟩
      obtain ⟨dy0, hdy0⟩ : ∃ v, (F 0).dy = v := ⟨_, rfl⟩
      obtain ⟨sg1, hsg1⟩ : ∃ v, (F (1 + k)).sg = v := ⟨_, rfl⟩
      obtain ⟨sg0, hsg0⟩ : ∃ v, (F 0).sg = v := ⟨_, rfl⟩
      rw [hdp1, hdp0, hdx1, hdx0, hdy1, hdy0, hsg1, hsg0] at hbad hgood
      rw [hdp1] at y1
      rw [hsg1] at y2
      rw [hdx1] at y3
      rw [hdy1] at y4
      rw [hdp0] at z1
      rw [hsg0] at z2
      rw [hdx0] at z3
      rw [hdy0] at z4
      have hal := below_alloc hbel (.cells #[.int .i64 dp1, .bool sg1, .int .i64 dx1, .int .i64 dy1, .slice (F (1 + k)).A (F (1 + k)).n (F (1 + k)).c] 48)
      clear hdp1 hdp0 hdx1 hdx0 hdy1 hdy0 hsg1 hsg0 e5 hs1 hs2 ha
      have BAD := Lib.hid hbad
      have GOOD := Lib.hid hgood
      clear hbad hgood mv HE
      by_cases q1 : dp1 = dp0
      · subst q1
        by_cases q2 : sg1 = sg0
        · subst q2
          by_cases q3 : dx1 = dx0
          · subst q3
            by_cases q4 : dy1 = dy0
            · subst q4
              have GG := GOOD.out rfl rfl rfl rfl
              clear GOOD BAD
              have GG := Lib.hid GG
              go_wp2_with fail
              go_quiet (fail)
              go_wp2_with fail
              go_roundw
              case rel => exact ⟨k + 1, by omega, by go_num, GG.out.1, GG.out.2, below_drewN hal _⟩
              case measure => simp [intOf]; omega
            · have B := Lib.hid (BAD.out (.inr (.inr (.inr q4))))
              clear GOOD BAD
              have d4 : decide (dy1 = dy0) = false := by simp [q4]
              have d5 : (dy1 != dy0) = true := by simp [q4]
              have d6 : (dy1 == dy0) = false := by simp [q4]
              go_wp2_with fail
              go_quiet (fail)
              go_wp2_with fail
              go_ret
              exact ⟨by rw [B.out]; rfl, below_drewN hal _⟩
          · have B := Lib.hid (BAD.out (.inr (.inr (.inl q3))))
            clear GOOD BAD
            have d4 : decide (dx1 = dx0) = false := by simp [q3]
            have d5 : (dx1 != dx0) = true := by simp [q3]
            have d6 : (dx1 == dx0) = false := by simp [q3]
            go_wp2_with fail
            go_quiet (fail)
            go_wp2_with fail
            go_ret
            exact ⟨by rw [B.out]; rfl, below_drewN hal _⟩
        · have B := Lib.hid (BAD.out (.inr (.inl q2)))
          clear GOOD BAD
          have d4 : decide (sg1 = sg0) = false := by simp [q2]
          have d5 : (sg1 != sg0) = true := by simp [q2]
          have d6 : (sg1 == sg0) = false := by simp [q2]
          go_wp2_with fail
          go_quiet (fail)
          go_wp2_with fail
          go_ret
          exact ⟨by rw [B.out]; rfl, below_drewN hal _⟩
      · have B := Lib.hid (BAD.out (.inl q1))
        clear GOOD BAD
        have d4 : decide (dp1 = dp0) = false := by simp [q1]
        have d5 : (dp1 != dp0) = true := by simp [q1]
        have d6 : (dp1 == dp0) = false := by simp [q1]
        go_wp2_with fail
        go_quiet (fail)
        go_wp2_with fail
        go_ret
        exact ⟨by rw [B.out]; rfl, below_drewN hal _⟩
    · obtain rfl : k = 2 := by omega
      have B : E = true := by
        rw [← HE.out]; unfold alikeB; rw [hs1 (by omega), hs2 (by omega)]; simp; omega
      go_wp2_with fail
      go_ret
      exact ⟨by rw [B]; rfl, hbel⟩
end Go.Proofs.Ytpgkdpoehkdhcaa
