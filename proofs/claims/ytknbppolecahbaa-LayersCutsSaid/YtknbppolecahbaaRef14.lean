/- CONTRACTS of waveletref8.kind, waveletref8.Ends, waveletref14.Ends, waveletref14.Passes. -/
import Derived.Test.YtknbppolecahbaaLayersWalk
namespace Go.Proofs.Ytknbppolecahbaa
open Go.RowKit
set_option maxHeartbeats 1000000
set_option linter.unusedVariables false

def kindF (k : Int) : Int := if k = 0 then 2 else (k - 1) % 3
theorem rkind_any (k : Int) (hk : 0 ≤ k) (hk2 : k ≤ 9223372036854775807) (w : World) :
    Calls Try.prog 22 #[.int .i64 k] w fun e w' => e = .returned (.int .i64 (kindF k)) ∧ w' = w := by
  by_cases h : k = 0
  · subst h
    go_enter Try.func22, Try.ntmps22
    go_wp2
    go_ret
    exact ⟨rfl, rfl⟩
  · have e : kindF k = (k - 1) % 3 := by
      unfold kindF
      rw [if_neg h]
    rw [e]
    have s1 : IntKind.i64.wrap (k - 1) = k - 1 := IntWalk.i64_in _ (by omega)
    have h0 : (k == 0) = false := by rw [beq_eq_false_iff_ne]; exact h
    clear e
    go_enter Try.func22, Try.ntmps22
    go_wp2
    go_ret
    exact ⟨rfl, rfl⟩

theorem rends8_any (s k : Int) (hk2 : k ≤ 9223372036854775807) (t b : Bool) (ht : (bits .and .i64 s 4 != 0) = t) (hb : (bits .and .i64 s 1 != 0) = b) (w : World) :
    Calls Try.prog 20 #[.int .i64 s, .int .i64 k] w fun e w' => e = .returned (.bool (endsB t b k)) ∧ w' = w := by
  have hb' : (bits .and .i64 s 1 == 0) = !b := by rw [← hb]; simp [bne]
  by_cases c1 : k < 0
  · have e : endsB t b k = false := by unfold endsB; rw [if_pos c1]
    rw [e]
    clear e ht hb hb'
    go_enter Try.func20, Try.ntmps20
    go_wp2
    go_ret
    exact ⟨rfl, rfl⟩
  · cases t
    · cases b
      · have e : endsB false false k = false := by unfold endsB; rw [if_neg c1]; rfl
        rw [e]
        clear e
        go_enter Try.func20, Try.ntmps20
        go_wp2
        go_ret
        exact ⟨rfl, rfl⟩
      · have cs : (kindF k = 2 ∧ 9 ≤ k ∧ endsB false true k = true) ∨ (kindF k = 2 ∧ ¬ 9 ≤ k ∧ endsB false true k = false) ∨ (kindF k = 1 ∧ 10 ≤ k ∧ endsB false true k = true) ∨ (kindF k = 1 ∧ ¬ 10 ≤ k ∧ endsB false true k = false) ∨ (kindF k = 0 ∧ endsB false true k = false) := by
          have e : endsB false true k = ((decide (k % 3 = 0) && decide (9 ≤ k)) || (decide (k % 3 = 2) && decide (10 ≤ k))) := by unfold endsB; rw [if_neg c1]; rfl
          rw [e]
          have hm : k % 3 = 0 ∨ k % 3 = 1 ∨ k % 3 = 2 := by omega
          have hkf : kindF k = if k = 0 then 2 else (k - 1) % 3 := rfl
          by_cases h0 : k = 0
          · subst h0
            exact .inr (.inl ⟨rfl, by omega, by decide⟩)
          · rw [if_neg h0] at hkf
            rcases hm with h | h | h
            · have : kindF k = 2 := by omega
              by_cases h9 : 9 ≤ k
              · exact .inl ⟨this, h9, by simp [h, h9]⟩
              · exact .inr (.inl ⟨this, h9, by simp [h, h9]⟩)
            · exact .inr (.inr (.inr (.inr ⟨by omega, by simp [h]⟩)))
            · have : kindF k = 1 := by omega
              by_cases h9 : 10 ≤ k
              · exact .inr (.inr (.inl ⟨this, h9, by simp [h, h9]⟩))
              · exact .inr (.inr (.inr (.inl ⟨this, h9, by simp [h, h9]⟩)))
        have KD := Lib.hid (fun w => rkind_any k (by omega) hk2 w)
        clear hb
        rcases cs with ⟨kv, x1, e⟩ | ⟨kv, x1, e⟩ | ⟨kv, x1, e⟩ | ⟨kv, x1, e⟩ | ⟨kv, e⟩
        all_goals
          rw [e]
          rw [kv] at KD
          clear e kv
          go_enter Try.func20, Try.ntmps20
          go_wp2_with (go_at_call 22; refine (KD.out _).mono ?_; rintro e w' ⟨rfl, hq⟩; subst hq)
          go_ret
          exact ⟨ret_bool (by first | rfl | (simp; omega)), rfl⟩
    · have e : endsB true b k = true := by unfold endsB; rw [if_neg c1]; rfl
      rw [e]
      clear e hb hb'
      go_enter Try.func20, Try.ntmps20
      go_wp2
      go_ret
      exact ⟨rfl, rfl⟩

theorem rends_any (s k : Int) (hk2 : k ≤ 9223372036854775807) (t b : Bool) (ht : (bits .and .i64 s 4 != 0) = t) (hb : (bits .and .i64 s 1 != 0) = b) (w : World) :
    Calls Try.prog 16 #[.int .i64 s, .int .i64 k] w fun e w' => e = .returned (.bool (endsB t b k)) ∧ w' = w := by
  have E := Lib.hid (fun w => rends8_any s k hk2 t b ht hb w)
  clear ht hb
  go_enter Try.func16, Try.ntmps16
  go_wp2_with (go_at_call 20; refine (E.out _).mono ?_; rintro e w' ⟨rfl, hq⟩; subst hq)
  go_ret
  exact ⟨rfl, rfl⟩

theorem rpasses_any (T n l : Int) (hT : 0 ≤ T) (hT1 : T ≤ 100) (hn : 1 ≤ n) (hn1 : n ≤ 100) (w : World) :
    Calls Try.prog 15 #[.int .i64 T, .int .i64 n, .int .i64 l] w fun e w' => e = .returned (.int .i64 (passM T n l)) ∧ w' = w := by
  by_cases c1 : l < 1
  · rw [pass_neg c1]
    go_enter Try.func15, Try.ntmps15
    go_wp2
    go_ret
    exact ⟨rfl, rfl⟩
  · by_cases c2 : n < l
    · rw [pass_beyond hn c2]
      go_enter Try.func15, Try.ntmps15
      go_wp2
      go_ret
      exact ⟨rfl, rfl⟩
    · rw [pass_val (by omega) (by omega) hn]
      have p1 : 0 ≤ T * l := Int.mul_nonneg hT (by omega)
      have p2 : T * l ≤ 100 * 100 := Int.mul_le_mul hT1 (by omega) (by omega) (by omega)
      go_enter Try.func15, Try.ntmps15
      go_wp2
      go_ret
      exact ⟨rfl, rfl⟩
end Go.Proofs.Ytknbppolecahbaa
