/- waveletlaw16.known, waveletlaw16.within; what is sorted is one. -/
import Derived.Test.YtpgkdpoehkdhcaaOrdL
import Derived.Test.YtpgkdpoehkdhcaaForm
namespace Go.Proofs.Ytpgkdpoehkdhcaa
open Go.RowKit
attribute [local go_sem] opv opnd
set_option maxHeartbeats 4000000
set_option linter.unusedVariables false
set_option linter.unusedSimpArgs false
set_option maxRecDepth 100000

theorem within16 (a n : Int) (h1 : 1 ≤ n) (h2 : n ≤ 4611686018427387904) (w : World) :
    Calls Try.prog 15 #[.int .i64 a, .int .i64 n] w fun e w' => e = .returned (.int .i64 (a % n)) ∧ w = w' := by
  have e1 : -n < a.tmod n := Int.lt_tmod_of_pos a (by omega)
  have e2 : a.tmod n < n := Int.tmod_lt_of_pos a (by omega)
  by_cases h : a.tmod n < 0
  · go_enter Try.func15, Try.ntmps15
    go_wp2
    go_ret
    exact ⟨ret_int (tmod_lt h1 h), rfl⟩
  · go_enter Try.func15, Try.ntmps15
    go_wp2
    go_ret
    exact ⟨ret_int (tmod_ge h1 (by omega)), rfl⟩
theorem within16v (a : Int) (n : Nat) (m : Int) (hm : m = (n : Int)) (h1 : 1 ≤ n) (h2 : n ≤ 4611686018427387904) : ∃ v : Nat, v < n ∧ a % m = v ∧ ∀ w, Calls Try.prog 15 #[.int .i64 a, .int .i64 m] w fun e w' => e = .returned (.int .i64 (v : Int)) ∧ w = w' := by
  subst hm
  obtain ⟨v, hv⟩ := Int.eq_ofNat_of_zero_le (Int.emod_nonneg a (show (n : Int) ≠ 0 by omega))
  refine ⟨v, ?_, hv, fun w => ?_⟩
  · have := Int.emod_lt_of_pos a (show (0 : Int) < n by omega); omega
  · have := within16 a n (by omega) (by omega) w; rw [hv] at this; exact this

def q16 : OrdQ := ⟨0, 0, 1, 1, 0, 15, 0, 2, 1, fun _ => 1, fun _ => 1⟩
theorem q16_ok : q16.Ok := ⟨by decide, by decide, by decide, by decide, by decide, by decide, fun k _ => (by decide : 1 ≤ 1 ∧ 1 ≤ 3 ∧ 1 ≤ 1 ∧ 1 ≤ 3)⟩
def s16 (l : Int) : Spot := ⟨l, 0, 0, 0, 0, 0, l, 0, 0, 0, 0, 0⟩
theorem q16_l : q16.l1 2 = [s16 0, s16 1] := by kernel_rfl
theorem known_sorted {K : List Spot} (hp : K.Perm (q16.l1 2)) (hs : K.Pairwise (fun a b => ltS b a = false)) : K = [s16 0, s16 1] := by
  rw [q16_l] at hp
  have h01 : ltS (s16 0) (s16 1) = true := by decide
  have h10 : ltS (s16 1) (s16 0) = false := by decide
  refine List.Perm.eq_of_pairwise (le := fun a b => ltS b a = false) (fun a b ha hb h1 h2 => ?_) hs ?_ hp
  · have ha := hp.mem_iff.1 ha
    simp only [List.mem_cons, List.not_mem_nil, or_false] at ha hb
    rcases ha with rfl | rfl <;> rcases hb with rfl | rfl
    · rfl
    · rw [h01] at h2; cases h2
    · rw [h01] at h1; cases h1
    · rfl
  · simp [h10]
theorem known16_any (w : World) : Calls Try.prog 10 #[] w fun e w' => e = .returned (.bool true) ∧ Below w.heap.size w w' := by
  have hfr : frameE 1 1 0 0 1 (fun _ => ⟨8, false, 1, 1, some ⟨w.heap.size, 0, none⟩, 1, 1⟩) 4 4 ((0 : Nat) : Int) 2 2 ((15 : Nat) : Int) 0 ((0 : Nat) : Int) ((2 : Nat) : Int) false = 0 := by rfl
  have HL := Lib.hid (fun V : World => list_any q16 q16_ok 1 1 0 0 (some ⟨w.heap.size + 1, 0, none⟩) 1 1 (fun _ => ⟨8, false, 1, 1, some ⟨w.heap.size, 0, none⟩, 1, 1⟩) 4 4 2 2 0 false false false 0 0 1 1 0 15 0 2 ⟨rfl, rfl, rfl, rfl, rfl, rfl, rfl, rfl, rfl⟩ (Nat.le_refl _) (fun k _ => ⟨rfl, rfl⟩) hfr V)
  clear hfr
  obtain ⟨q, hq⟩ : ∃ q, w.heap.size = q := ⟨_, rfl⟩
  rw [hq] at HL
  go_enter Try.func10, Try.ntmps10
  go_upto_region 2 with fail
  generalize hW1 : World.alloc (World.alloc (World.alloc w _) _) _ = W1
  have ri : W1.heap[q + 2]? = some (.cells #[.int .i64 1, .int .i64 1, .int .i64 0, .int .i64 0, .slice (some ⟨q + 1, 0, none⟩) 1 1] 28 (0, 0)) := by rw [← hW1, ← hq]; exact (by simpa using heap_alloc_new (World.alloc (World.alloc w _) _) _)
  have rc : W1.heap[q + 1]? = some (.cells #[.int .i64 8, .bool false, .int .i64 1, .int .i64 1, .slice (some ⟨q, 0, none⟩) 1 1] 48 (0, 0)) := by rw [← hW1, ← hq]; exact (Below.heap_alloc _ _ _ (by simp)).trans (heap_alloc_new2 w _ _)
  have z1 : W1.heap.size = q + 3 := by rw [← hW1, ← hq]; simp
  have b1 : Below q w W1 := by rw [← hW1, ← hq]; exact below_alloc (below_alloc (below_alloc (Below.refl _ _) _) _) _
  clear hW1
  have hc : CompsAt W1 W1.heap.size (some ⟨q + 1, 0, none⟩) 1 (fun _ => ⟨8, false, 1, 1, some ⟨q, 0, none⟩, 1, 1⟩) := fun _ => ⟨q + 1, 0, rfl, by omega, fun k hk => by
    obtain rfl : k = 0 := by omega
    exact ⟨cell_of_row _ _ 0 _ _ (0, 0) rc, cell_of_row _ _ 1 _ _ (0, 0) rc, cell_of_row _ _ 2 _ _ (0, 0) rc, cell_of_row _ _ 3 _ _ (0, 0) rc, cell_of_row _ _ 4 _ _ (0, 0) rc⟩⟩
  have ic0 : W1.cell? ⟨q + 2, 0, none⟩ = some (.int .i64 1) := cell_of_row _ _ 0 _ _ (0, 0) ri
  have ic1 : W1.cell? ⟨q + 2, 1, none⟩ = some (.int .i64 1) := cell_of_row _ _ 1 _ _ (0, 0) ri
  have ic2 : W1.cell? ⟨q + 2, 2, none⟩ = some (.int .i64 0) := cell_of_row _ _ 2 _ _ (0, 0) ri
  have ic3 : W1.cell? ⟨q + 2, 3, none⟩ = some (.int .i64 0) := cell_of_row _ _ 3 _ _ (0, 0) ri
  have ic4 : W1.cell? ⟨q + 2, 4, none⟩ = some (.slice (some ⟨q + 1, 0, none⟩) 1 1) := cell_of_row _ _ 4 _ _ (0, 0) ri
  go_wp2_with fail
  refine (HL.out W1 hc).mono ?_
  rintro e' W2 ⟨K, A, c, rfl, hp, hs, own, h2⟩
  obtain rfl := known_sorted hp hs
  have b2 := b1.trans (h2.mono (by omega))
  obtain ⟨g, rfl, _, _⟩ := own.row (show 0 < [s16 0, s16 1].length by decide)
  have x1 : W2.cell? ⟨g, 4, none⟩ = some (.int .i64 1) := by
    have := own.at_.cells (k := 1) (j := 0) (u := .int .i64 1) (by decide) rfl
    simpa using this
  clear own hp hs h2 ic0 ic1 ic2 ic3 ic4 hc ri rc z1 b1
  rw [show [s16 0, s16 1].length = 2 from rfl]
  go_wp2_with fail
  go_ret
  exact ⟨rfl, by rw [hq]; exact b2⟩
end Go.Proofs.Ytpgkdpoehkdhcaa
