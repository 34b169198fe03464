/- CONTRACT of waveletlaw12.Few. -/
import Derived.Test.YtmieoifagnpbiaaCan5
import Derived.Deep.CutBlock
namespace Go.Proofs.Ytmieoifagnpbiaa
open Go.RowKit
set_option maxHeartbeats 8000000
set_option linter.unusedVariables false
set_option linter.unusedSimpArgs false
set_option maxRecDepth 100000

def fewC (n : Nat) (F : Nat → CompD) : Bool := (List.range n).all fun k => decide ((F k).n ≤ 5000)
def fewB (n : Nat) (F : Nat → CompD) : Bool := fewC n F && decide (n ≤ 6)
theorem fewC_succ (n : Nat) (F : Nat → CompD) : fewC (n + 1) F = (fewC n F && decide ((F n).n ≤ 5000)) := by
  unfold fewC
  rw [List.range_succ, List.all_append]
  simp
theorem fewC_bad {n k : Nat} {F : Nat → CompD} (hk : k < n) (h : ¬ (F k).n ≤ 5000) : fewC n F = false := by
  unfold fewC
  rw [List.all_eq_false]
  exact ⟨k, List.mem_range.2 hk, by simpa using h⟩
theorem fewB_at {n : Nat} {F : Nat → CompD} (h : fewB n F = true) : n ≤ 6 ∧ ∀ k, k < n → (F k).n ≤ 5000 := by
  unfold fewB fewC at h
  rw [Bool.and_eq_true, List.all_eq_true, decide_eq_true_eq] at h
  exact ⟨h.2, fun k hk => by simpa using h.1 k (List.mem_range.2 hk)⟩
theorem few_any (X Y Ox Oy : Int) (A : Option Addr) (n c : Nat) (F : Nat → CompD) (w : World) (ha : CompsAt w w.heap.size A n F) (hn : n ≤ 9223372036854775807) :
    Calls Try.prog 14 #[imgV X Y Ox Oy A n c] w fun e w' => e = .returned (.bool (fewB n F)) ∧ Below w.heap.size w w' := by
  unfold imgV
  have hb := below_alloc (Below.refl w.heap.size w) (.cells #[.int .i64 X, .int .i64 Y, .int .i64 Ox, .int .i64 Oy, .slice A n c] 25)
  obtain ⟨E, hE⟩ : ∃ E, fewB n F = E := ⟨_, rfl⟩
  rw [hE]
  have HE := Lib.hid hE
  clear hE
  go_enter Try.func14, Try.ntmps14
  go_wp2_with fail
  obtain ⟨q, hq⟩ : ∃ q, w.heap.size = q := ⟨_, rfl⟩
  generalize hV : World.alloc w _ = V
  have img : V.heap[q]? = some (.cells #[.int .i64 X, .int .i64 Y, .int .i64 Ox, .int .i64 Oy, .slice A n c] 25 (0, 0)) := by rw [← hV, ← hq]; exact heap_alloc_new w _
  have bV : Below q w V := by rw [← hV, ← hq]; exact hb
  have hs : V.heap.size = q + 1 := by rw [← hV, ← hq]; simp
  have i_4 : V.cell? ⟨q, 4, none⟩ = some (.slice A n c) := cell_of_row _ _ 4 _ _ (0, 0) img
  have HAV := Lib.hid (ha.below (by rw [hq]; exact bV))
  rw [hq]
  clear hV hb ha img
  go_loopw [3] (fun i wr => ∃ k : Nat, k ≤ n ∧ i = .int .i64 (k : Int) ∧ fewC k F = true ∧ wr = V) (fun i _ => n - (intOf i).toNat)
  case atStart => exact ⟨0, Nat.zero_le _, rfl, rfl, rfl⟩
  case round =>
    obtain ⟨k, hk, rfl, hf, rfl⟩ := hrel
    obtain ⟨V4, hV4⟩ : ∃ V4, V4 = wr := ⟨_, rfl⟩
    subst hV4
    by_cases hlt : k < n
    · obtain ⟨bb, off, hAe, hlb, y1, y2, y3, y4, y5⟩ := HAV.out.at_ hlt
      subst hAe
      obtain ⟨dn, hdn⟩ : ∃ v, (F k).n = v := ⟨_, rfl⟩
      have hf2 := fewC_succ k F
      rw [hf] at hf2
      have hbad : 5000 < dn → E = false := fun h => by
        rw [← HE.out]; unfold fewB; rw [fewC_bad hlt (by rw [hdn]; omega)]; rfl
      rw [hdn] at y5 hf2
      have k7 : IntKind.i64.wrap ((k : Int) + 1) = ((k + 1 : Nat) : Int) := by rw [show (k : Int) + 1 = ((k + 1 : Nat) : Int) by omega]; exact wr (by omega)
      have HBAD := Lib.hid hbad
      have HF2 := Lib.hid hf2
      clear hbad hf2 hf hdn y1 y2 y3 y4
      by_cases h5 : 5000 < dn
      · obtain rfl := HBAD.out h5
        go_wp2_with fail
        go_ret
        exact ⟨rfl, by first | exact bV | (rw [hq]; exact bV)⟩
      · have hg : fewC (k + 1) F = true := by rw [HF2.out, decide_eq_true (by omega)]; rfl
        have HG := Lib.hid hg
        clear hg
        go_wp2_with fail
        go_roundw
        case rel => exact ⟨k + 1, by omega, by go_num, HG.out, by first | rfl | trivial⟩
        case measure => simp [intOf]; omega
    · obtain rfl : k = n := by omega
      have hEE : E = decide ((k : Int) ≤ 6) := by rw [← HE.out]; unfold fewB; rw [hf, Bool.true_and]; exact decide_eq_decide.2 (by omega)
      subst hEE
      clear HE hf HAV
      go_wp2_with fail
      go_ret
      exact ⟨by first | rfl | simp, by first | exact bV | (rw [hq]; exact bV)⟩
end Go.Proofs.Ytmieoifagnpbiaa
