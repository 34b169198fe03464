/- THE COMPARISON of two spots: cmp.Compare, order.compare, the closure. -/
import Derived.Test.YtpgkdpoehkdhcaaStI
import Derived.Test.YtpgkdpoehkdhcaaLoad
import Derived.Deep.LoopGhost
import Derived.Deep.CutBlock
namespace Go.Proofs.Ytpgkdpoehkdhcaa
open Go.RowKit Go.Sort
attribute [local go_sem] opv opnd
set_option maxHeartbeats 40000000
set_option linter.unusedVariables false
set_option linter.unusedSimpArgs false
set_option maxRecDepth 1000000

def cmpI (x y : Int) : Int := if x < y then -1 else if y < x then 1 else 0
theorem nan_any (x : Int) (w : World) : Calls Try.prog 59 #[.int .i64 x] w fun e w' => e = .returned (.bool false) ∧ w = w' := by
  go_enter Try.func59, Try.ntmps59
  go_wp2
  go_ret
  exact ⟨by simp, rfl⟩
theorem cmpI_any (x y : Int) (w : World) : Calls Try.prog 47 #[.int .i64 x, .int .i64 y] w fun e w' => e = .returned (.int .i64 (cmpI x y)) ∧ w = w' := by
  have hv : (x < y ∧ cmpI x y = -1) ∨ (¬ x < y ∧ y < x ∧ cmpI x y = 1) ∨ (¬ x < y ∧ ¬ y < x ∧ cmpI x y = 0) := by
    unfold cmpI
    by_cases h1 : x < y
    · exact Or.inl ⟨h1, if_pos h1⟩
    · by_cases h2 : y < x
      · exact Or.inr (Or.inl ⟨h1, h2, by rw [if_neg h1, if_pos h2]⟩)
      · exact Or.inr (Or.inr ⟨h1, h2, by rw [if_neg h1, if_neg h2]⟩)
  rcases hv with ⟨h1, e⟩ | ⟨h1, h2, e⟩ | ⟨h1, h2, e⟩
  all_goals rw [e]; clear e
  all_goals go_enter Try.func47, Try.ntmps47
  all_goals go_wp2_with (go_at_call 59; refine (nan_any _ _).mono ?_; rintro e w1 ⟨rfl, hw⟩; subst hw)
  all_goals go_ret
  all_goals exact ⟨rfl, rfl⟩
theorem compare_any (x0 x1 x2 x3 x4 x5 y0 y1 y2 y3 y4 y5 : Int) (w : World) : Calls Try.prog 31 #[.agg #[.int .i64 x0, .int .i64 x1, .int .i64 x2, .int .i64 x3, .int .i64 x4, .int .i64 x5], .agg #[.int .i64 y0, .int .i64 y1, .int .i64 y2, .int .i64 y3, .int .i64 y4, .int .i64 y5]] w fun e w' => e = .returned (.int .i64 (lexL [x0, x1, x2, x3, x4, x5] [y0, y1, y2, y3, y4, y5])) ∧ Below w.heap.size w w' := by
  obtain ⟨R, hR⟩ : ∃ R, lexL [x0, x1, x2, x3, x4, x5] [y0, y1, y2, y3, y4, y5] = R := ⟨_, rfl⟩
  rw [hR]
  have HR0 := Lib.hid (show lexL ([x0, x1, x2, x3, x4, x5].drop 0) ([y0, y1, y2, y3, y4, y5].drop 0) = R from hR)
  clear hR
  go_enter Try.func31, Try.ntmps31
  go_upto_region 1 with fail
  generalize hW2 : World.alloc (World.alloc w _) _ = W2
  have hx : W2.heap[w.heap.size]? = some (.cells #[.int .i64 x0, .int .i64 x1, .int .i64 x2, .int .i64 x3, .int .i64 x4, .int .i64 x5] 63 (0, 0)) := by rw [← hW2]; exact (Below.heap_alloc _ _ _ (by simp)).trans (heap_alloc_new w _)
  have hy : W2.heap[w.heap.size + 1]? = some (.cells #[.int .i64 y0, .int .i64 y1, .int .i64 y2, .int .i64 y3, .int .i64 y4, .int .i64 y5] 63 (0, 0)) := by rw [← hW2]; exact heap_alloc_new2 w _ _
  have hb := Lib.hid (show Below w.heap.size w W2 by rw [← hW2]; exact below_alloc (below_alloc (Below.refl _ _) _) _)
  clear hW2
  have cx0 : W2.cell? ⟨w.heap.size, 0, none⟩ = some (.int .i64 x0) := cell_of_row _ _ 0 _ _ (0, 0) hx
  have cy0 : W2.cell? ⟨w.heap.size + 1, 0, none⟩ = some (.int .i64 y0) := cell_of_row _ _ 0 _ _ (0, 0) hy
  have cx1 : W2.cell? ⟨w.heap.size, 1, none⟩ = some (.int .i64 x1) := cell_of_row _ _ 1 _ _ (0, 0) hx
  have cy1 : W2.cell? ⟨w.heap.size + 1, 1, none⟩ = some (.int .i64 y1) := cell_of_row _ _ 1 _ _ (0, 0) hy
  have cx2 : W2.cell? ⟨w.heap.size, 2, none⟩ = some (.int .i64 x2) := cell_of_row _ _ 2 _ _ (0, 0) hx
  have cy2 : W2.cell? ⟨w.heap.size + 1, 2, none⟩ = some (.int .i64 y2) := cell_of_row _ _ 2 _ _ (0, 0) hy
  have cx3 : W2.cell? ⟨w.heap.size, 3, none⟩ = some (.int .i64 x3) := cell_of_row _ _ 3 _ _ (0, 0) hx
  have cy3 : W2.cell? ⟨w.heap.size + 1, 3, none⟩ = some (.int .i64 y3) := cell_of_row _ _ 3 _ _ (0, 0) hy
  have cx4 : W2.cell? ⟨w.heap.size, 4, none⟩ = some (.int .i64 x4) := cell_of_row _ _ 4 _ _ (0, 0) hx
  have cy4 : W2.cell? ⟨w.heap.size + 1, 4, none⟩ = some (.int .i64 y4) := cell_of_row _ _ 4 _ _ (0, 0) hy
  have cx5 : W2.cell? ⟨w.heap.size, 5, none⟩ = some (.int .i64 x5) := cell_of_row _ _ 5 _ _ (0, 0) hx
  have cy5 : W2.cell? ⟨w.heap.size + 1, 5, none⟩ = some (.int .i64 y5) := cell_of_row _ _ 5 _ _ (0, 0) hy
  clear hx hy
  obtain ⟨q, hq⟩ : ∃ q, w.heap.size = q := ⟨_, rfl⟩
  rw [hq] at cx0 cy0 cx1 cy1 cx2 cy2 cx3 cy3 cx4 cy4 cx5 cy5 ⊢
  clear hq
  go_wp2_with fail
  clear cx0 cx1 cx2 cx3 cx4 cx5
  go_loopg [9] 6 (fun kx s9 wr => ∃ (i : Nat), s9 = .int .i64 (i : Int) ∧ i ≤ 6 ∧ 6 - i ≤ kx ∧ Hid (lexL ([x0, x1, x2, x3, x4, x5].drop i) ([y0, y1, y2, y3, y4, y5].drop i) = R) ∧ wr = W2)
  case atStart => exact ⟨0, rfl, by omega, by omega, HR0, rfl⟩
  case round =>
    clear HR0
    obtain ⟨i, rfl, hi, hk, HR, rfl⟩ := hrel
    by_cases hlt : i < 6
    · have hc : i = 0 ∨ i = 1 ∨ i = 2 ∨ i = 3 ∨ i = 4 ∨ i = 5 := by omega
      clear hlt
      rcases hc with rfl | rfl | rfl | rfl | rfl | rfl
      · have hR := HR.out
        simp only [List.drop_zero, List.drop_succ_cons] at hR
        rw [show (((0 : Nat) : Int)) = 0 from rfl]
        obtain ⟨r, hr⟩ : ∃ r, cmpI x0 y0 = r := ⟨_, rfl⟩
        have ix : ∀ V : World, (Instr.index 63 (.agg #[.int .i64 x0, .int .i64 x1, .int .i64 x2, .int .i64 x3, .int .i64 x4, .int .i64 x5]) (.int .i64 0)).run Try.prog V = .ok (.int .i64 x0) V := fun V => by kernel_rfl
        have HC := Lib.hid (fun V : World => hr ▸ cmpI_any x0 y0 V)
        have HLX := Lib.hid hR
        clear hR HR
        by_cases hrz : r = 0
        · have hrb : (r == 0) = true := by simp [hrz]
          have hrd : decide (r ≠ 0) = false := by simp [hrz]
          go_wp2_with fail
          refine (HC.out _).mono ?_
          rintro e w9 ⟨rfl, hw⟩
          subst hw
          clear hrb
          go_wp2_with fail
          go_roundg (6 - 1)
          case measure => omega
          case rel =>
            refine ⟨1, rfl, by omega, by omega, Lib.hid ?_, rfl⟩
            have e : x0 = y0 := by
              rw [← hr] at hrz
              unfold cmpI at hrz
              split at hrz
              · cases hrz
              · split at hrz
                · cases hrz
                · omega
            simp only [List.drop_zero, List.drop_succ_cons]
            have h2 := HLX.out
            rw [lexL, e, if_neg (Int.lt_irrefl _), if_neg (Int.lt_irrefl _)] at h2
            exact h2
        · have hrd : decide (r ≠ 0) = true := by simp [hrz]
          go_wp2_with fail
          refine (HC.out _).mono ?_
          rintro e w9 ⟨rfl, hw⟩
          subst hw
          go_wp2_with fail
          go_ret
          refine ⟨?_, hb.out⟩
          have h2 := HLX.out
          congr 2
          rw [← h2, lexL, ← hr]
          unfold cmpI
          rw [← hr] at hrz
          unfold cmpI at hrz
          split
          · rfl
          · rename_i g1
            rw [if_neg g1] at hrz
            split
            · rfl
            · rename_i g2
              rw [if_neg g2] at hrz
              exact absurd rfl hrz
      · have hR := HR.out
        simp only [List.drop_zero, List.drop_succ_cons] at hR
        rw [show (((1 : Nat) : Int)) = 1 from rfl]
        obtain ⟨r, hr⟩ : ∃ r, cmpI x1 y1 = r := ⟨_, rfl⟩
        have ix : ∀ V : World, (Instr.index 63 (.agg #[.int .i64 x0, .int .i64 x1, .int .i64 x2, .int .i64 x3, .int .i64 x4, .int .i64 x5]) (.int .i64 1)).run Try.prog V = .ok (.int .i64 x1) V := fun V => by kernel_rfl
        have HC := Lib.hid (fun V : World => hr ▸ cmpI_any x1 y1 V)
        have HLX := Lib.hid hR
        clear hR HR
        by_cases hrz : r = 0
        · have hrb : (r == 0) = true := by simp [hrz]
          have hrd : decide (r ≠ 0) = false := by simp [hrz]
          go_wp2_with fail
          refine (HC.out _).mono ?_
          rintro e w9 ⟨rfl, hw⟩
          subst hw
          clear hrb
          go_wp2_with fail
          go_roundg (6 - 2)
          case measure => omega
          case rel =>
            refine ⟨2, rfl, by omega, by omega, Lib.hid ?_, rfl⟩
            have e : x1 = y1 := by
              rw [← hr] at hrz
              unfold cmpI at hrz
              split at hrz
              · cases hrz
              · split at hrz
                · cases hrz
                · omega
            simp only [List.drop_zero, List.drop_succ_cons]
            have h2 := HLX.out
            rw [lexL, e, if_neg (Int.lt_irrefl _), if_neg (Int.lt_irrefl _)] at h2
            exact h2
        · have hrd : decide (r ≠ 0) = true := by simp [hrz]
          go_wp2_with fail
          refine (HC.out _).mono ?_
          rintro e w9 ⟨rfl, hw⟩
          subst hw
          go_wp2_with fail
          go_ret
          refine ⟨?_, hb.out⟩
          have h2 := HLX.out
          congr 2
          rw [← h2, lexL, ← hr]
          unfold cmpI
          rw [← hr] at hrz
          unfold cmpI at hrz
          split
          · rfl
          · rename_i g1
            rw [if_neg g1] at hrz
            split
            · rfl
            · rename_i g2
              rw [if_neg g2] at hrz
              exact absurd rfl hrz
      · have hR := HR.out
        simp only [List.drop_zero, List.drop_succ_cons] at hR
        rw [show (((2 : Nat) : Int)) = 2 from rfl]
        obtain ⟨r, hr⟩ : ∃ r, cmpI x2 y2 = r := ⟨_, rfl⟩
        have ix : ∀ V : World, (Instr.index 63 (.agg #[.int .i64 x0, .int .i64 x1, .int .i64 x2, .int .i64 x3, .int .i64 x4, .int .i64 x5]) (.int .i64 2)).run Try.prog V = .ok (.int .i64 x2) V := fun V => by kernel_rfl
        have HC := Lib.hid (fun V : World => hr ▸ cmpI_any x2 y2 V)
        have HLX := Lib.hid hR
        clear hR HR
        by_cases hrz : r = 0
        · have hrb : (r == 0) = true := by simp [hrz]
          have hrd : decide (r ≠ 0) = false := by simp [hrz]
          go_wp2_with fail
          refine (HC.out _).mono ?_
          rintro e w9 ⟨rfl, hw⟩
          subst hw
          clear hrb
          go_wp2_with fail
          go_roundg (6 - 3)
          case measure => omega
          case rel =>
            refine ⟨3, rfl, by omega, by omega, Lib.hid ?_, rfl⟩
            have e : x2 = y2 := by
              rw [← hr] at hrz
              unfold cmpI at hrz
              split at hrz
              · cases hrz
              · split at hrz
                · cases hrz
                · omega
            simp only [List.drop_zero, List.drop_succ_cons]
            have h2 := HLX.out
            rw [lexL, e, if_neg (Int.lt_irrefl _), if_neg (Int.lt_irrefl _)] at h2
            exact h2
        · have hrd : decide (r ≠ 0) = true := by simp [hrz]
          go_wp2_with fail
          refine (HC.out _).mono ?_
          rintro e w9 ⟨rfl, hw⟩
          subst hw
          go_wp2_with fail
          go_ret
          refine ⟨?_, hb.out⟩
          have h2 := HLX.out
          congr 2
          rw [← h2, lexL, ← hr]
          unfold cmpI
          rw [← hr] at hrz
          unfold cmpI at hrz
          split
          · rfl
          · rename_i g1
            rw [if_neg g1] at hrz
            split
            · rfl
            · rename_i g2
              rw [if_neg g2] at hrz
              exact absurd rfl hrz
      · have hR := HR.out
        simp only [List.drop_zero, List.drop_succ_cons] at hR
        rw [show (((3 : Nat) : Int)) = 3 from rfl]
        obtain ⟨r, hr⟩ : ∃ r, cmpI x3 y3 = r := ⟨_, rfl⟩
        have ix : ∀ V : World, (Instr.index 63 (.agg #[.int .i64 x0, .int .i64 x1, .int .i64 x2, .int .i64 x3, .int .i64 x4, .int .i64 x5]) (.int .i64 3)).run Try.prog V = .ok (.int .i64 x3) V := fun V => by kernel_rfl
        have HC := Lib.hid (fun V : World => hr ▸ cmpI_any x3 y3 V)
        have HLX := Lib.hid hR
        clear hR HR
        by_cases hrz : r = 0
        · have hrb : (r == 0) = true := by simp [hrz]
          have hrd : decide (r ≠ 0) = false := by simp [hrz]
          go_wp2_with fail
          refine (HC.out _).mono ?_
          rintro e w9 ⟨rfl, hw⟩
          subst hw
          clear hrb
          go_wp2_with fail
          go_roundg (6 - 4)
          case measure => omega
          case rel =>
            refine ⟨4, rfl, by omega, by omega, Lib.hid ?_, rfl⟩
            have e : x3 = y3 := by
              rw [← hr] at hrz
              unfold cmpI at hrz
              split at hrz
              · cases hrz
              · split at hrz
                · cases hrz
                · omega
            simp only [List.drop_zero, List.drop_succ_cons]
            have h2 := HLX.out
            rw [lexL, e, if_neg (Int.lt_irrefl _), if_neg (Int.lt_irrefl _)] at h2
            exact h2
        · have hrd : decide (r ≠ 0) = true := by simp [hrz]
          go_wp2_with fail
          refine (HC.out _).mono ?_
          rintro e w9 ⟨rfl, hw⟩
          subst hw
          go_wp2_with fail
          go_ret
          refine ⟨?_, hb.out⟩
          have h2 := HLX.out
          congr 2
          rw [← h2, lexL, ← hr]
          unfold cmpI
          rw [← hr] at hrz
          unfold cmpI at hrz
          split
          · rfl
          · rename_i g1
            rw [if_neg g1] at hrz
            split
            · rfl
            · rename_i g2
              rw [if_neg g2] at hrz
              exact absurd rfl hrz
      · have hR := HR.out
        simp only [List.drop_zero, List.drop_succ_cons] at hR
        rw [show (((4 : Nat) : Int)) = 4 from rfl]
        obtain ⟨r, hr⟩ : ∃ r, cmpI x4 y4 = r := ⟨_, rfl⟩
        have ix : ∀ V : World, (Instr.index 63 (.agg #[.int .i64 x0, .int .i64 x1, .int .i64 x2, .int .i64 x3, .int .i64 x4, .int .i64 x5]) (.int .i64 4)).run Try.prog V = .ok (.int .i64 x4) V := fun V => by kernel_rfl
        have HC := Lib.hid (fun V : World => hr ▸ cmpI_any x4 y4 V)
        have HLX := Lib.hid hR
        clear hR HR
        by_cases hrz : r = 0
        · have hrb : (r == 0) = true := by simp [hrz]
          have hrd : decide (r ≠ 0) = false := by simp [hrz]
          go_wp2_with fail
          refine (HC.out _).mono ?_
          rintro e w9 ⟨rfl, hw⟩
          subst hw
          clear hrb
          go_wp2_with fail
          go_roundg (6 - 5)
          case measure => omega
          case rel =>
            refine ⟨5, rfl, by omega, by omega, Lib.hid ?_, rfl⟩
            have e : x4 = y4 := by
              rw [← hr] at hrz
              unfold cmpI at hrz
              split at hrz
              · cases hrz
              · split at hrz
                · cases hrz
                · omega
            simp only [List.drop_zero, List.drop_succ_cons]
            have h2 := HLX.out
            rw [lexL, e, if_neg (Int.lt_irrefl _), if_neg (Int.lt_irrefl _)] at h2
            exact h2
        · have hrd : decide (r ≠ 0) = true := by simp [hrz]
          go_wp2_with fail
          refine (HC.out _).mono ?_
          rintro e w9 ⟨rfl, hw⟩
          subst hw
          go_wp2_with fail
          go_ret
          refine ⟨?_, hb.out⟩
          have h2 := HLX.out
          congr 2
          rw [← h2, lexL, ← hr]
          unfold cmpI
          rw [← hr] at hrz
          unfold cmpI at hrz
          split
          · rfl
          · rename_i g1
            rw [if_neg g1] at hrz
            split
            · rfl
            · rename_i g2
              rw [if_neg g2] at hrz
              exact absurd rfl hrz
      · have hR := HR.out
        simp only [List.drop_zero, List.drop_succ_cons] at hR
        rw [show (((5 : Nat) : Int)) = 5 from rfl]
        obtain ⟨r, hr⟩ : ∃ r, cmpI x5 y5 = r := ⟨_, rfl⟩
        have ix : ∀ V : World, (Instr.index 63 (.agg #[.int .i64 x0, .int .i64 x1, .int .i64 x2, .int .i64 x3, .int .i64 x4, .int .i64 x5]) (.int .i64 5)).run Try.prog V = .ok (.int .i64 x5) V := fun V => by kernel_rfl
        have HC := Lib.hid (fun V : World => hr ▸ cmpI_any x5 y5 V)
        have HLX := Lib.hid hR
        clear hR HR
        by_cases hrz : r = 0
        · have hrb : (r == 0) = true := by simp [hrz]
          have hrd : decide (r ≠ 0) = false := by simp [hrz]
          go_wp2_with fail
          refine (HC.out _).mono ?_
          rintro e w9 ⟨rfl, hw⟩
          subst hw
          clear hrb
          go_wp2_with fail
          go_roundg (6 - 6)
          case measure => omega
          case rel =>
            refine ⟨6, rfl, by omega, by omega, Lib.hid ?_, rfl⟩
            have e : x5 = y5 := by
              rw [← hr] at hrz
              unfold cmpI at hrz
              split at hrz
              · cases hrz
              · split at hrz
                · cases hrz
                · omega
            simp only [List.drop_zero, List.drop_succ_cons, List.drop_nil]
            have h2 := HLX.out
            rw [lexL, e, if_neg (Int.lt_irrefl _), if_neg (Int.lt_irrefl _)] at h2
            exact h2
        · have hrd : decide (r ≠ 0) = true := by simp [hrz]
          go_wp2_with fail
          refine (HC.out _).mono ?_
          rintro e w9 ⟨rfl, hw⟩
          subst hw
          go_wp2_with fail
          go_ret
          refine ⟨?_, hb.out⟩
          have h2 := HLX.out
          congr 2
          rw [← h2, lexL, ← hr]
          unfold cmpI
          rw [← hr] at hrz
          unfold cmpI at hrz
          split
          · rfl
          · rename_i g1
            rw [if_neg g1] at hrz
            split
            · rfl
            · rename_i g2
              rw [if_neg g2] at hrz
              exact absurd rfl hrz
    · have he : i = 6 := by omega
      subst he
      have h2 : R = 0 := by rw [← HR.out]; rfl
      subst h2
      go_wp2_with fail
      go_ret
      exact ⟨rfl, hb.out⟩
theorem cmp_at (x y : Spot) : CmpAt x y := by
  intro w
  obtain ⟨l, s, cm, pc, xx, yy, r0, r1, r2, r3, r4, r5⟩ := x
  obtain ⟨l', s', cm', pc', xx', yy', r0', r1', r2', r3', r4', r5'⟩ := y
  have HC := fun V : World => compare_any r0 r1 r2 r3 r4 r5 r0' r1' r2' r3' r4' r5' V
  show Calls Try.prog 30 #[.agg #[.int .i64 l, .int .i64 s, .int .i64 cm, .int .i64 pc, .int .i64 xx, .int .i64 yy, .int .i64 r0, .int .i64 r1, .int .i64 r2, .int .i64 r3, .int .i64 r4, .int .i64 r5], .agg #[.int .i64 l', .int .i64 s', .int .i64 cm', .int .i64 pc', .int .i64 xx', .int .i64 yy', .int .i64 r0', .int .i64 r1', .int .i64 r2', .int .i64 r3', .int .i64 r4', .int .i64 r5']] w fun e w' => e = .returned (.int .i64 (lexL [r0, r1, r2, r3, r4, r5] [r0', r1', r2', r3', r4', r5'])) ∧ Below w.heap.size w w'
  generalize lexL [r0, r1, r2, r3, r4, r5] [r0', r1', r2', r3', r4', r5'] = R at HC ⊢
  have H := Lib.hid HC
  clear HC
  go_enter Try.func30, Try.ntmps30
  go_wp2_with fail
  refine (H.out _).mono ?_
  rintro e w9 ⟨rfl, hb⟩
  have hb2 := below_trans (below_alloc (below_alloc (Below.refl _ _) _) _) hb
  go_wp2_with fail
  go_ret
  exact ⟨rfl, hb2⟩
end Go.Proofs.Ytpgkdpoehkdhcaa
