/- CONTRACT of waveletref9.Split, for rows of every length. -/
import Derived.Test.YtmcdhdofgaoadaaRSplit9
namespace Go.Proofs.Ytmcdhdofgaoadaa
open Go.RowKit
set_option maxHeartbeats 4000000
set_option linter.unusedVariables false
set_option linter.unusedSimpArgs false

theorem rsplit_alone (a : Nat) (A : Option Addr) (c : Nat) (f : Nat → Int) (w : World) (ha : IntsAt w w.heap.size A 1 f) (hb : Within 1 72057594037927936 f) (hat : a ≤ 4611686018427387904) :
    Calls Try.prog 18 #[.int .i64 a, .slice A 1 c] w fun e w' => ∃ A' c', e = .returned (.slice A' 1 c') ∧ OwnI w' w.heap.size 3 (.slice A' 1 c') 1 (splitF 1 (a % 2) f) ∧ Below w.heap.size w w' := by
  have hbit := and_one a (by omega)
  obtain ⟨o, ho⟩ : ∃ o, o = a % 2 := ⟨_, rfl⟩
  have ho1 : o = 0 ∨ o = 1 := by omega
  rw [← ho] at hbit ⊢
  clear ho
  have b0 := hb 0 (by omega)
  have s2 : IntKind.i64.wrap (2 * f 0) = 2 * f 0 := IntWalk.i64_in _ (by omega)
  rcases ho1 with rfl | rfl
  · have hbit : bits BinOp.and IntKind.i64 (a : Int) 1 = 0 := hbit
    go_enter Try.func18, Try.ntmps18
    go_wp2_with (at_builtin; refine wpList_copyE rfl _ _ 24 rfl 3 int_info Try.underlying24 w.heap.size rfl _ A 1 c f rfl ha (Nat.le_refl _) (by omega) (Nat.le_refl _) ?_; intro A' cap w1 o1 hb1)
    go_ret
    exact ⟨A', cap, rfl, o1.congr (fun k hk => by unfold splitF; rw [if_pos rfl, if_neg (by omega)]), hb1⟩
  · have hbit : bits BinOp.and IntKind.i64 (a : Int) 1 = 1 := hbit
    go_enter Try.func18, Try.ntmps18
    go_wp2_with (at_builtin; refine wpList_copyE rfl _ _ 24 rfl 3 int_info Try.underlying24 w.heap.size rfl _ A 1 c f rfl ha (Nat.le_refl _) (by omega) (Nat.le_refl _) ?_; intro A' cap w1 o1 hb1; obtain ⟨g, rfl⟩ := o1.row (by omega); have hgb := o1.lt g rfl; have cX := o1.cell (show 0 < 1 by omega); have fz := o1.frozen 0)
    go_ret
    refine ⟨_, cap, rfl, (o1.set_ 0 (2 * f 0)).congr (fun k hk => ?_), hb1.setCell (p := ⟨g, 0, none⟩) hgb.1 _⟩
    obtain rfl : k = 0 := by omega
    unfold splitF
    rw [if_pos rfl, if_pos rfl, if_pos rfl]
theorem rsplit_none (a : Nat) (A : Option Addr) (c : Nat) (f : Nat → Int) (w : World) (ha : IntsAt w w.heap.size A 0 f) (hat : a ≤ 4611686018427387904) :
    Calls Try.prog 18 #[.int .i64 a, .slice A 0 c] w fun e w' => ∃ A' c', e = .returned (.slice A' 0 c') ∧ OwnI w' w.heap.size 3 (.slice A' 0 c') 0 (splitF 0 (a % 2) f) ∧ Below w.heap.size w w' := by
  have hbit := and_one a (by omega)
  obtain ⟨o, ho⟩ : ∃ o, o = a % 2 := ⟨_, rfl⟩
  have ho1 : o ≤ 1 := by omega
  rw [← ho] at hbit ⊢
  clear ho
  have sO : (1 : Int) - (o : Int) = ((1 - o : Nat) : Int) := by omega
  go_enter Try.func18, Try.ntmps18
  go_wp2_with (at_builtin; refine wpList_copyE rfl _ _ 24 rfl 3 int_info Try.underlying24 w.heap.size rfl _ A 0 c f rfl ha (Nat.le_refl _) (by omega) (Nat.le_refl _) ?_; intro A' cap w1 o1 hb1)
  go_loopw [8] (fun i wr => ∃ m : Nat, m ≤ 1 ∧ i = .int .i64 m ∧ wr = w1) (fun i _ => 0)
  case atStart => exact ⟨1 - o, by omega, by rw [← sO], rfl⟩
  case round =>
    obtain ⟨m, hm, rfl, hw⟩ := hrel
    have hw2 := hw.symm
    subst hw2
    have hn0 : ¬ ((m : Int) < 0) := by omega
    go_wp2_with fail
    go_loopw [9] (fun i wr => i = .int .i64 o ∧ wr = w1) (fun i _ => 0)
    case atStart => exact ⟨rfl, rfl⟩
    case round =>
      obtain ⟨rfl, hw⟩ := hrel
      have hw2 := hw.symm
      subst hw2
      have hn1 : ¬ ((o : Int) < 0) := by omega
      go_wp2_with fail
      go_loopw [10, 11] (fun out i wr => out = .slice none 0 0 ∧ i = .int .i64 o ∧ wr = w1) (fun _ i _ => 0)
      case atStart => exact ⟨rfl, rfl, rfl⟩
      case round =>
        obtain ⟨rfl, rfl, hw⟩ := hrel
        have hw2 := hw.symm
        subst hw2
        go_wp2_with fail
        go_loopw [10, 12] (fun out i wr => out = .slice none 0 0 ∧ i = .int .i64 ((1 - o : Nat) : Int) ∧ wr = w1) (fun _ i _ => 0)
        case atStart => exact ⟨rfl, by rw [← sO], rfl⟩
        case round =>
          obtain ⟨rfl, rfl, hw⟩ := hrel
          have hw2 := hw.symm
          subst hw2
          have hn2 : ¬ (((1 - o : Nat) : Int) < 0) := by omega
          go_wp2_with fail
          go_ret
          exact ⟨none, 0, rfl, OwnI.nil_ _ _ _ _, hb1⟩
theorem rsplit_any (a : Nat) (A : Option Addr) (n c : Nat) (f : Nat → Int) (w : World) (ha : IntsAt w w.heap.size A n f) (hn : n ≤ 1099511627775) (hb : Within n 72057594037927936 f) (hat : a ≤ 4611686018427387904) :
    Calls Try.prog 18 #[.int .i64 a, .slice A n c] w fun e w' => ∃ A' c', e = .returned (.slice A' n c') ∧ OwnI w' w.heap.size 3 (.slice A' n c') n (splitF n (a % 2) f) ∧ Below w.heap.size w w' := by
  by_cases h : 2 ≤ n
  · exact rsplit_many a A n c f w ha h hn hb hat
  by_cases h1 : n = 1
  · subst h1; exact rsplit_alone a A c f w ha hb hat
  obtain rfl : n = 0 := by omega
  exact rsplit_none a A c f w ha hat
end Go.Proofs.Ytmcdhdofgaoadaa
