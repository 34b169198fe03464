/- CONTRACT of lift.Split, for rows of every length. -/
import Derived.Test.YtmcdhdofgaoadaaLift3
namespace Go.Proofs.Ytmcdhdofgaoadaa
open Go.RowKit
set_option maxHeartbeats 2000000
set_option linter.unusedVariables false

theorem split_none (a : Nat) (A : Option Addr) (c : Nat) (f : Nat → Int) (w : World) (ha : IntsAt w w.heap.size A 0 f) (hat : a ≤ 9223372036854775807) :
    Calls Try.prog 25 #[.int .i64 a, .slice A 0 c] w fun e w' => ∃ A' c', e = .returned (.slice A' 0 c') ∧ OwnI w' w.heap.size 3 (.slice A' 0 c') 0 (splitF 0 (a % 2) f) ∧ Below w.heap.size w w' := by
  have hbit := and_one a (by omega)
  obtain ⟨o, ho⟩ : ∃ o, o = a % 2 := ⟨_, rfl⟩
  have ho1 : o ≤ 1 := by omega
  rw [← ho] at hbit ⊢
  clear ho
  obtain ⟨base, hbase⟩ : ∃ base, base = w.heap.size := ⟨_, rfl⟩
  rw [← hbase]
  have HB := Lib.hid hbase
  clear hbase
  have hbw : base ≤ w.heap.size := by rw [HB.out]; exact Nat.le_refl _
  have es : (1 : Int) - (o : Int) = ((1 - o : Nat) : Int) := by omega
  go_enter Try.func25, Try.ntmps25
  go_wp2_with (first
    | (at_builtin; refine wpList_app0 rfl _ _ 24 rfl 3 int_info Try.underlying24 base rfl w.heap.size A 0 c f rfl ha (by omega) (by rw [HB.out]; exact Nat.le_refl _) ?_; intro A1 c1 w1 o1 st1))
  have b0 : Below base w (w1.alloc (.cells #[.slice A1 0 c1] 24)) := st1.alloc (by have := st1.size; omega) _
  have x0 : Box (w1.alloc (.cells #[.slice A1 0 c1] 24)) w1.heap.size 24 (.slice A1 0 c1) := Box.new_ _ _ _
  have xc := x0.cell
  refine (leach_any _ _ hF1 A1 0 c1 (1 - o) _ (fun k w' => Box w' w1.heap.size 24 (.slice A1 0 c1) ∧ Below base w w') ⟨x0, b0⟩ (by omega) (by omega) (fun k _ h => by omega)).mono ?_
  rintro e w2 ⟨rfl, _, _, _, _, x2, b2⟩
  have xc2 := x2.cell
  clear b0 x0 xc
  go_wp2_with fail
  refine (leach_any _ _ hF2 A1 0 c1 o _ (fun k w' => Box w' w1.heap.size 24 (.slice A1 0 c1) ∧ Below base w w') ⟨x2, b2⟩ (by omega) (by omega) (fun k _ h => by omega)).mono ?_
  rintro e w3 ⟨rfl, _, _, _, _, x3, b3⟩
  have xc3 := x3.cell
  clear b2 x2 xc2
  have hmk : ∀ u : World, (Instr.makeSlice 24 (.int .i64 0) (.int .i64 0)).run Try.prog u = .ok (.slice (some ⟨u.heap.size, 0, none⟩) 0 0) (u.alloc (.cells (madeCells #[.int .i64 0] 0) 3)) := fun u => run_make0 (P := Try.prog) 24 3 int_info Try.underlying24 .i64 .i64 0 (by omega) u
  have hs3 := b3.size
  have q3 := x3.lt
  go_wp2_with fail
  clear hmk
  have y0 : Box ((w3.alloc (.cells (madeCells #[.int .i64 0] 0) 3)).alloc (.cells #[.slice (some ⟨w3.heap.size, 0, none⟩) 0 0] 24)) (w3.heap.size + 1) 24 (.slice (some ⟨w3.heap.size, 0, none⟩) 0 0) := by
    have := Box.new_ (w3.alloc (.cells (madeCells #[.int .i64 0] 0) 3)) 24 (.slice (some ⟨w3.heap.size, 0, none⟩) 0 0)
    rwa [World.size_alloc] at this
  have x4 := (x3.alloc (.cells (madeCells #[.int .i64 0] 0) 3)).alloc (.cells #[.slice (some ⟨w3.heap.size, 0, none⟩) 0 0] 24)
  have o4 : OwnI ((w3.alloc (.cells (madeCells #[.int .i64 0] 0) 3)).alloc (.cells #[.slice (some ⟨w3.heap.size, 0, none⟩) 0 0] 24)) base 3 (.slice (some ⟨w3.heap.size, 0, none⟩) 0 0) 0 (splitF 0 o f) := (OwnI.made0 w3 base 0 _ _ (by omega) (by omega)).alloc _
  have b4 : Below base w ((w3.alloc (.cells (madeCells #[.int .i64 0] 0) 3)).alloc (.cells #[.slice (some ⟨w3.heap.size, 0, none⟩) 0 0] 24)) := (b3.alloc (by omega) _).alloc (by simp; omega) _
  refine (leach_any _ _ hF3 A1 0 c1 o _ (fun k w' => Box w' (w3.heap.size + 1) 24 (.slice (some ⟨w3.heap.size, 0, none⟩) 0 0) ∧ Box w' w1.heap.size 24 (.slice A1 0 c1) ∧ OwnI w' base 3 (.slice (some ⟨w3.heap.size, 0, none⟩) 0 0) 0 (splitF 0 o f) ∧ Below base w w') ⟨y0, x4, o4, b4⟩ (by omega) (by omega) (fun k _ h => by omega)).mono ?_
  rintro e w5 ⟨rfl, _, _, _, _, y5, x5, o5, b5⟩
  have xc5 := x5.cell
  clear b4 x4 y0 o4 xc3 x3
  go_wp2_with fail
  refine (leach_any _ _ hF4 A1 0 c1 (1 - o) _ (fun k w' => Box w' (w3.heap.size + 1) 24 (.slice (some ⟨w3.heap.size, 0, none⟩) 0 0) ∧ OwnI w' base 3 (.slice (some ⟨w3.heap.size, 0, none⟩) 0 0) 0 (splitF 0 o f) ∧ Below base w w') ⟨y5, o5, b5⟩ (by omega) (by omega) (fun k _ h => by omega)).mono ?_
  rintro e w6 ⟨rfl, _, _, _, _, y6, o6, b6⟩
  have xc6 := y6.cell
  clear b5 y5 x5 o5 xc5
  go_wp2_with fail
  go_ret
  exact ⟨_, _, rfl, o6, by rw [HB.out]; rw [HB.out] at b6; exact b6⟩

theorem split_alone (a : Nat) (A : Option Addr) (c : Nat) (f : Nat → Int) (w : World) (ha : IntsAt w w.heap.size A 1 f) (hb : Within 1 72057594037927936 f) (hat : a ≤ 9223372036854775807) :
    Calls Try.prog 25 #[.int .i64 a, .slice A 1 c] w fun e w' => ∃ A' c', e = .returned (.slice A' 1 c') ∧ OwnI w' w.heap.size 3 (.slice A' 1 c') 1 (splitF 1 (a % 2) f) ∧ Below w.heap.size w w' := by
  have hbit := and_one a (by omega)
  have h0 := hb 0 (by omega)
  obtain ⟨base, hbase⟩ : ∃ base, base = w.heap.size := ⟨_, rfl⟩
  rw [← hbase]
  have HB := Lib.hid hbase
  clear hbase
  have hbw : base ≤ w.heap.size := by rw [HB.out]; exact Nat.le_refl _
  rcases Nat.mod_two_eq_zero_or_one a with ho | ho
  all_goals
    rw [ho] at hbit ⊢
    clear ho
    go_enter Try.func25, Try.ntmps25
    go_wp2_with (first
      | (at_builtin; refine wpList_app0 rfl _ _ 24 rfl 3 int_info Try.underlying24 base rfl w.heap.size A 1 c f rfl ha (by omega) (by rw [HB.out]; exact Nat.le_refl _) ?_; intro A1 c1 w1 o1 st1; obtain ⟨g, rfl⟩ := o1.row (by omega); have hc1 := o1.cell (k := 0) (by omega); have hfr := (o1.alloc (.cells #[.slice (some ⟨g, 0, none⟩) 1 c1] 24)).frozen 0; have x0 := Box.new_ w1 24 (.slice (some ⟨g, 0, none⟩) 1 c1); have hne : g ≠ w1.heap.size := fun e => by { have := (o1.lt g rfl).2; omega }; have hx := fun u => (x0.other (a := ⟨g, 0, none⟩) (fun e => hne e.symm) u).cell; have hca := fun o => (World.cell?_alloc_lt w1 o ⟨g, 0, none⟩ (o1.lt g rfl).2).trans hc1)
      )
    go_ret
    refine ⟨_, _, rfl, ?_, ?_⟩
    · refine ((o1.alloc _).stored 0 _).congr fun k hk => ?_
      obtain rfl : k = 0 := by omega
      simp only [splitF]
      first | done | (simp <;> omega)
    · have b4 := (st1.alloc (by have := st1.size; omega) (.cells #[.slice (some ⟨g, 0, none⟩) 1 c1] 24)).setCell (p := ⟨g, 0, none⟩) (o1.lt g rfl).1
      rw [HB.out]; rw [HB.out] at b4; exact b4 _

theorem split_any (a : Nat) (A : Option Addr) (n c : Nat) (f : Nat → Int) (w : World) (ha : IntsAt w w.heap.size A n f) (hn : n ≤ 1099511627775) (hb : Within n 72057594037927936 f) (hat : a ≤ 9223372036854775807) :
    Calls Try.prog 25 #[.int .i64 a, .slice A n c] w fun e w' => ∃ A' c', e = .returned (.slice A' n c') ∧ OwnI w' w.heap.size 3 (.slice A' n c') n (splitF n (a % 2) f) ∧ Below w.heap.size w w' := by
  by_cases h : 2 ≤ n
  · exact split_many a A n c f w ha h hn hb hat
  by_cases h1 : n = 1
  · subst h1; exact split_alone a A c f w ha hb hat
  obtain rfl : n = 0 := by omega
  exact split_none a A c f w ha hat
end Go.Proofs.Ytmcdhdofgaoadaa
