/- CONTRACT of lift.Join: the row again, in new memory. -/
import Derived.Test.YtmcdhdofgaoadaaLift5
namespace Go.Proofs.Ytmcdhdofgaoadaa
open Go.RowKit
set_option maxHeartbeats 2000000
set_option linter.unusedVariables false

theorem join_many (a : Nat) (V : Option Addr) (n c : Nat) (f : Nat → Int) (w : World) (ha : IntsAt w w.heap.size V n f) (h2 : 2 ≤ n) (hn : n ≤ 1099511627775) (hb : Within n 72057594037927936 f) (hat : a ≤ 9223372036854775807) :
    Calls Try.prog 39 #[.int .i64 a, .slice V n c] w fun e w' => ∃ A' c', e = .returned (.slice A' n c') ∧ OwnI w' w.heap.size 3 (.slice A' n c') n (joinF n (a % 2) f) ∧ Below w.heap.size w w' := by
  have hbit := and_one a (by omega)
  obtain ⟨o, ho⟩ : ∃ o, o = a % 2 := ⟨_, rfl⟩
  have ho1 : o ≤ 1 := by omega
  rw [← ho] at hbit ⊢
  clear ho
  have t1 : ((n : Int) == 1) = false := by rw [beq_eq_false_iff_ne]; omega
  obtain ⟨base, hbase⟩ : ∃ base, base = w.heap.size := ⟨_, rfl⟩
  rw [← hbase]
  have HB := Lib.hid hbase
  clear hbase
  have hbw : base ≤ w.heap.size := by rw [HB.out]; exact Nat.le_refl _
  have hmk := fun u => run_make_row' (P := Try.prog) 24 3 (.int .i64 0) 8 Try.underlying24 int_info rfl .i64 .i64 n (by omega) (by omega) u
  go_enter Try.func39, Try.ntmps39
  go_wp2_with fail
  clear hmk
  have z1 : (w.alloc (.cells #[.slice V n c] 24)).heap.size = w.heap.size + 1 := World.size_alloc _ _
  have z2 : ((w.alloc (.cells #[.slice V n c] 24)).alloc (.cells (madeCells #[.int .i64 0] n) 3)).heap.size = w.heap.size + 1 + 1 := by rw [World.size_alloc, z1]
  have z3 : (((w.alloc (.cells #[.slice V n c] 24)).alloc (.cells (madeCells #[.int .i64 0] n) 3)).alloc (.cells #[.slice (some ⟨w.heap.size + 1, 0, none⟩) n n] 24)).heap.size = w.heap.size + 1 + 1 + 1 := by rw [World.size_alloc, z2]
  have J0 : Joining ((((w.alloc (.cells #[.slice V n c] 24)).alloc (.cells (madeCells #[.int .i64 0] n) 3)).alloc (.cells #[.slice (some ⟨w.heap.size + 1, 0, none⟩) n n] 24)).alloc (.cells #[.int .i64 0] 3)) base w.heap.size (w.heap.size + 1 + 1 + 1) (w.heap.size + 1 + 1) (w.heap.size + 1) n n c 0 V f (fun _ => 0) := by
    have k1 : Box (w.alloc (.cells #[.slice V n c] 24)) w.heap.size 24 (.slice V n c) := Box.new_ _ _ _
    have k2 : OwnI ((w.alloc (.cells #[.slice V n c] 24)).alloc (.cells (madeCells #[.int .i64 0] n) 3)) base 3 (.slice (some ⟨w.heap.size + 1, 0, none⟩) n n) n (fun _ => 0) := by
      have := OwnI.made (w.alloc (.cells #[.slice V n c] 24)) base n 3 (by rw [z1]; omega) (by omega)
      rwa [z1] at this
    have k3 : Box (((w.alloc (.cells #[.slice V n c] 24)).alloc (.cells (madeCells #[.int .i64 0] n) 3)).alloc (.cells #[.slice (some ⟨w.heap.size + 1, 0, none⟩) n n] 24)) (w.heap.size + 1 + 1) 24 (.slice (some ⟨w.heap.size + 1, 0, none⟩) n n) := by
      have := Box.new_ ((w.alloc (.cells #[.slice V n c] 24)).alloc (.cells (madeCells #[.int .i64 0] n) 3)) 24 (.slice (some ⟨w.heap.size + 1, 0, none⟩) n n)
      rwa [z2] at this
    have k4 : Box ((((w.alloc (.cells #[.slice V n c] 24)).alloc (.cells (madeCells #[.int .i64 0] n) 3)).alloc (.cells #[.slice (some ⟨w.heap.size + 1, 0, none⟩) n n] 24)).alloc (.cells #[.int .i64 0] 3)) (w.heap.size + 1 + 1 + 1) 3 (.int .i64 0) := by
      have := Box.new_ (((w.alloc (.cells #[.slice V n c] 24)).alloc (.cells (madeCells #[.int .i64 0] n) 3)).alloc (.cells #[.slice (some ⟨w.heap.size + 1, 0, none⟩) n n] 24)) 3 (.int .i64 0)
      rwa [z3] at this
    exact ⟨((k1.alloc _).alloc _).alloc _, k4, ⟨k3.alloc _, (k2.alloc _).alloc _⟩, (((ha.alloc (Nat.le_refl _) _).alloc (by rw [z1]; omega) _).alloc (by rw [z2]; omega) _).alloc (by rw [z3]; omega) _ |>.more (by rw [HB.out]; exact Nat.le_refl _)⟩
  have b0 : Below base w ((((w.alloc (.cells #[.slice V n c] 24)).alloc (.cells (madeCells #[.int .i64 0] n) 3)).alloc (.cells #[.slice (some ⟨w.heap.size + 1, 0, none⟩) n n] 24)).alloc (.cells #[.int .i64 0] 3)) := ((((Below.refl base w).alloc hbw _).alloc (by rw [z1]; omega) _).alloc (by rw [z2]; omega) _).alloc (by rw [z3]; omega) _
  obtain ⟨pv, hpv⟩ : ∃ pv, pv = w.heap.size := ⟨_, rfl⟩
  obtain ⟨W4, hW4⟩ : ∃ W4, W4 = ((((w.alloc (.cells #[.slice V n c] 24)).alloc (.cells (madeCells #[.int .i64 0] n) 3)).alloc (.cells #[.slice (some ⟨w.heap.size + 1, 0, none⟩) n n] 24)).alloc (.cells #[.int .i64 0] 3)) := ⟨_, rfl⟩
  rw [← hW4] at J0 b0 ⊢
  rw [← hpv] at J0 hbw ⊢
  clear hW4 hpv z1 z2 z3
  have es : (1 : Int) - (o : Int) = ((1 - o : Nat) : Int) := by omega
  refine (leach_any _ _ hG1 _ n n o _ (fun k w' => Joining w' base pv (pv + 1 + 1 + 1) (pv + 1 + 1) (pv + 1) n n c (low k o) V f (fillF n o f k 0) ∧ Below base w w') ⟨?_, b0⟩ (by omega) (by omega) (jstep1 ho1 hn (by omega) (by omega) (by omega) (by omega) (by omega))).mono ?_
  · have e : low o o = 0 := by unfold low; omega
    rw [e]
    exact ⟨J0.v, J0.k, ⟨J0.row.box, J0.row.own.congr fun j hj => by unfold fillF; split <;> rw [if_neg (by omega)]⟩, J0.at_⟩
  rintro e w5 ⟨rfl, k5, hk5, hl5, hp5, J5, b5⟩
  have e5 : low k5 o = low n o := by unfold low; omega
  rw [e5] at J5
  have x5 := J5.row.box.cell
  have x5' := J5.v.cell
  clear J0 b0 e5
  go_wp2_with fail
  refine (leach_any _ _ hG1 _ n n (1 - o) _ (fun k w' => Joining w' base pv (pv + 1 + 1 + 1) (pv + 1 + 1) (pv + 1) n n c (low n o + low k (1 - o)) V f (fillF n o f n k) ∧ Below base w w') ⟨?_, b5⟩ (by omega) (by omega) (jstep2 ho1 hn (by omega) (by omega) (by omega) (by omega) (by omega))).mono ?_
  · have e : low n o + low (1 - o) (1 - o) = low n o := by unfold low; omega
    rw [e]
    exact ⟨J5.v, J5.k, ⟨J5.row.box, J5.row.own.congr fun j hj => by
      unfold fillF
      by_cases c2 : j % 2 = o
      · rw [if_pos c2, if_pos c2, if_pos (by omega), if_pos (by omega)]
      · rw [if_neg c2, if_neg c2, if_neg (by omega), if_neg (by omega)]⟩, J5.at_⟩
  rintro e w6 ⟨rfl, k6, hk6, hl6, hp6, J6, b6⟩
  have r6 : Row w6 base (pv + 1 + 1) (pv + 1) n n (fun j => f (home n o j)) := ⟨J6.row.box, J6.row.own.congr fun j hj => by unfold fillF; split <;> first | rfl | rw [if_pos (by omega)]⟩
  have x6 := r6.box.cell
  clear J5 b5 x5 x5' J6
  have hb2 : Within n 288230376151711744 (fun j => f (home n o j)) := fun k hk => by have := hb _ (home_lt ho1 hk); show -288230376151711744 ≤ f (home n o k) ∧ f (home n o k) ≤ 288230376151711744; omega
  have hb3 : Within n 288230376151711744 (drop2 n o (fun j => f (home n o j)) n) := fun k hk => by have := drop2_bd (o := o) (m := n) (M := 72057594037927936) h2 (fun k hk => hb _ (home_lt ho1 hk)) k hk; omega
  go_wp2_with fail
  refine (leach_any _ _ hG2 _ n n o _ (fun k w' => Row w' base (pv + 1 + 1) (pv + 1) n n (drop2 n o (fun j => f (home n o j)) k) ∧ Below base w w') ⟨⟨r6.box, r6.own.congr fun k hk => by unfold drop2; rw [if_neg (by omega)]⟩, b6⟩ (by omega) (by omega) (jstep3 h2 ho1 (by omega) hb2 (by omega))).mono ?_
  rintro e w7 ⟨rfl, k7, hk7, _, _, r7, b7⟩
  replace r7 : Row w7 base (pv + 1 + 1) (pv + 1) n n (drop2 n o (fun j => f (home n o j)) n) := ⟨r7.box, r7.own.congr fun k hk => by
    unfold drop2
    by_cases c : k % 2 = o
    · rw [if_pos ⟨c, by omega⟩, if_pos ⟨c, hk⟩]
    · rw [if_neg (by omega), if_neg (by omega)]⟩
  have x7 := r7.box.cell
  clear r6 b6 x6
  go_wp2_with fail
  refine (leach_any _ _ hG3 _ n n (1 - o) _ (fun k w' => Row w' base (pv + 1 + 1) (pv + 1) n n (drop1 n o (drop2 n o (fun j => f (home n o j)) n) k) ∧ Below base w w') ⟨⟨r7.box, r7.own.congr fun k hk => by unfold drop1; rw [if_neg (by omega)]⟩, b7⟩ (by omega) (by omega) (jstep4 h2 ho1 (by omega) hb3 (by omega))).mono ?_
  rintro e w8 ⟨rfl, k8, hk8, _, _, r8, b8⟩
  replace r8 : Row w8 base (pv + 1 + 1) (pv + 1) n n (joinF n o f) := ⟨r8.box, r8.own.congr fun k hk => by
    unfold joinF
    rw [if_neg (by omega)]
    show drop1 n o (drop2 n o (fun j => f (home n o j)) n) k8 k = _
    unfold drop1
    by_cases c : k % 2 ≠ o
    · rw [if_pos ⟨c, by omega⟩, if_pos ⟨c, hk⟩]
    · rw [if_neg (by omega), if_neg (by omega)]⟩
  have x8 := r8.box.cell
  clear r7 b7 x7
  go_wp2_with fail
  go_ret
  exact ⟨_, _, rfl, r8.own, by rw [HB.out]; rw [HB.out] at b8; exact b8⟩

theorem join_none (a : Nat) (V : Option Addr) (c : Nat) (f : Nat → Int) (w : World) (ha : IntsAt w w.heap.size V 0 f) (hat : a ≤ 9223372036854775807) :
    Calls Try.prog 39 #[.int .i64 a, .slice V 0 c] w fun e w' => ∃ A' c', e = .returned (.slice A' 0 c') ∧ OwnI w' w.heap.size 3 (.slice A' 0 c') 0 (joinF 0 (a % 2) f) ∧ Below w.heap.size w w' := by
  have hbit := and_one a (by omega)
  obtain ⟨o, ho⟩ : ∃ o, o = a % 2 := ⟨_, rfl⟩
  have ho1 : o ≤ 1 := by omega
  rw [← ho] at hbit ⊢
  clear ho
  obtain ⟨base, hbase⟩ : ∃ base, base = w.heap.size := ⟨_, rfl⟩
  rw [← hbase]
  have HB := Lib.hid hbase
  clear hbase
  have hbw : base ≤ w.heap.size := by rw [HB.out]; exact Nat.le_refl _
  have hmk : ∀ u : World, (Instr.makeSlice 24 (.int .i64 0) (.int .i64 0)).run Try.prog u = .ok (.slice (some ⟨u.heap.size, 0, none⟩) 0 0) (u.alloc (.cells (madeCells #[.int .i64 0] 0) 3)) := fun u => run_make0 (P := Try.prog) 24 3 int_info Try.underlying24 .i64 .i64 0 (by omega) u
  go_enter Try.func39, Try.ntmps39
  go_wp2_with fail
  clear hmk
  have z1 : (w.alloc (.cells #[.slice V 0 c] 24)).heap.size = w.heap.size + 1 := World.size_alloc _ _
  have z2 : ((w.alloc (.cells #[.slice V 0 c] 24)).alloc (.cells (madeCells #[.int .i64 0] 0) 3)).heap.size = w.heap.size + 1 + 1 := by rw [World.size_alloc, z1]
  have z3 : (((w.alloc (.cells #[.slice V 0 c] 24)).alloc (.cells (madeCells #[.int .i64 0] 0) 3)).alloc (.cells #[.slice (some ⟨w.heap.size + 1, 0, none⟩) 0 0] 24)).heap.size = w.heap.size + 1 + 1 + 1 := by rw [World.size_alloc, z2]
  have J0 : Row ((((w.alloc (.cells #[.slice V 0 c] 24)).alloc (.cells (madeCells #[.int .i64 0] 0) 3)).alloc (.cells #[.slice (some ⟨w.heap.size + 1, 0, none⟩) 0 0] 24)).alloc (.cells #[.int .i64 0] 3)) base (w.heap.size + 1 + 1) (w.heap.size + 1) 0 0 (joinF 0 o f) ∧ Below base w ((((w.alloc (.cells #[.slice V 0 c] 24)).alloc (.cells (madeCells #[.int .i64 0] 0) 3)).alloc (.cells #[.slice (some ⟨w.heap.size + 1, 0, none⟩) 0 0] 24)).alloc (.cells #[.int .i64 0] 3)) := by
    have k2 : OwnI ((w.alloc (.cells #[.slice V 0 c] 24)).alloc (.cells (madeCells #[.int .i64 0] 0) 3)) base 3 (.slice (some ⟨w.heap.size + 1, 0, none⟩) 0 0) 0 (joinF 0 o f) := by
      have := OwnI.made0 (w.alloc (.cells #[.slice V 0 c] 24)) base 0 3 (joinF 0 o f) (by rw [z1]; omega) (by omega)
      rwa [z1] at this
    have k3 : Box (((w.alloc (.cells #[.slice V 0 c] 24)).alloc (.cells (madeCells #[.int .i64 0] 0) 3)).alloc (.cells #[.slice (some ⟨w.heap.size + 1, 0, none⟩) 0 0] 24)) (w.heap.size + 1 + 1) 24 (.slice (some ⟨w.heap.size + 1, 0, none⟩) 0 0) := by
      have := Box.new_ ((w.alloc (.cells #[.slice V 0 c] 24)).alloc (.cells (madeCells #[.int .i64 0] 0) 3)) 24 (.slice (some ⟨w.heap.size + 1, 0, none⟩) 0 0)
      rwa [z2] at this
    exact ⟨⟨k3.alloc _, (k2.alloc _).alloc _⟩, ((((Below.refl base w).alloc hbw _).alloc (by rw [z1]; omega) _).alloc (by rw [z2]; omega) _).alloc (by rw [z3]; omega) _⟩
  obtain ⟨pv, hpv⟩ : ∃ pv, pv = w.heap.size := ⟨_, rfl⟩
  obtain ⟨W4, hW4⟩ : ∃ W4, W4 = ((((w.alloc (.cells #[.slice V 0 c] 24)).alloc (.cells (madeCells #[.int .i64 0] 0) 3)).alloc (.cells #[.slice (some ⟨w.heap.size + 1, 0, none⟩) 0 0] 24)).alloc (.cells #[.int .i64 0] 3)) := ⟨_, rfl⟩
  rw [← hW4] at J0 ⊢
  rw [← hpv] at J0 hbw ⊢
  clear hW4 hpv z1 z2 z3
  have es : (1 : Int) - (o : Int) = ((1 - o : Nat) : Int) := by omega
  refine (leach_any _ _ hG1 _ 0 0 o _ (fun k w' => Row w' base (pv + 1 + 1) (pv + 1) 0 0 (joinF 0 o f) ∧ Below base w w') J0 (by omega) (by omega) (fun k _ h => by omega)).mono ?_
  rintro e w5 ⟨rfl, _, _, _, _, J5⟩
  have x5 := J5.1.box.cell
  clear J0
  go_wp2_with fail
  refine (leach_any _ _ hG1 _ 0 0 (1 - o) _ (fun k w' => Row w' base (pv + 1 + 1) (pv + 1) 0 0 (joinF 0 o f) ∧ Below base w w') J5 (by omega) (by omega) (fun k _ h => by omega)).mono ?_
  rintro e w6 ⟨rfl, _, _, _, _, J6⟩
  have x6 := J6.1.box.cell
  clear J5 x5
  go_wp2_with fail
  refine (leach_any _ _ hG2 _ 0 0 o _ (fun k w' => Row w' base (pv + 1 + 1) (pv + 1) 0 0 (joinF 0 o f) ∧ Below base w w') J6 (by omega) (by omega) (fun k _ h => by omega)).mono ?_
  rintro e w7 ⟨rfl, _, _, _, _, J7⟩
  have x7 := J7.1.box.cell
  clear J6 x6
  go_wp2_with fail
  refine (leach_any _ _ hG3 _ 0 0 (1 - o) _ (fun k w' => Row w' base (pv + 1 + 1) (pv + 1) 0 0 (joinF 0 o f) ∧ Below base w w') J7 (by omega) (by omega) (fun k _ h => by omega)).mono ?_
  rintro e w8 ⟨rfl, _, _, _, _, J8⟩
  have x8 := J8.1.box.cell
  clear J7 x7
  go_wp2_with fail
  go_ret
  exact ⟨_, _, rfl, J8.1.own, by have b8 := J8.2; rw [HB.out]; rw [HB.out] at b8; exact b8⟩

theorem join_alone (a : Nat) (V : Option Addr) (c : Nat) (f : Nat → Int) (w : World) (ha : IntsAt w w.heap.size V 1 f) (hb : Within 1 72057594037927936 f) (hat : a ≤ 9223372036854775807) :
    Calls Try.prog 39 #[.int .i64 a, .slice V 1 c] w fun e w' => ∃ A' c', e = .returned (.slice A' 1 c') ∧ OwnI w' w.heap.size 3 (.slice A' 1 c') 1 (joinF 1 (a % 2) f) ∧ Below w.heap.size w w' := by
  have hbit := and_one a (by omega)
  have h0 := hb 0 (by omega)
  obtain ⟨base, hbase⟩ : ∃ base, base = w.heap.size := ⟨_, rfl⟩
  rw [← hbase]
  have HB := Lib.hid hbase
  clear hbase
  have hbw : base ≤ w.heap.size := by rw [HB.out]; exact Nat.le_refl _
  have hmk : ∀ u : World, (Instr.makeSlice 24 (.int .i64 1) (.int .i64 1)).run Try.prog u = .ok (.slice (some ⟨u.heap.size, 0, none⟩) 1 1) (u.alloc (.cells (madeCells #[.int .i64 0] 1) 3)) := fun u => run_make_row' (P := Try.prog) 24 3 (.int .i64 0) 8 Try.underlying24 int_info rfl .i64 .i64 1 (by omega) (by omega) u
  obtain ⟨b, off, rfl⟩ := ha.some_ (by omega)
  have z1 : (w.alloc (.cells #[.slice (some ⟨b, off, none⟩) 1 c] 24)).heap.size = w.heap.size + 1 := World.size_alloc _ _
  have z2 : ((w.alloc (.cells #[.slice (some ⟨b, off, none⟩) 1 c] 24)).alloc (.cells (madeCells #[.int .i64 0] 1) 3)).heap.size = w.heap.size + 1 + 1 := by rw [World.size_alloc, z1]
  have z3 : (((w.alloc (.cells #[.slice (some ⟨b, off, none⟩) 1 c] 24)).alloc (.cells (madeCells #[.int .i64 0] 1) 3)).alloc (.cells #[.slice (some ⟨w.heap.size + 1, 0, none⟩) 1 1] 24)).heap.size = w.heap.size + 1 + 1 + 1 := by rw [World.size_alloc, z2]
  obtain ⟨W3, hW3, hs3, k0, k3, b3, k6⟩ : ∃ W3, W3 = (((w.alloc (.cells #[.slice (some ⟨b, off, none⟩) 1 c] 24)).alloc (.cells (madeCells #[.int .i64 0] 1) 3)).alloc (.cells #[.slice (some ⟨w.heap.size + 1, 0, none⟩) 1 1] 24)) ∧ W3.heap.size = w.heap.size + 1 + 1 + 1 ∧ IntsAt W3 base (some ⟨b, off, none⟩) 1 f ∧ Row W3 base (w.heap.size + 1 + 1) (w.heap.size + 1) 1 1 (fun _ => 0) ∧ Below base w W3 ∧ Box W3 w.heap.size 24 (.slice (some ⟨b, off, none⟩) 1 c) := by
    refine ⟨_, rfl, z3, ((ha.alloc (Nat.le_refl _) _).alloc (by rw [z1]; omega) _).alloc (by rw [z2]; omega) _ |>.more (by rw [HB.out]; exact Nat.le_refl _), ?_, (((Below.refl base w).alloc hbw _).alloc (by rw [z1]; omega) _).alloc (by rw [z2]; omega) _, ((Box.new_ _ _ _).alloc _).alloc _⟩
    have k2 : OwnI ((w.alloc (.cells #[.slice (some ⟨b, off, none⟩) 1 c] 24)).alloc (.cells (madeCells #[.int .i64 0] 1) 3)) base 3 (.slice (some ⟨w.heap.size + 1, 0, none⟩) 1 1) 1 (fun _ => 0) := by
      have := OwnI.made (w.alloc (.cells #[.slice (some ⟨b, off, none⟩) 1 c] 24)) base 1 3 (by rw [z1]; omega) (by omega)
      rwa [z1] at this
    have := Box.new_ ((w.alloc (.cells #[.slice (some ⟨b, off, none⟩) 1 c] 24)).alloc (.cells (madeCells #[.int .i64 0] 1) 3)) 24 (.slice (some ⟨w.heap.size + 1, 0, none⟩) 1 1)
    rw [z2] at this
    exact ⟨this, k2.alloc _⟩
  replace hW3 := Lib.hid hW3
  clear z1 z2 z3
  obtain ⟨pv, hpv⟩ : ∃ pv, pv = w.heap.size := ⟨_, rfl⟩
  rw [← hpv] at k3 k6
  have c1 := k0.cells (k := 0) (by omega)
  rw [Nat.add_zero] at c1
  have c2 := k3.own.cell (k := 0) (by omega)
  have c3 := k3.own.frozen 0
  have c4 := k3.box.cell
  have c5 := fun u => (k3.box.other (a := ⟨pv + 1, 0, none⟩) (by show pv + 1 + 1 ≠ pv + 1; omega) u).cell
  have c6 := k6.cell
  have hg := (k3.own.lt _ rfl).1
  replace hpv := Lib.hid hpv
  rcases Nat.mod_two_eq_zero_or_one a with ho | ho
  all_goals
    rw [ho] at hbit ⊢
    clear ho
    go_enter Try.func39, Try.ntmps39
    go_wp2_with fail
    rw [← hW3.out, ← hpv.out]
    go_region
    go_wp2_with fail
    go_ret
    refine ⟨_, _, rfl, (k3.own.stored 0 _).congr fun k hk => ?_, ?_⟩
    · obtain rfl : k = 0 := by omega
      simp only [joinF]
      first | done | (simp <;> omega)
    · have b4 := (b3.setCell (p := ⟨pv + 1, 0, none⟩) hg (.int .i64 0))
      rw [HB.out]; rw [HB.out] at b3 hg
      exact (b3.setCell (p := ⟨pv + 1, 0, none⟩) hg _).drew

theorem join_any (a : Nat) (A : Option Addr) (n c : Nat) (f : Nat → Int) (w : World) (ha : IntsAt w w.heap.size A n f) (hn : n ≤ 1099511627775) (hb : Within n 72057594037927936 f) (hat : a ≤ 9223372036854775807) :
    Calls Try.prog 39 #[.int .i64 a, .slice A n c] w fun e w' => ∃ A' c', e = .returned (.slice A' n c') ∧ OwnI w' w.heap.size 3 (.slice A' n c') n (joinF n (a % 2) f) ∧ Below w.heap.size w w' := by
  by_cases h : 2 ≤ n
  · exact join_many a A n c f w ha h hn hb hat
  by_cases h1 : n = 1
  · subst h1; exact join_alone a A c f w ha hb hat
  obtain rfl : n = 0 := by omega
  exact join_none a A c f w ha hat
end Go.Proofs.Ytmcdhdofgaoadaa
