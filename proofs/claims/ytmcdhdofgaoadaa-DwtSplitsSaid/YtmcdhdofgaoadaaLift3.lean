/- CONTRACT of lift.Split: a row split, lower ones first, in new memory. Conditions: at is not negative; the numbers are small enough not to wrap. -/
import Derived.Test.YtmcdhdofgaoadaaLift2
import Derived.Test.YtmcdhdofgaoadaaMem2
namespace Go.Proofs.Ytmcdhdofgaoadaa
open Go.RowKit
set_option maxHeartbeats 2000000
set_option linter.unusedVariables false

theorem hF1 (args : Array Value) (w : World) : (callFunc 43 args).run Try.prog w = .ok (.enter 43 args) w := by kernel_rfl
theorem hF2 (args : Array Value) (w : World) : (callFunc 45 args).run Try.prog w = .ok (.enter 45 args) w := by kernel_rfl
theorem hF3 (args : Array Value) (w : World) : (callFunc 46 args).run Try.prog w = .ok (.enter 46 args) w := by kernel_rfl
theorem hF4 (args : Array Value) (w : World) : (callFunc 47 args).run Try.prog w = .ok (.enter 47 args) w := by kernel_rfl

/-- the steps of Split as 'each' takes them -/
theorem step1 {base p g n c o : Nat} {f : Nat → Int} {W : World} (h2 : 2 ≤ n) (ho : o ≤ 1) (hn : n ≤ 1099511627776) (hb : Within n 288230376151711744 f) (hg : base ≤ g) :
    ∀ (k : Nat) (w1 : World), k < n → k % 2 = 1 - o → (Row w1 base p g n c (lift1 n o f k) ∧ Below base W w1) →
      Hid (Calls Try.prog 43 (#[.int .i64 k] ++ #[.pointer (some ⟨p, 0, none⟩)]) w1 fun e w2 => e = .returned (.tuple #[]) ∧ (Row w2 base p g n c (lift1 n o f (k + 2)) ∧ Below base W w2)) := by
  intro k w1 hk hp ⟨hr, hbel⟩
  refine Lib.hid ((split1_any k p g n c base _ w1 hr hk h2 hn (fun j hj => by have := lift1_bd (o := o) (m := k) h2 hb j hj; omega)).mono fun e w2 ⟨he, hr2, hgr⟩ => ⟨he, ⟨hr2.box, hr2.own.congr fun j hj => ?_⟩, hbel.grown hgr (Nat.le_trans (Nat.le_of_lt (Nat.lt_of_le_of_lt hg (hr.own.lt g rfl).2)) (Nat.le_refl _)) fun j hj => by cases hj; exact hg⟩)
  exact lift1_step h2 hk ho (by omega) j hj
theorem step2 {base p g n c o : Nat} {f : Nat → Int} {W : World} (h2 : 2 ≤ n) (ho : o ≤ 1) (hn : n ≤ 1099511627776) (hb : Within n 288230376151711744 f) (hg : base ≤ g) :
    ∀ (k : Nat) (w1 : World), k < n → k % 2 = o → (Row w1 base p g n c (lift2 n o f k) ∧ Below base W w1) →
      Hid (Calls Try.prog 45 (#[.int .i64 k] ++ #[.pointer (some ⟨p, 0, none⟩)]) w1 fun e w2 => e = .returned (.tuple #[]) ∧ (Row w2 base p g n c (lift2 n o f (k + 2)) ∧ Below base W w2)) := by
  intro k w1 hk hp ⟨hr, hbel⟩
  refine Lib.hid ((split2_any k p g n c base _ w1 hr hk h2 hn (fun j hj => by have := lift2_bd (o := o) (m := k) h2 hb j hj; omega)).mono fun e w2 ⟨he, hr2, hgr⟩ => ⟨he, ⟨hr2.box, hr2.own.congr fun j hj => ?_⟩, hbel.grown hgr (Nat.le_trans (Nat.le_of_lt (Nat.lt_of_le_of_lt hg (hr.own.lt g rfl).2)) (Nat.le_refl _)) fun j hj => by cases hj; exact hg⟩)
  exact lift2_step h2 hk ho (by omega) j hj

/-- what parts the row: m numbers of h lie in the parted row already -/
def Parting (w : World) (base p g n c pp m : Nat) (f h : Nat → Int) : Prop :=
  Row w base p g n c f ∧ ∃ (A : Option Addr) (d : Nat), Box w pp 24 (.slice A m d) ∧ OwnI w base 3 (.slice A m d) m h ∧ Sep (.slice A m d) (.slice (some ⟨g, 0, none⟩) n c)

theorem step3 {base p g n c o pp : Nat} {f h : Nat → Int} {W : World} (ho : o ≤ 1) (hn : n ≤ 1099511627775) (hpp : pp ≠ p) (hb1 : base ≤ p) (hb2 : base ≤ pp) (hh : ∀ k, k < n → k % 2 = o → h (low k o) = f k) :
    ∀ (k : Nat) (w1 : World), k < n → k % 2 = o → (Parting w1 base p g n c pp (low k o) f h ∧ Below base W w1) →
      Hid (Calls Try.prog 46 (#[.int .i64 k] ++ #[.pointer (some ⟨pp, 0, none⟩), .pointer (some ⟨p, 0, none⟩)]) w1 fun e w2 => e = .returned (.tuple #[]) ∧ (Parting w2 base p g n c pp (low (k + 2) o) f h ∧ Below base W w2)) := by
  intro k w1 hk hp ⟨⟨hr, A, d, hx, hw, hs⟩, hbel⟩
  have e1 : low (k + 2) o = low k o + 1 := by unfold low; omega
  have e2 : low k o ≤ n := by unfold low; omega
  rw [e1]
  exact Lib.hid ((split3_any k p g n c base pp (low k o) d A f h w1 hr hk hx hw (by omega) (hh k hk hp) hs hpp hb1 hb2 (Nat.le_trans hb1 (Nat.le_of_lt hr.box.lt))).mono fun e w2 ⟨he, A', d', h1, h2, h3, h4, h5⟩ => ⟨he, ⟨h1, A', d', h2, h3, h4⟩, hbel.trans h5⟩)
theorem step4 {base p g n c o pp : Nat} {f h : Nat → Int} {W : World} (ho : o ≤ 1) (hn : n ≤ 1099511627775) (hpp : pp ≠ p) (hb1 : base ≤ p) (hb2 : base ≤ pp) (hh : ∀ k, k < n → k % 2 = 1 - o → h (low n o + low k (1 - o)) = f k) :
    ∀ (k : Nat) (w1 : World), k < n → k % 2 = 1 - o → (Parting w1 base p g n c pp (low n o + low k (1 - o)) f h ∧ Below base W w1) →
      Hid (Calls Try.prog 47 (#[.int .i64 k] ++ #[.pointer (some ⟨pp, 0, none⟩), .pointer (some ⟨p, 0, none⟩)]) w1 fun e w2 => e = .returned (.tuple #[]) ∧ (Parting w2 base p g n c pp (low n o + low (k + 2) (1 - o)) f h ∧ Below base W w2)) := by
  intro k w1 hk hp ⟨⟨hr, A, d, hx, hw, hs⟩, hbel⟩
  have e1 : low n o + low (k + 2) (1 - o) = low n o + low k (1 - o) + 1 := by unfold low; omega
  have e2 : low n o + low k (1 - o) ≤ n + 1 := by unfold low; omega
  rw [e1]
  exact Lib.hid ((split4_any k p g n c base pp (low n o + low k (1 - o)) d A f h w1 hr hk hx hw (by unfold low; omega) (hh k hk hp) hs hpp hb1 hb2 (Nat.le_trans hb1 (Nat.le_of_lt hr.box.lt))).mono fun e w2 ⟨he, A', d', h1, h2, h3, h4, h5⟩ => ⟨he, ⟨h1, A', d', h2, h3, h4⟩, hbel.trans h5⟩)

theorem split_many (a : Nat) (A : Option Addr) (n c : Nat) (f : Nat → Int) (w : World) (ha : IntsAt w w.heap.size A n f) (h2 : 2 ≤ n) (hn : n ≤ 1099511627775) (hb : Within n 72057594037927936 f) (hat : a ≤ 9223372036854775807) :
    Calls Try.prog 25 #[.int .i64 a, .slice A n c] w fun e w' => ∃ A' c', e = .returned (.slice A' n c') ∧ OwnI w' w.heap.size 3 (.slice A' n c') n (splitF n (a % 2) f) ∧ Below w.heap.size w w' := by
  have hbit := and_one a (by omega)
  obtain ⟨o, ho⟩ : ∃ o, o = a % 2 := ⟨_, rfl⟩
  have ho1 : o ≤ 1 := by omega
  rw [← ho] at hbit ⊢
  clear ho
  have t1 : ((n : Int) == 1) = false := by rw [beq_eq_false_iff_ne]; omega
  obtain ⟨base, hbase⟩ : ∃ base, base = w.heap.size := ⟨_, rfl⟩
  rw [← hbase]
  have HB := Lib.hid hbase
  clear hbase
  go_enter Try.func25, Try.ntmps25
  go_wp2_with (first
    | (at_builtin; refine wpList_app0 rfl _ _ 24 rfl 3 int_info Try.underlying24 base rfl w.heap.size A n c f rfl ha (by omega) (by rw [HB.out]; exact Nat.le_refl _) ?_; intro A1 c1 w1 o1 st1))
  obtain ⟨g, rfl⟩ := o1.row (by omega)
  have hg := (o1.lt g rfl).1
  have hs1 := st1.size
  have es : (1 : Int) - (o : Int) = ((1 - o : Nat) : Int) := by omega
  have r0 : Row (w1.alloc (.cells #[.slice (some ⟨g, 0, none⟩) n c1] 24)) base w1.heap.size g n c1 f := ⟨Box.new_ _ _ _, o1.alloc _⟩
  have hbw : base ≤ w.heap.size := by rw [HB.out]; exact Nat.le_refl _
  have b0 : Below base w (w1.alloc (.cells #[.slice (some ⟨g, 0, none⟩) n c1] 24)) := st1.alloc (by omega) _
  have hb2 : Within n 288230376151711744 f := fun k hk => by have := hb k hk; omega
  have hb3 : Within n 288230376151711744 (lift1 n o f n) := fun k hk => by have := lift1_bd (o := o) (m := n) h2 hb k hk; omega
  rw [es]
  refine (leach_any _ _ hF1 _ n c1 (1 - o) _ (fun k w' => Row w' base w1.heap.size g n c1 (lift1 n o f k) ∧ Below base w w') ⟨⟨r0.box, r0.own.congr fun k hk => by unfold lift1; rw [if_neg (by omega)]⟩, b0⟩ (by omega) (by omega) (step1 h2 ho1 (by omega) hb2 hg)).mono ?_
  rintro e w2 ⟨rfl, k2, hk2, _, _, r2, b2⟩
  replace r2 : Row w2 base w1.heap.size g n c1 (lift1 n o f n) := ⟨r2.box, r2.own.congr fun k hk => by
    unfold lift1
    by_cases c : k % 2 ≠ o
    · rw [if_pos ⟨c, by omega⟩, if_pos ⟨c, hk⟩]
    · rw [if_neg (by omega), if_neg (by omega)]⟩
  have x2 := r2.box.cell
  clear r0 b0 st1 o1
  go_wp2_with fail
  refine (leach_any _ _ hF2 _ n c1 o _ (fun k w' => Row w' base w1.heap.size g n c1 (lift2 n o (lift1 n o f n) k) ∧ Below base w w') ⟨⟨r2.box, r2.own.congr fun k hk => by unfold lift2; rw [if_neg (by omega)]⟩, b2⟩ (by omega) (by omega) (step2 h2 ho1 (by omega) hb3 hg)).mono ?_
  rintro e w3 ⟨rfl, k3, hk3, _, _, r3, b3⟩
  replace r3 : Row w3 base w1.heap.size g n c1 (lift2 n o (lift1 n o f n) n) := ⟨r3.box, r3.own.congr fun k hk => by
    show lift2 n o (lift1 n o f n) k3 k = _
    unfold lift2
    by_cases c : k % 2 = o
    · rw [if_pos ⟨c, by omega⟩, if_pos ⟨c, hk⟩]
    · rw [if_neg (by omega), if_neg (by omega)]⟩
  have x3 := r3.box.cell
  have hmk := fun u => run_make0 (P := Try.prog) 24 3 int_info Try.underlying24 .i64 .i64 n (by omega) u
  have hs3 := b3.size
  clear r2 b2 x2
  have p3 := (r3.own.lt g rfl).2
  have q3 := r3.box.lt
  go_wp2_with fail
  clear hmk
  have y0 : Box ((w3.alloc (.cells (madeCells #[.int .i64 0] n) 3)).alloc (.cells #[.slice (some ⟨w3.heap.size, 0, none⟩) 0 n] 24)) (w3.heap.size + 1) 24 (.slice (some ⟨w3.heap.size, 0, none⟩) 0 n) := by
    have := Box.new_ (w3.alloc (.cells (madeCells #[.int .i64 0] n) 3)) 24 (.slice (some ⟨w3.heap.size, 0, none⟩) 0 n)
    rwa [World.size_alloc] at this
  have s0 : Parting ((w3.alloc (.cells (madeCells #[.int .i64 0] n) 3)).alloc (.cells #[.slice (some ⟨w3.heap.size, 0, none⟩) 0 n] 24)) base w1.heap.size g n c1 (w3.heap.size + 1) 0 (lift2 n o (lift1 n o f n) n) (splitF n o f) :=
    ⟨⟨(r3.box.alloc _).alloc _, (r3.own.alloc _).alloc _⟩, some ⟨w3.heap.size, 0, none⟩, n, y0, (OwnI.made0 w3 base n _ _ (by omega) (by omega)).alloc _, fun k h1 h2 => by
      have e1 : w3.heap.size = k := by simpa [Value.ownBlock] using h1
      have e2 : g = k := by simpa [Value.ownBlock] using h2
      omega⟩
  have b4 : Below base w ((w3.alloc (.cells (madeCells #[.int .i64 0] n) 3)).alloc (.cells #[.slice (some ⟨w3.heap.size, 0, none⟩) 0 n] 24)) := (b3.alloc (by omega) _).alloc (by simp; omega) _
  clear y0
  refine (leach_any _ _ hF3 _ n c1 o _ (fun k w' => Parting w' base w1.heap.size g n c1 (w3.heap.size + 1) (low k o) (lift2 n o (lift1 n o f n) n) (splitF n o f) ∧ Below base w w') ⟨?_, b4⟩ (by omega) (by omega) (step3 ho1 (by omega) (by omega) (by omega) (by omega) ?_)).mono ?_
  · have : low o o = 0 := by unfold low; omega
    rw [this]; exact s0
  · intro k hk hp
    unfold splitF spot
    rw [if_neg (by omega), if_pos (by unfold low; omega)]
    congr 1
    unfold low; omega
  rintro e w4 ⟨rfl, k4, hk4, hl4, hp4, ⟨r4, A4, d4, x4, o4, s4⟩, b5⟩
  have e4 : low k4 o = low n o := by unfold low; omega
  rw [e4] at x4 o4 s4
  have x5 := r4.box.cell
  clear s0 b4 r3 x3 e4
  go_wp2_with fail
  refine (leach_any _ _ hF4 _ n c1 (1 - o) _ (fun k w' => Parting w' base w1.heap.size g n c1 (w3.heap.size + 1) (low n o + low k (1 - o)) (lift2 n o (lift1 n o f n) n) (splitF n o f) ∧ Below base w w') ⟨?_, b5⟩ (by omega) (by omega) (step4 ho1 (by omega) (by omega) (by omega) (by omega) ?_)).mono ?_
  · have : low n o + low (1 - o) (1 - o) = low n o := by unfold low; omega
    rw [this]; exact ⟨r4, A4, d4, x4, o4, s4⟩
  · intro k hk hp
    unfold splitF spot
    rw [if_neg (by omega), if_neg (by unfold low; omega)]
    congr 1
    unfold low; omega
  rintro e w5 ⟨rfl, k5, hk5, hl5, hp5, ⟨r5, A5, d5, x5', o5, s5⟩, b6⟩
  have e5 : low n o + low k5 (1 - o) = n := by unfold low; omega
  rw [e5] at x5' o5
  have x6 := x5'.cell
  clear r4 x4 o4 s4 x5 b5 e5
  go_wp2_with fail
  go_ret
  exact ⟨A5, d5, rfl, o5, by rw [HB.out]; rw [HB.out] at b6; exact b6⟩
end Go.Proofs.Ytmcdhdofgaoadaa
