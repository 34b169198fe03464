/- CONTRACT of the closure 'next' of lift.Join. -/
import Derived.Test.YtmcdhdofgaoadaaLift4
namespace Go.Proofs.Ytmcdhdofgaoadaa
open Go.RowKit
set_option maxHeartbeats 2000000
set_option linter.unusedVariables false

/-- what stands while Join fills the row: m numbers are read -/
structure Joining (w : World) (base pv q p g n c cv m : Nat) (V : Option Addr) (vF h : Nat → Int) : Prop where
  v : Box w pv 24 (.slice V n cv)
  k : Box w q 3 (.int .i64 m)
  row : Row w base p g n c h
  at_ : IntsAt w base V n vF

theorem next_any (k pv q p g n c cv m base : Nat) (V : Option Addr) (vF h : Nat → Int) (w : World) (H : Joining w base pv q p g n c cv m V vF h) (hk : k < n) (hm : m < n) (hn : n ≤ 1099511627776) (h1 : q ≠ p) (h2 : q ≠ pv) (h3 : q ≠ g) (hg : base ≤ g) (hq : base ≤ q) :
    Calls Try.prog 50 #[.int .i64 k, .pointer (some ⟨pv, 0, none⟩), .pointer (some ⟨q, 0, none⟩), .pointer (some ⟨p, 0, none⟩)] w fun e w' => e = .returned (.tuple #[]) ∧ Joining w' base pv q p g n c cv (m + 1) V vF (fun j => if j = k then vF m else h j) ∧ Below base w w' := by
  have hpv : g ≠ pv := fun e => H.v.ne_own H.row.own (by decide) (by rw [e]; rfl)
  have hpg : g ≠ p := fun e => H.row.box.ne_own H.row.own (by decide) (by rw [e]; rfl)
  obtain ⟨b, off, rfl⟩ := H.at_.some_ (by omega)
  have c1 := H.v.cell
  have c2 := H.k.cell
  have c3 := H.row.box.cell
  have c4 := H.at_.cells hm
  have c5 := H.row.own.frozen k
  have c6 := H.k.free
  have c7 := H.row.own.cell hk
  have x1 := fun u => (H.k.other (a := ⟨g, k, none⟩) h3 u)
  have x2 := fun u => (x1 u).cell
  have x3 := fun u => (x1 u).free
  have hgl := (H.row.own.lt g rfl).1
  go_enter Try.func50, Try.ntmps50
  go_wp2_with fail
  go_region
  go_wp2_with fail
  go_end0
  refine ⟨rfl, ⟨?_, ?_, ⟨?_, ?_⟩, ?_⟩, ?_⟩
  · exact (H.v.other (a := ⟨g, k, none⟩) (fun e => hpv e.symm) _).other (a := ⟨q, 0, none⟩) (fun e => h2 e.symm) _
  · have := (x1 (.int .i64 (vF m))).set_ (.int .i64 ((m : Int) + 1))
    exact this
  · exact (H.row.box.other (a := ⟨g, k, none⟩) (fun e => hpg e.symm) _).other (a := ⟨q, 0, none⟩) (fun e => h1 e.symm) _
  · exact (H.row.own.stored k (vF m)).other (a := ⟨q, 0, none⟩) (fun e => h3 (by injection e with e; exact e.symm)) _
  · exact H.at_.below (((Below.refl base w).setCell (p := ⟨g, k, none⟩) hgl _).setCell (p := ⟨q, 0, none⟩) hq _).drew
  · exact (((Below.refl base w).setCell (p := ⟨g, k, none⟩) hgl _).setCell (p := ⟨q, 0, none⟩) hq _).drew

theorem hG1 (args : Array Value) (w : World) : (callFunc 50 args).run Try.prog w = .ok (.enter 50 args) w := by kernel_rfl
theorem hG2 (args : Array Value) (w : World) : (callFunc 51 args).run Try.prog w = .ok (.enter 51 args) w := by kernel_rfl
theorem hG3 (args : Array Value) (w : World) : (callFunc 52 args).run Try.prog w = .ok (.enter 52 args) w := by kernel_rfl

/-- which places are filled: of the even ones those below m, of the odd ones those below l -/
def fillF (n o : Nat) (v : Nat → Int) (m l j : Nat) : Int := if j % 2 = o then (if j < m then v (home n o j) else 0) else (if j < l then v (home n o j) else 0)

theorem jstep1 {base pv q p g n c cv o : Nat} {V : Option Addr} {vF : Nat → Int} {W : World} (ho : o ≤ 1) (hn : n ≤ 1099511627775) (h1 : q ≠ p) (h2 : q ≠ pv) (h3 : q ≠ g) (hg : base ≤ g) (hq : base ≤ q) :
    ∀ (k : Nat) (w1 : World), k < n → k % 2 = o → (Joining w1 base pv q p g n c cv (low k o) V vF (fillF n o vF k 0) ∧ Below base W w1) →
      Hid (Calls Try.prog 50 (#[.int .i64 k] ++ #[.pointer (some ⟨pv, 0, none⟩), .pointer (some ⟨q, 0, none⟩), .pointer (some ⟨p, 0, none⟩)]) w1 fun e w2 => e = .returned (.tuple #[]) ∧ (Joining w2 base pv q p g n c cv (low (k + 2) o) V vF (fillF n o vF (k + 2) 0) ∧ Below base W w2)) := by
  intro k w1 hk hp ⟨H, hbel⟩
  have e1 : low (k + 2) o = low k o + 1 := by unfold low; omega
  have e2 : low k o < n := by unfold low; omega
  rw [e1]
  refine Lib.hid ((next_any k pv q p g n c cv (low k o) base V vF _ w1 H hk e2 (by omega) h1 h2 h3 hg hq).mono fun e w2 ⟨he, J, hb⟩ => ⟨he, ⟨J.v, J.k, ⟨J.row.box, J.row.own.congr fun j hj => ?_⟩, J.at_⟩, hbel.trans hb⟩)
  unfold fillF
  by_cases c : j = k
  · subst c
    rw [if_pos rfl, if_pos hp, if_pos (by omega)]
    congr 1; unfold home low; rw [if_pos hp]; omega
  · rw [if_neg c]
    by_cases c2 : j % 2 = o
    · rw [if_pos c2, if_pos c2]
      by_cases c3 : j < k
      · rw [if_pos c3, if_pos (by omega)]
      · rw [if_neg c3, if_neg (by omega)]
    · rw [if_neg c2, if_neg c2]
theorem jstep2 {base pv q p g n c cv o : Nat} {V : Option Addr} {vF : Nat → Int} {W : World} (ho : o ≤ 1) (hn : n ≤ 1099511627775) (h1 : q ≠ p) (h2 : q ≠ pv) (h3 : q ≠ g) (hg : base ≤ g) (hq : base ≤ q) :
    ∀ (k : Nat) (w1 : World), k < n → k % 2 = 1 - o → (Joining w1 base pv q p g n c cv (low n o + low k (1 - o)) V vF (fillF n o vF n k) ∧ Below base W w1) →
      Hid (Calls Try.prog 50 (#[.int .i64 k] ++ #[.pointer (some ⟨pv, 0, none⟩), .pointer (some ⟨q, 0, none⟩), .pointer (some ⟨p, 0, none⟩)]) w1 fun e w2 => e = .returned (.tuple #[]) ∧ (Joining w2 base pv q p g n c cv (low n o + low (k + 2) (1 - o)) V vF (fillF n o vF n (k + 2)) ∧ Below base W w2)) := by
  intro k w1 hk hp ⟨H, hbel⟩
  have e1 : low n o + low (k + 2) (1 - o) = low n o + low k (1 - o) + 1 := by unfold low; omega
  have e2 : low n o + low k (1 - o) < n := by unfold low; omega
  rw [e1]
  refine Lib.hid ((next_any k pv q p g n c cv (low n o + low k (1 - o)) base V vF _ w1 H hk e2 (by omega) h1 h2 h3 hg hq).mono fun e w2 ⟨he, J, hb⟩ => ⟨he, ⟨J.v, J.k, ⟨J.row.box, J.row.own.congr fun j hj => ?_⟩, J.at_⟩, hbel.trans hb⟩)
  unfold fillF
  by_cases c : j = k
  · subst c
    rw [if_pos rfl, if_neg (by omega), if_pos (by omega)]
    congr 1; unfold home low; rw [if_neg (by omega)]; omega
  · rw [if_neg c]
    by_cases c2 : j % 2 = o
    · rw [if_pos c2, if_pos c2]
    · rw [if_neg c2, if_neg c2]
      by_cases c3 : j < k
      · rw [if_pos c3, if_pos (by omega)]
      · rw [if_neg c3, if_neg (by omega)]
theorem jstep3 {base p g n c o : Nat} {f : Nat → Int} {W : World} (h2 : 2 ≤ n) (ho : o ≤ 1) (hn : n ≤ 1099511627776) (hb : Within n 288230376151711744 f) (hg : base ≤ g) :
    ∀ (k : Nat) (w1 : World), k < n → k % 2 = o → (Row w1 base p g n c (drop2 n o f k) ∧ Below base W w1) →
      Hid (Calls Try.prog 51 (#[.int .i64 k] ++ #[.pointer (some ⟨p, 0, none⟩)]) w1 fun e w2 => e = .returned (.tuple #[]) ∧ (Row w2 base p g n c (drop2 n o f (k + 2)) ∧ Below base W w2)) := by
  intro k w1 hk hp ⟨hr, hbel⟩
  refine Lib.hid ((join2_any k p g n c base _ w1 hr hk h2 hn (fun j hj => by have := drop2_bd (o := o) (m := k) h2 hb j hj; omega)).mono fun e w2 ⟨he, hr2, hgr⟩ => ⟨he, ⟨hr2.box, hr2.own.congr fun j hj => ?_⟩, hbel.grown hgr (Nat.le_trans (Nat.le_of_lt (Nat.lt_of_le_of_lt hg (hr.own.lt g rfl).2)) (Nat.le_refl _)) fun j hj => by cases hj; exact hg⟩)
  exact drop2_step h2 hk ho (by omega) j hj
theorem jstep4 {base p g n c o : Nat} {f : Nat → Int} {W : World} (h2 : 2 ≤ n) (ho : o ≤ 1) (hn : n ≤ 1099511627776) (hb : Within n 288230376151711744 f) (hg : base ≤ g) :
    ∀ (k : Nat) (w1 : World), k < n → k % 2 = 1 - o → (Row w1 base p g n c (drop1 n o f k) ∧ Below base W w1) →
      Hid (Calls Try.prog 52 (#[.int .i64 k] ++ #[.pointer (some ⟨p, 0, none⟩)]) w1 fun e w2 => e = .returned (.tuple #[]) ∧ (Row w2 base p g n c (drop1 n o f (k + 2)) ∧ Below base W w2)) := by
  intro k w1 hk hp ⟨hr, hbel⟩
  refine Lib.hid ((join3_any k p g n c base _ w1 hr hk h2 hn (fun j hj => by have := drop1_bd (o := o) (m := k) h2 hb j hj; omega)).mono fun e w2 ⟨he, hr2, hgr⟩ => ⟨he, ⟨hr2.box, hr2.own.congr fun j hj => ?_⟩, hbel.grown hgr (Nat.le_trans (Nat.le_of_lt (Nat.lt_of_le_of_lt hg (hr.own.lt g rfl).2)) (Nat.le_refl _)) fun j hj => by cases hj; exact hg⟩)
  exact drop1_step h2 hk ho (by omega) j hj
end Go.Proofs.Ytmcdhdofgaoadaa
