/- CONTRACTS of lift.each and of the two closures of lift.Split that part the row. -/
import Derived.Test.YtmcdhdofgaoadaaLift1
import Derived.Deep.RegionLaw
namespace Go.Proofs.Ytmcdhdofgaoadaa
open Go.RowKit
set_option maxHeartbeats 1000000
set_option linter.unusedVariables false

theorem leach_any (F : FuncId) (caps : Array Value) (hF : ∀ (args : Array Value) (w : World), (callFunc F args).run Try.prog w = .ok (.enter F args) w)
    (A : Option Addr) (n c s : Nat) (w : World) (J : Nat → World → Prop) (hJ : J s w) (hs : s ≤ 1) (hn : n ≤ 1099511627776)
    (hdo : ∀ (k : Nat) (w1 : World), k < n → k % 2 = s → J k w1 → Hid (Calls Try.prog F (#[.int .i64 k] ++ caps) w1 fun e w2 => e = .returned (.tuple #[]) ∧ J (k + 2) w2)) :
    Calls Try.prog 42 #[.slice A n c, .int .i64 s, .func (.func F) #[] caps] w fun e w' => e = .returned (.tuple #[]) ∧ ∃ k, n ≤ k ∧ k ≤ n + 1 ∧ k % 2 = s ∧ J k w' := by
  go_enter Try.func42, Try.ntmps42
  go_wp2_with fail
  go_loopw [6] (fun i wr => ∃ k : Nat, k ≤ n + 1 ∧ k % 2 = s ∧ i = .int .i64 k ∧ J k wr) (fun i _ => n + 2 - (intOf i).toNat)
  case atStart => exact ⟨s, by omega, by omega, rfl, hJ⟩
  case round =>
    obtain ⟨k, hk, hp, rfl, hj⟩ := hrel
    by_cases hlt : k < n
    · have H := hdo k wr hlt hp hj
      clear hdo hJ hj
      go_wp2_with fail
      refine H.out.mono ?_
      rintro e w2 ⟨rfl, hj2⟩
      clear H
      go_wp2
      go_roundw
      case rel => exact ⟨k + 2, by omega, by omega, by go_num, hj2⟩
      case measure => simp [intOf]; omega
    · clear hdo hJ
      go_wp2_with fail
      go_end0
      exact ⟨rfl, k, by omega, hk, hp, hj⟩

theorem split3_any (k p g n c base pp m d : Nat) (A : Option Addr) (f h : Nat → Int) (w : World) (hr : Row w base p g n c f) (hk : k < n)
    (hx : Box w pp 24 (.slice A m d)) (ho : OwnI w base 3 (.slice A m d) m h) (hm : m ≤ 1099511627775) (hh : h m = f k) (hs : Sep (.slice A m d) (.slice (some ⟨g, 0, none⟩) n c)) (hpp : pp ≠ p) (hb1 : base ≤ p) (hb2 : base ≤ pp) (hbase : base ≤ w.heap.size) :
    Calls Try.prog 46 #[.int .i64 k, .pointer (some ⟨pp, 0, none⟩), .pointer (some ⟨p, 0, none⟩)] w fun e w' => e = .returned (.tuple #[]) ∧ ∃ (A' : Option Addr) (d' : Nat),
      Row w' base p g n c f ∧ Box w' pp 24 (.slice A' (m + 1) d') ∧ OwnI w' base 3 (.slice A' (m + 1) d') (m + 1) h ∧ Sep (.slice A' (m + 1) d') (.slice (some ⟨g, 0, none⟩) n c) ∧ Below base w w' := by
  have hc := hr.box.cell
  have hc1 := hr.own.cell hk
  have hc2 := hx.cell
  have hfx := hx.free
  have hca := fun o => (World.cell?_alloc_lt w o ⟨p, 0, none⟩ hr.box.lt).trans hc
  have hc1a := fun o => (World.cell?_alloc_lt w o ⟨g, k, none⟩ (hr.own.lt g rfl).2).trans hc1
  have hc2a := fun o => (World.cell?_alloc_lt w o ⟨pp, 0, none⟩ hx.lt).trans hc2
  go_enter Try.func46, Try.ntmps46
  go_wp2_with fail
  go_region_law (refine step_app1 w (by repeat (first | exact Below.refl _ _ | apply Below.drew | refine Below.alloc ?_ (by simp) _)) (by rfl) _ _ 24 (by rfl) 3 int_info Try.underlying24 base A m d h (by rfl) ho w.heap.size (by rfl) ?_ (by omega) (by omega) ?_; simp [hh]; intro g1 cap1 w2 o1 st1 lt1; have x1 := st1.box _ _ _ hx (hx.ne_own ho (by decide)); have x1c := x1.cell; have x1f := x1.free)
  all_goals
    have hne1 : g1 ≠ pp := fun e => x1.ne_own o1 (by decide) (by rw [e]; rfl)
    have hne2 : g ≠ pp := fun e => hx.ne_own hr.own (by decide) (by rw [e]; rfl)
    go_end0
    refine ⟨rfl, some ⟨g1, 0, none⟩, cap1, ⟨?_, ?_⟩, x1.set_ _, ?_, ?_, ?_⟩
    · exact (st1.box _ _ _ hr.box (hr.box.ne_own ho (by decide))).other (fun e => hpp e.symm) _
    · exact (st1.keep _ _ _ _ hr.own hs).other (fun e => hne2 (by injection e)) _
    · exact o1.other (fun e => hne1 (by injection e)) _
    · exact st1.sep _ _ _ _ hr.own hs
    · exact st1.below.setCell hb2 _

theorem split4_any (k p g n c base pp m d : Nat) (A : Option Addr) (f h : Nat → Int) (w : World) (hr : Row w base p g n c f) (hk : k < n)
    (hx : Box w pp 24 (.slice A m d)) (ho : OwnI w base 3 (.slice A m d) m h) (hm : m ≤ 1099511627775) (hh : h m = f k) (hs : Sep (.slice A m d) (.slice (some ⟨g, 0, none⟩) n c)) (hpp : pp ≠ p) (hb1 : base ≤ p) (hb2 : base ≤ pp) (hbase : base ≤ w.heap.size) :
    Calls Try.prog 47 #[.int .i64 k, .pointer (some ⟨pp, 0, none⟩), .pointer (some ⟨p, 0, none⟩)] w fun e w' => e = .returned (.tuple #[]) ∧ ∃ (A' : Option Addr) (d' : Nat),
      Row w' base p g n c f ∧ Box w' pp 24 (.slice A' (m + 1) d') ∧ OwnI w' base 3 (.slice A' (m + 1) d') (m + 1) h ∧ Sep (.slice A' (m + 1) d') (.slice (some ⟨g, 0, none⟩) n c) ∧ Below base w w' := by
  have hc := hr.box.cell
  have hc1 := hr.own.cell hk
  have hc2 := hx.cell
  have hfx := hx.free
  have hca := fun o => (World.cell?_alloc_lt w o ⟨p, 0, none⟩ hr.box.lt).trans hc
  have hc1a := fun o => (World.cell?_alloc_lt w o ⟨g, k, none⟩ (hr.own.lt g rfl).2).trans hc1
  have hc2a := fun o => (World.cell?_alloc_lt w o ⟨pp, 0, none⟩ hx.lt).trans hc2
  go_enter Try.func47, Try.ntmps47
  go_wp2_with fail
  go_region_law (refine step_app1 w (by repeat (first | exact Below.refl _ _ | apply Below.drew | refine Below.alloc ?_ (by simp) _)) (by rfl) _ _ 24 (by rfl) 3 int_info Try.underlying24 base A m d h (by rfl) ho w.heap.size (by rfl) ?_ (by omega) (by omega) ?_; simp [hh]; intro g1 cap1 w2 o1 st1 lt1; have x1 := st1.box _ _ _ hx (hx.ne_own ho (by decide)); have x1c := x1.cell; have x1f := x1.free)
  all_goals
    have hne1 : g1 ≠ pp := fun e => x1.ne_own o1 (by decide) (by rw [e]; rfl)
    have hne2 : g ≠ pp := fun e => hx.ne_own hr.own (by decide) (by rw [e]; rfl)
    go_end0
    refine ⟨rfl, some ⟨g1, 0, none⟩, cap1, ⟨?_, ?_⟩, x1.set_ _, ?_, ?_, ?_⟩
    · exact (st1.box _ _ _ hr.box (hr.box.ne_own ho (by decide))).other (fun e => hpp e.symm) _
    · exact (st1.keep _ _ _ _ hr.own hs).other (fun e => hne2 (by injection e)) _
    · exact o1.other (fun e => hne1 (by injection e)) _
    · exact st1.sep _ _ _ _ hr.own hs
    · exact st1.below.setCell hb2 _
end Go.Proofs.Ytmcdhdofgaoadaa
