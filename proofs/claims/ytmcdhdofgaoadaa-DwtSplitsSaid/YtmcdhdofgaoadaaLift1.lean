/- CONTRACTS of package lift: mirror, beside, each, Split, Join. -/
import Derived.Test.YtmcdhdofgaoadaaLiftLaw
import Derived.Test.YtmcdhdofgaoadaaRow9
import Derived.Deep.RegionHeld3
import Derived.Deep.RegionWith
namespace Go.Proofs.Ytmcdhdofgaoadaa
open Go.RowKit
set_option maxHeartbeats 1000000
set_option linter.unusedVariables false

theorem mirror_lft (n k : Nat) (hk : k < n) (hn : n ≤ 1099511627776) (w : World) :
    Calls Try.prog 53 #[.int .i64 ((k : Int) - 1), .int .i64 n] w fun e w' => e = .returned (.int .i64 (lft k)) ∧ w' = w := by
  by_cases c : k = 0
  · have e : ((lft k : Nat) : Int) = -((k : Int) - 1) := by unfold lft; rw [if_pos c]; omega
    rw [e]
    clear e
    have c' : (k : Int) - 1 < 0 := by omega
    clear c
    go_enter Try.func53, Try.ntmps53
    go_wp2
    go_ret
    exact ⟨rfl, rfl⟩
  · have e : ((lft k : Nat) : Int) = (k : Int) - 1 := by unfold lft; rw [if_neg c]; omega
    rw [e]
    clear e
    go_enter Try.func53, Try.ntmps53
    go_wp2
    go_ret
    exact ⟨rfl, rfl⟩
theorem mirror_rgt (n k : Nat) (hk : k < n) (h2 : 2 ≤ n) (hn : n ≤ 1099511627776) (w : World) :
    Calls Try.prog 53 #[.int .i64 ((k : Int) + 1), .int .i64 n] w fun e w' => e = .returned (.int .i64 (rgt n k)) ∧ w' = w := by
  by_cases c : k + 1 = n
  · have e : ((rgt n k : Nat) : Int) = 2 * ((n : Int) - 1) - ((k : Int) + 1) := by unfold rgt; rw [if_pos c]; omega
    rw [e]
    clear e
    have c' : (n : Int) ≤ (k : Int) + 1 := by omega
    clear c
    go_enter Try.func53, Try.ntmps53
    go_wp2
    go_ret
    exact ⟨rfl, rfl⟩
  · have e : ((rgt n k : Nat) : Int) = (k : Int) + 1 := by unfold rgt; rw [if_neg c]; omega
    rw [e]
    clear e
    have c' : (k : Int) + 1 < n := by omega
    clear c
    go_enter Try.func53, Try.ntmps53
    go_wp2
    go_ret
    exact ⟨rfl, rfl⟩

theorem beside_any (A : Option Addr) (n c k : Nat) (f : Nat → Int) (w : World) (B : Nat) (ha : IntsAt w B A n f) (hk : k < n) (h2 : 2 ≤ n) (hn : n ≤ 1099511627776) (hb : Within n 1152921504606846976 f) :
    Calls Try.prog 44 #[.slice A n c, .int .i64 k] w fun e w' => e = .returned (.int .i64 (besF n f k)) ∧ ∃ q, w' = w.drewN q := by
  obtain ⟨b, off, rfl⟩ := ha.some_ (by omega)
  have c1 := ha.cells (lft_lt h2 hk)
  have c2 := ha.cells (rgt_lt h2 hk)
  have b1 := hb _ (lft_lt h2 hk)
  have b2 := hb _ (rgt_lt h2 hk)
  have l1 := lft_lt h2 hk
  have l2 := rgt_lt h2 hk
  have s1 : IntKind.i64.wrap ((k : Int) - 1) = (k : Int) - 1 := IntWalk.i64_in _ (by omega)
  have s2 : IntKind.i64.wrap ((k : Int) + 1) = (k : Int) + 1 := IntWalk.i64_in _ (by omega)
  show Calls _ _ _ _ (fun e w' => e = .returned (.int .i64 (f (lft k) + f (rgt n k))) ∧ ∃ q, w' = w.drewN q)
  clear hb ha
  go_enter Try.func44, Try.ntmps44
  go_wp2_with fail
  go_quiet ((first | (go_at_call 53; first | (with_reducible exact Calls.quiet_of_same (mirror_lft n k hk hn _)) | (with_reducible exact Calls.quiet_of_same (mirror_rgt n k hk h2 hn _)))))
  go_wp2
  go_ret
  exact ⟨rfl, _, rfl⟩

/-- what stands for the row 'out' of Split and Join: its box at p, its numbers in block g -/
structure Row (w : World) (base p g n c : Nat) (f : Nat → Int) : Prop where
  box : Box w p 24 (.slice (some ⟨g, 0, none⟩) n c)
  own : OwnI w base 3 (.slice (some ⟨g, 0, none⟩) n c) n f

theorem Row.put {w : World} {base p g n c : Nat} {f : Nat → Int} (h : Row w base p g n c f) (q k : Nat) (u : Int) :
    Row ((w.drewN q).setCell ⟨g, k, none⟩ (.int .i64 u)) base p g n c (fun j => if j = k then u else f j) ∧ w.grownBy ((w.drewN q).setCell ⟨g, k, none⟩ (.int .i64 u)) (some g) := by
  have hne : g ≠ p := fun e => h.box.ne_own h.own (by decide) (by rw [e]; rfl)
  refine ⟨⟨(h.box.drewN q).other (a := ⟨g, k, none⟩) (fun e => hne e.symm) _, (h.own.drewN q).stored k u⟩, ?_⟩
  have hg := (h.own.drewN q).stored_grown k u
  exact ⟨hg.os, hg.tape, hg.output, hg.size, hg.block⟩

theorem split1_any (k p g n c base : Nat) (f : Nat → Int) (w : World) (h : Row w base p g n c f) (hk : k < n) (h2 : 2 ≤ n) (hn : n ≤ 1099511627776) (hb : Within n 1152921504606846976 f) :
    Calls Try.prog 43 #[.int .i64 k, .pointer (some ⟨p, 0, none⟩)] w fun e w' => e = .returned (.tuple #[]) ∧ Row w' base p g n c (fun j => if j = k then f k - besF n f k / 2 else f j) ∧ w.grownBy w' (some g) := by
  have hc := h.box.cell
  have hc1 := h.own.cell hk
  have hfr := h.own.frozen k
  have b1 := hb k hk
  have b2 := besF_bd h2 hk hb
  have s1 : IntKind.i64.wrap (f k - besF n f k / 2) = f k - besF n f k / 2 := IntWalk.i64_in _ (by omega)
  go_enter Try.func43, Try.ntmps43
  go_wp2_with fail
  go_region_with (go_at_call 44; refine (beside_any _ n c k f _ w.heap.size (by exact h.own.ints) hk h2 hn hb).mono ?_; rintro e w1 ⟨rfl, q, rfl⟩)
  all_goals
    go_end0
    exact ⟨rfl, h.put _ k _⟩

theorem split2_any (k p g n c base : Nat) (f : Nat → Int) (w : World) (h : Row w base p g n c f) (hk : k < n) (h2 : 2 ≤ n) (hn : n ≤ 1099511627776) (hb : Within n 1152921504606846976 f) :
    Calls Try.prog 45 #[.int .i64 k, .pointer (some ⟨p, 0, none⟩)] w fun e w' => e = .returned (.tuple #[]) ∧ Row w' base p g n c (fun j => if j = k then f k + (besF n f k + 2) / 4 else f j) ∧ w.grownBy w' (some g) := by
  have hc := h.box.cell
  have hc1 := h.own.cell hk
  have hfr := h.own.frozen k
  have b1 := hb k hk
  have b2 := besF_bd h2 hk hb
  have s0 : IntKind.i64.wrap (besF n f k + 2) = besF n f k + 2 := IntWalk.i64_in _ (by omega)
  have s1 : IntKind.i64.wrap (f k + (besF n f k + 2) / 4) = f k + (besF n f k + 2) / 4 := IntWalk.i64_in _ (by omega)
  go_enter Try.func45, Try.ntmps45
  go_wp2_with fail
  go_region_with (go_at_call 44; refine (beside_any _ n c k f _ w.heap.size (by exact h.own.ints) hk h2 hn hb).mono ?_; rintro e w1 ⟨rfl, q, rfl⟩)
  all_goals
    go_end0
    exact ⟨rfl, h.put _ k _⟩

theorem join2_any (k p g n c base : Nat) (f : Nat → Int) (w : World) (h : Row w base p g n c f) (hk : k < n) (h2 : 2 ≤ n) (hn : n ≤ 1099511627776) (hb : Within n 1152921504606846976 f) :
    Calls Try.prog 51 #[.int .i64 k, .pointer (some ⟨p, 0, none⟩)] w fun e w' => e = .returned (.tuple #[]) ∧ Row w' base p g n c (fun j => if j = k then f k - (besF n f k + 2) / 4 else f j) ∧ w.grownBy w' (some g) := by
  have hc := h.box.cell
  have hc1 := h.own.cell hk
  have hfr := h.own.frozen k
  have b1 := hb k hk
  have b2 := besF_bd h2 hk hb
  have s0 : IntKind.i64.wrap (besF n f k + 2) = besF n f k + 2 := IntWalk.i64_in _ (by omega)
  have s1 : IntKind.i64.wrap (f k - (besF n f k + 2) / 4) = f k - (besF n f k + 2) / 4 := IntWalk.i64_in _ (by omega)
  go_enter Try.func51, Try.ntmps51
  go_wp2_with fail
  go_region_with (go_at_call 44; refine (beside_any _ n c k f _ w.heap.size (by exact h.own.ints) hk h2 hn hb).mono ?_; rintro e w1 ⟨rfl, q, rfl⟩)
  all_goals
    go_end0
    exact ⟨rfl, h.put _ k _⟩

theorem join3_any (k p g n c base : Nat) (f : Nat → Int) (w : World) (h : Row w base p g n c f) (hk : k < n) (h2 : 2 ≤ n) (hn : n ≤ 1099511627776) (hb : Within n 1152921504606846976 f) :
    Calls Try.prog 52 #[.int .i64 k, .pointer (some ⟨p, 0, none⟩)] w fun e w' => e = .returned (.tuple #[]) ∧ Row w' base p g n c (fun j => if j = k then f k + besF n f k / 2 else f j) ∧ w.grownBy w' (some g) := by
  have hc := h.box.cell
  have hc1 := h.own.cell hk
  have hfr := h.own.frozen k
  have b1 := hb k hk
  have b2 := besF_bd h2 hk hb
  have s1 : IntKind.i64.wrap (f k + besF n f k / 2) = f k + besF n f k / 2 := IntWalk.i64_in _ (by omega)
  go_enter Try.func52, Try.ntmps52
  go_wp2_with fail
  go_region_with (go_at_call 44; refine (beside_any _ n c k f _ w.heap.size (by exact h.own.ints) hk h2 hn hb).mono ?_; rintro e w1 ⟨rfl, q, rfl⟩)
  all_goals
    go_end0
    exact ⟨rfl, h.put _ k _⟩

end Go.Proofs.Ytmcdhdofgaoadaa
