/- CONTRACTS of package waveletref11: Turn, Back. -/
import Derived.Test.YtemkeohclmgefaaColor2
namespace Go.Proofs.Ytemkeohclmgefaa
open Go.RowKit
set_option maxHeartbeats 1000000
set_option linter.unusedVariables false

theorem rturn_any (A1 A2 A3 : Option Addr) (n c1 c2 c3 : Nat) (a b c : Nat → Int) (w : World) (h1 : IntsAt w w.heap.size A1 n a) (h2 : IntsAt w w.heap.size A2 n b) (h3 : IntsAt w w.heap.size A3 n c) (hn : n ≤ 1099511627776)
    (ba : ∀ k, k < n → -1099511627776 ≤ a k ∧ a k ≤ 1099511627776) (bb : ∀ k, k < n → -1099511627776 ≤ b k ∧ b k ≤ 1099511627776) (bc : ∀ k, k < n → -1099511627776 ≤ c k ∧ c k ≤ 1099511627776) :
    Calls Try.prog 17 #[.slice A1 n c1, .slice A2 n c2, .slice A3 n c3] w fun e w' => ∃ (B1 B2 B3 : Option Addr) (d1 d2 d3 : Nat), e = .returned (.tuple #[.slice B1 n d1, .slice B2 n d2, .slice B3 n d3]) ∧
      IntsAt w' w'.heap.size B1 n (turnY a b c) ∧ IntsAt w' w'.heap.size B2 n (turnD c b) ∧ IntsAt w' w'.heap.size B3 n (turnD a b) ∧ Below w.heap.size w w' := by
  go_enter Try.func17, Try.ntmps17
  go_wp2_with fail
  go_loopw [9, 10, 11, 12] (fun y u v i wr => ∃ (k : Nat) (X Y Z : Option Addr) (cx cy cz : Nat), k ≤ n ∧ i = .int .i64 k ∧ y = .slice X k cx ∧ u = .slice Y k cy ∧ v = .slice Z k cz ∧
      OwnI wr w.heap.size 3 (.slice X k cx) k (turnY a b c) ∧ OwnI wr w.heap.size 3 (.slice Y k cy) k (turnD c b) ∧ OwnI wr w.heap.size 3 (.slice Z k cz) k (turnD a b) ∧
      Sep (.slice X k cx) (.slice Y k cy) ∧ Sep (.slice X k cx) (.slice Z k cz) ∧ Sep (.slice Y k cy) (.slice Z k cz) ∧ Below w.heap.size w wr) (fun _ _ _ i _ => n - (intOf i).toNat)
  case atStart => exact ⟨0, none, none, none, 0, 0, 0, Nat.zero_le _, rfl, rfl, rfl, rfl, OwnI.nil_ _ _ _ _, OwnI.nil_ _ _ _ _, OwnI.nil_ _ _ _ _, Sep.nil_ _, Sep.nil_ _, Sep.nil_ _, Below.refl _ _⟩
  case round =>
    obtain ⟨k, X, Y, Z, cx, cy, cz, hk, rfl, rfl, rfl, rfl, oX, oY, oZ, sXY, sXZ, sYZ, hbel⟩ := hrel
    by_cases hlt : k < n
    · obtain ⟨b1, off1, rfl, hl1, hc1⟩ := (h1.below hbel).at_ hlt
      obtain ⟨b2, off2, rfl, hl2, hc2⟩ := (h2.below hbel).at_ hlt
      obtain ⟨b3, off3, rfl, hl3, hc3⟩ := (h3.below hbel).at_ hlt
      have xa := ba k hlt
      have xb := bb k hlt
      have xc := bc k hlt
      have hsz := hbel.size
      go_wp2_with fail
      go_region_held3 (fun w' => w'.cell? ⟨b1, off1 + k, none⟩ = some (.int .i64 (a k)) ∧ w'.cell? ⟨b2, off2 + k, none⟩ = some (.int .i64 (b k)) ∧ w'.cell? ⟨b3, off3 + k, none⟩ = some (.int .i64 (c k)))
        (first | go_keep | exact ⟨e1, e2, e3⟩)
        ((refine step_app1 wr (by repeat (first | exact Below.refl _ _ | apply Below.drew | refine Below.alloc ?_ (by simp) _)) (by rfl) _ _ 22 (by rfl) 3 int_info Try.underlying22 w.heap.size X k cx (turnY a b c) (by rfl) oX wr.heap.size (by rfl) ?_ (by omega) (by omega) ?_; simp [turnY, IntKind.wrap_i64]; omega; intro g1 cap1 w2 o1 st1 lt1; have e1 := (st1.below.cell (p := ⟨b1, off1 + k, none⟩) hl1).trans hc1; have e2 := (st1.below.cell (p := ⟨b2, off2 + k, none⟩) hl2).trans hc2; have e3 := (st1.below.cell (p := ⟨b3, off3 + k, none⟩) hl3).trans hc3))
      have p2 := st1.keep _ _ _ _ oY sXY
      have p3 := st1.keep _ _ _ _ oZ sXZ
      have s12 := st1.sep _ _ _ _ oY sXY
      have s13 := st1.sep _ _ _ _ oZ sXZ
      have hbel2 := hbel.trans st1.below
      have hsz2 := hbel2.size
      rename_i held
      clear held st1 oX oY oZ sXY sXZ hbel hsz hc1 hc2 hc3
      go_wp2_with fail
      go_region_held3 (fun w' => w'.cell? ⟨b3, off3 + k, none⟩ = some (.int .i64 (c k)) ∧ w'.cell? ⟨b2, off2 + k, none⟩ = some (.int .i64 (b k)))
        (first | go_keep | exact ⟨e3', e2'⟩)
        ((refine step_app1 w2 (by repeat (first | exact Below.refl _ _ | apply Below.drew | refine Below.alloc ?_ (by simp) _)) (by rfl) _ _ 22 (by rfl) 3 int_info Try.underlying22 w.heap.size Y k cy (turnD c b) (by rfl) p2 w2.heap.size (by rfl) ?_ (by omega) (by omega) ?_; simp [turnD, IntKind.wrap_i64]; omega; intro g2 cap2 w3 o2 st2 lt2; have e3' := (st2.below.cell (p := ⟨b3, off3 + k, none⟩) hl3).trans e3; have e2' := (st2.below.cell (p := ⟨b2, off2 + k, none⟩) hl2).trans e2))
      have q3 := st2.keep _ _ _ _ p3 sYZ
      have q1 := st2.keep _ _ _ _ o1 s12.symm
      have s21 := st2.sep _ _ _ _ o1 s12.symm
      have s23 := st2.sep _ _ _ _ p3 sYZ
      have hbel3 := hbel2.trans st2.below
      have hsz3 := hbel3.size
      have e1' := (st2.below.cell (p := ⟨b1, off1 + k, none⟩) hl1).trans e1
      rename_i held
      clear held st2 o1 p2 p3 s12 sYZ hbel2 hsz2 e1 e2 e3
      go_wp2_with fail
      go_region_held3 (fun w' => w'.cell? ⟨b1, off1 + k, none⟩ = some (.int .i64 (a k)) ∧ w'.cell? ⟨b2, off2 + k, none⟩ = some (.int .i64 (b k)))
        (first | go_keep | exact ⟨f1, f2⟩)
        ((refine step_app1 w3 (by repeat (first | exact Below.refl _ _ | apply Below.drew | refine Below.alloc ?_ (by simp) _)) (by rfl) _ _ 22 (by rfl) 3 int_info Try.underlying22 w.heap.size Z k cz (turnD a b) (by rfl) q3 w3.heap.size (by rfl) ?_ (by omega) (by omega) ?_; simp [turnD, IntKind.wrap_i64]; omega; intro g3 cap3 w4 o3 st3 lt3; have f1 := (st3.below.cell (p := ⟨b1, off1 + k, none⟩) hl1).trans e1'; have f2 := (st3.below.cell (p := ⟨b2, off2 + k, none⟩) hl2).trans e2'))
      have r1 := st3.keep _ _ _ _ q1 s13.symm
      have r2 := st3.keep _ _ _ _ o2 s23.symm
      have s31 := st3.sep _ _ _ _ q1 s13.symm
      have s32 := st3.sep _ _ _ _ o2 s23.symm
      have hbel4 := hbel3.trans st3.below
      rename_i held
      clear held st3 q1 q3 o2 s13 s23 hbel3 hsz3 e1' e2' e3' f1 f2
      go_wp2_with fail
      go_roundw
      case rel => exact ⟨k + 1, _, _, _, cap1, cap2, cap3, by omega, by go_num, rfl, rfl, rfl, r1, r2, o3, s21.symm, s31.symm, s32.symm, hbel4⟩
      case measure => simp [intOf]; omega
    · obtain rfl : k = n := by omega
      have i1 := oX.ints
      have i2 := oY.ints
      have i3 := oZ.ints
      clear oX oY oZ sXY sXZ sYZ
      go_wp2_with fail
      go_ret3
      exact ⟨_, _, _, _, _, _, rfl, i1, i2, i3, hbel⟩
end Go.Proofs.Ytemkeohclmgefaa
