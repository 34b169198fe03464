/- CONTRACTS of package color: Back. -/
import Derived.Test.YtemkeohclmgefaaColor
namespace Go.Proofs.Ytemkeohclmgefaa
open Go.RowKit
set_option maxHeartbeats 1000000
set_option linter.unusedVariables false

def backM (y u v : Nat → Int) (k : Nat) : Int := y k - (u k + v k) / 4
def backA (y u v : Nat → Int) (k : Nat) : Int := v k + backM y u v k
def backC (y u v : Nat → Int) (k : Nat) : Int := u k + backM y u v k

theorem back_any (A1 A2 A3 : Option Addr) (n c1 c2 c3 : Nat) (a b c : Nat → Int) (w : World) (h1 : IntsAt w w.heap.size A1 n a) (h2 : IntsAt w w.heap.size A2 n b) (h3 : IntsAt w w.heap.size A3 n c) (hn : n ≤ 1099511627776)
    (ba : ∀ k, k < n → -1099511627776 ≤ a k ∧ a k ≤ 1099511627776) (bb : ∀ k, k < n → -1099511627776 ≤ b k ∧ b k ≤ 1099511627776) (bc : ∀ k, k < n → -1099511627776 ≤ c k ∧ c k ≤ 1099511627776) :
    Calls Try.prog 18 #[.slice A1 n c1, .slice A2 n c2, .slice A3 n c3] w fun e w' => ∃ (B1 B2 B3 : Option Addr), e = .returned (.tuple #[.slice B1 n n, .slice B2 n n, .slice B3 n n]) ∧
      IntsAt w' w'.heap.size B1 n (backA a b c) ∧ IntsAt w' w'.heap.size B2 n (backM a b c) ∧ IntsAt w' w'.heap.size B3 n (backC a b c) ∧ Below w.heap.size w w' := by
  go_enter Try.func18, Try.ntmps18
  go_wp2_with fail
  refine (shortest_any A1 A2 A3 n c1 c2 c3 w.heap.size _ (by simp) (by simp) ).mono ?_
  rintro e w1 ⟨rfl, hw1⟩
  have hb0 : Below w.heap.size w w1 := by rw [← hw1]; exact (Below.refl _ _).alloc (Nat.le_refl _) _
  clear hw1
  go_wp2_with fail
  go_loopw [6, 7, 8, 16] (fun y u v i wr => ∃ (k : Nat) (X Y Z : Option Addr) (cx cy cz : Nat), k ≤ n ∧ i = .int .i64 k ∧ y = .slice X k cx ∧ u = .slice Y k cy ∧ v = .slice Z k cz ∧
      OwnI wr w.heap.size 3 (.slice X k cx) k (backA a b c) ∧ OwnI wr w.heap.size 3 (.slice Y k cy) k (backM a b c) ∧ OwnI wr w.heap.size 3 (.slice Z k cz) k (backC a b c) ∧
      Sep (.slice X k cx) (.slice Y k cy) ∧ Sep (.slice X k cx) (.slice Z k cz) ∧ Sep (.slice Y k cy) (.slice Z k cz) ∧ Below w.heap.size w wr) (fun _ _ _ i _ => n - (intOf i).toNat)
  case atStart => exact ⟨0, none, none, none, 0, 0, 0, Nat.zero_le _, rfl, rfl, rfl, rfl, OwnI.nil_ _ _ _ _, OwnI.nil_ _ _ _ _, OwnI.nil_ _ _ _ _, Sep.nil_ _, Sep.nil_ _, Sep.nil_ _, hb0⟩
  case round =>
    obtain ⟨k, X, Y, Z, cx, cy, cz, hk, rfl, rfl, rfl, rfl, oX, oY, oZ, sXY, sXZ, sYZ, hbel⟩ := hrel
    by_cases hlt : k < n
    · obtain ⟨b1, off1, rfl, hl1, hc1⟩ := (h1.below hbel).at_ hlt
      obtain ⟨b2, off2, rfl, hl2, hc2⟩ := (h2.below hbel).at_ hlt
      obtain ⟨b3, off3, rfl, hl3, hc3⟩ := (h3.below hbel).at_ hlt
      have xa := ba k hlt
      have xb := bb k hlt
      have xc := bc k hlt
      have hsz := hbel.size
      obtain ⟨m, hm⟩ : ∃ m, m = a k - (b k + c k) / 4 := ⟨_, rfl⟩
      have hmb : -1649267441664 ≤ m ∧ m ≤ 1649267441664 := by omega
      have hA : backA a b c k = c k + m := by rw [hm]; rfl
      have hM : backM a b c k = m := by rw [hm]; rfl
      have hC : backC a b c k = b k + m := by rw [hm]; rfl
      have hm' : a k - (b k + c k) / 4 = m := hm.symm
      clear hm
      go_wp2_with fail
      go_quiet (fail)
      replace oX : OwnI (wr.drewN nq) w.heap.size 3 (.slice X k cx) k (backA a b c) := oX
      replace oY : OwnI (wr.drewN nq) w.heap.size 3 (.slice Y k cy) k (backM a b c) := oY
      replace oZ : OwnI (wr.drewN nq) w.heap.size 3 (.slice Z k cz) k (backC a b c) := oZ
      replace hbel : Below w.heap.size w (wr.drewN nq) := below_drewN hbel _
      replace hc2 : (wr.drewN nq).cell? ⟨b2, off2 + k, none⟩ = some (.int .i64 (b k)) := hc2
      replace hc3 : (wr.drewN nq).cell? ⟨b3, off3 + k, none⟩ = some (.int .i64 (c k)) := hc3
      replace hsz : w.heap.size ≤ (wr.drewN nq).heap.size := hsz
      clear hc1 hm' h1 h2 h3 ba bb bc
      generalize wr.drewN nq = wq at *
      have s1 : IntKind.i64.wrap (c k + m) = c k + m := IntWalk.i64_in _ (by omega)
      have s2 : IntKind.i64.wrap (b k + m) = b k + m := IntWalk.i64_in _ (by omega)
      go_wp2_with (first
        | (at_builtin; refine wpList_app1 wq ((Below.refl _ _).alloc (Nat.le_refl _) _) rfl _ _ 22 rfl 3 int_info Try.underlying22 w.heap.size X k cx (backA a b c) rfl oX wq.heap.size rfl (by simp [hA]) (by omega) (by omega) ?_; intro g1 cap1 w2 o1 st1 _; have e3 := (st1.below.cell (p := ⟨b3, off3 + k, none⟩) hl3).trans hc3; have e2 := (st1.below.cell (p := ⟨b2, off2 + k, none⟩) hl2).trans hc2; have p2 := st1.keep _ _ _ _ oY sXY; have p3 := st1.keep _ _ _ _ oZ sXZ; have s12 := st1.sep _ _ _ _ oY sXY; have s13 := st1.sep _ _ _ _ oZ sXZ; have hbel2 := hbel.trans st1.below; have hsz2 := hbel2.size; clear st1 oX oY oZ sXY sXZ hbel hsz hc2 hc3 e3)
        | (at_builtin; refine wpList_app1 w2 ((Below.refl _ _).alloc (Nat.le_refl _) _) rfl _ _ 22 rfl 3 int_info Try.underlying22 w.heap.size Y k cy (backM a b c) rfl p2 w2.heap.size rfl (by simp [hM]) (by omega) (by omega) ?_; intro g2 cap2 w3 o2 st2 _; have e2' := (st2.below.cell (p := ⟨b2, off2 + k, none⟩) hl2).trans e2; have q3 := st2.keep _ _ _ _ p3 sYZ; have q1 := st2.keep _ _ _ _ o1 s12.symm; have s21 := st2.sep _ _ _ _ o1 s12.symm; have s23 := st2.sep _ _ _ _ p3 sYZ; have hbel3 := hbel2.trans st2.below; have hsz3 := hbel3.size; clear st2 o1 p2 p3 s12 sYZ hbel2 hsz2 e2)
        | (at_builtin; refine wpList_app1 w3 ((Below.refl _ _).alloc (Nat.le_refl _) _) rfl _ _ 22 rfl 3 int_info Try.underlying22 w.heap.size Z k cz (backC a b c) rfl q3 w3.heap.size rfl (by simp [hC]) (by omega) (by omega) ?_; intro g3 cap3 w4 o3 st3 _; have r1 := st3.keep _ _ _ _ q1 s13.symm; have r2 := st3.keep _ _ _ _ o2 s23.symm; have s31 := st3.sep _ _ _ _ q1 s13.symm; have s32 := st3.sep _ _ _ _ o2 s23.symm; have hbel4 := hbel3.trans st3.below; clear st3 q1 q3 o2 s13 s23 hbel3 hsz3 e2'))
      go_roundw
      case rel => exact ⟨k + 1, _, _, _, cap1, cap2, cap3, by omega, by go_num, rfl, rfl, rfl, r1, r2, o3, s21.symm, s31.symm, s32.symm, hbel4⟩
      case measure => simp [intOf]; omega
    · obtain rfl : k = n := by omega
      have i1 := oX.ints
      have i2 := oY.ints
      have i3 := oZ.ints
      clear oX oY oZ sXY sXZ sYZ
      go_wp2_with fail
      refine (own_any _ _ _ k _ _ _ _ _ _ wr i1 i2 i3 hn).mono ?_
      rintro e w2 ⟨B1, B2, B3, rfl, j1, j2, j3, hb2⟩
      have hb := hbel.trans (hb2.mono hbel.size)
      go_wp2_with fail
      go_ret3
      exact ⟨B1, B2, B3, rfl, j1, j2, j3, hb⟩
end Go.Proofs.Ytemkeohclmgefaa
