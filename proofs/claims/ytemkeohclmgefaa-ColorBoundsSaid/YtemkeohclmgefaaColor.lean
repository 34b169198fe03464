/- CONTRACTS of package color: each, middle, shortest, own, Turn, Back, Shift, Unshift. -/
import Derived.Test.YtemkeohclmgefaaRow9
import Derived.Test.YtemkeohclmgefaaInts11
import Derived.Test.YtemkeohclmgefaaWithin11
import Derived.StillTailTactics
import Derived.Deep.RegionHeld3
namespace Go.Proofs.Ytemkeohclmgefaa
open Go.RowKit
set_option maxHeartbeats 1000000
set_option linter.unusedVariables false

/-- each, for a function value whose calls answer g of the number and only draw -/
theorem each_any (F : FuncId) (caps : Array Value) (hF : ∀ (args : Array Value) (w : World), (callFunc F args).run Try.prog w = .ok (.enter F args) w)
    (A : Option Addr) (n c : Nat) (f g : Nat → Int) (w : World) (ha : IntsAt w w.heap.size A n f) (hn : n ≤ 1099511627776)
    (hdo : ∀ (k : Nat) (w1 : World), k < n → Below w.heap.size w w1 → Hid (Calls Try.prog F (#[.int .i64 (f k)] ++ caps) w1 fun e w2 => e = .returned (.int .i64 (g k)) ∧ ∃ q, w2 = w1.drewN q)) :
    Calls Try.prog 29 #[.slice A n c, .func (.func F) #[] caps] w fun e w' => e = .returned (.slice (some ⟨w.heap.size, 0, none⟩) n n) ∧ w'.rowIs w.heap.size 3 n (fun k => .int .i64 (g k)) ∧ Below w.heap.size w w' := by
  have hmk := fun u => run_make_row' (P := Try.prog) 22 3 (.int .i64 0) 8 Try.underlying22 int_info rfl .i64 .i64 n (by omega) (by omega) u
  go_enter Try.func29, Try.ntmps29
  go_wp2_with fail
  clear hmk
  go_loopw [13] (fun i wr => ∃ k : Nat, k ≤ n ∧ i = .int .i64 k ∧ wr.rowIs w.heap.size 3 n (fun j => if j < k then .int .i64 (g j) else .int .i64 0) ∧ Below w.heap.size w wr) (fun i _ => n - (intOf i).toNat)
  case atStart => exact ⟨0, Nat.zero_le _, rfl, (World.rowIs_made w (.int .i64 0) n 3).congr (fun i hi => by simp), (Below.refl _ _).alloc (Nat.le_refl _) _⟩
  case round =>
    obtain ⟨k, hk, rfl, hrow, hbel⟩ := hrel
    by_cases hlt : k < n
    · obtain ⟨b, off, rfl, hb, hc⟩ := (ha.below hbel).at_ hlt
      have H := hdo k wr hlt hbel
      clear hdo
      go_wp2_with fail
      refine H.out.mono ?_
      rintro e w1 ⟨rfl, hq⟩
      have hrow1 : w1.rowIs w.heap.size 3 n (fun j => if j < k then .int .i64 (g j) else .int .i64 0) := by obtain ⟨q, rfl⟩ := hq; exact hrow
      have hbel1 : Below w.heap.size w w1 := by obtain ⟨q, rfl⟩ := hq; exact below_drewN hbel _
      have hcell : ∃ v, w1.cell? ⟨w.heap.size, k, none⟩ = some v := ⟨_, hrow1.cell hlt⟩
      obtain ⟨v0, hcell⟩ := hcell
      have hfr := hrow1.frozen k
      have HR := Lib.hid ((hrow1.set k (.int .i64 (g k))).congr (g := fun j => if j < k + 1 then .int .i64 (g j) else .int .i64 0) (fun i hi => by
        by_cases e : i = k
        · subst e; simp
        · have : (i < k + 1) = (i < k) := by simp; omega
          simp [e, this]))
      have HB := Lib.hid (hbel1.setCell (p := ⟨w.heap.size, k, none⟩) (Nat.le_refl _) (.int .i64 (g k)))
      clear hq hrow hbel hrow1 hbel1 H
      go_wp2
      go_roundw
      case rel => exact ⟨k + 1, by omega, by go_num, HR.out, HB.out⟩
      case measure => simp [intOf]; omega
    · obtain rfl : k = n := by omega
      have hrow2 := hrow.congr (g := fun j => .int .i64 (g j)) (fun i hi => by simp [hi])
      clear hrow hdo
      go_wp2_with fail
      go_ret
      exact ⟨rfl, hrow2, hbel⟩

theorem same_any (x : Int) (w : World) : Calls Try.prog 32 #[.int .i64 x] w fun e w' => e = .returned (.int .i64 x) ∧ w = w' := by
  go_enter Try.func32, Try.ntmps32
  go_wp2
  go_ret
  exact ⟨rfl, rfl⟩

theorem each_ints (F : FuncId) (caps : Array Value) (hF : ∀ (args : Array Value) (w : World), (callFunc F args).run Try.prog w = .ok (.enter F args) w)
    (A : Option Addr) (n c : Nat) (f g : Nat → Int) (w : World) (ha : IntsAt w w.heap.size A n f) (hn : n ≤ 1099511627776)
    (hdo : ∀ (k : Nat) (w1 : World), k < n → Below w.heap.size w w1 → Hid (Calls Try.prog F (#[.int .i64 (f k)] ++ caps) w1 fun e w2 => e = .returned (.int .i64 (g k)) ∧ ∃ q, w2 = w1.drewN q)) :
    Calls Try.prog 29 #[.slice A n c, .func (.func F) #[] caps] w fun e w' => ∃ A', e = .returned (.slice A' n n) ∧ IntsAt w' w'.heap.size A' n g ∧ Below w.heap.size w w' :=
  (each_any F caps hF A n c f g w ha hn hdo).mono fun e w' ⟨he, hr, hb⟩ => ⟨_, he, IntsAt.of_row hr (fun _ _ => rfl) hr.lt, hb⟩

theorem own_any (A1 A2 A3 : Option Addr) (n c1 c2 c3 : Nat) (f1 f2 f3 : Nat → Int) (w : World) (h1 : IntsAt w w.heap.size A1 n f1) (h2 : IntsAt w w.heap.size A2 n f2) (h3 : IntsAt w w.heap.size A3 n f3) (hn : n ≤ 1099511627776) :
    Calls Try.prog 27 #[.slice A1 n c1, .slice A2 n c2, .slice A3 n c3] w fun e w' => ∃ (B1 B2 B3 : Option Addr), e = .returned (.tuple #[.slice B1 n n, .slice B2 n n, .slice B3 n n]) ∧ IntsAt w' w'.heap.size B1 n f1 ∧ IntsAt w' w'.heap.size B2 n f2 ∧ IntsAt w' w'.heap.size B3 n f3 ∧ Below w.heap.size w w' := by
  have hF : ∀ (args : Array Value) (w : World), (callFunc 32 args).run Try.prog w = .ok (.enter 32 args) w := fun _ _ => by kernel_rfl
  have same : ∀ (f : Nat → Int) (n : Nat) (w : World) (k : Nat) (w1 : World), k < n → Below w.heap.size w w1 → Hid (Calls Try.prog 32 (#[.int .i64 (f k)] ++ #[]) w1 fun e w2 => e = .returned (.int .i64 (f k)) ∧ ∃ q, w2 = w1.drewN q) :=
    fun f n w k w1 _ _ => Lib.hid ((same_any (f k) w1).mono fun _ _ ⟨h, h'⟩ => ⟨h, 0, h'.symm⟩)
  have HF := Lib.hid hF
  have HS := Lib.hid same
  clear hF same
  go_enter Try.func27, Try.ntmps27
  go_wp2_with fail
  refine (each_ints _ _ HF.out A1 n c1 f1 f1 w h1 hn (HS.out f1 n w)).mono ?_
  rintro e w1 ⟨B1, rfl, hr1, hb1⟩
  go_wp2_with fail
  refine (each_ints _ _ HF.out A2 n c2 f2 f2 w1 ((h2.below hb1).more hb1.size) hn (HS.out f2 n w1)).mono ?_
  rintro e w2 ⟨B2, rfl, hr2, hb2⟩
  have hb12 := hb1.trans (hb2.mono hb1.size)
  go_wp2_with fail
  refine (each_ints _ _ HF.out A3 n c3 f3 f3 w2 ((h3.below hb12).more hb12.size) hn (HS.out f3 n w2)).mono ?_
  rintro e w3 ⟨B3, rfl, hr3, hb3⟩
  have hb123 := hb12.trans (hb3.mono hb12.size)
  go_wp2_with fail
  go_ret3
  exact ⟨B1, B2, B3, rfl, (hr1.below (hb2.trans (hb3.mono hb2.size))).more ((hb2.trans (hb3.mono hb2.size)).size), (hr2.below hb3).more hb3.size, hr3, hb123⟩

theorem shortest_any (A1 A2 A3 : Option Addr) (n c1 c2 c3 g : Nat) (w : World) (h0 : w.cell? ⟨g, 0, none⟩ = some (.slice A2 n c2)) (h1 : w.cell? ⟨g, 1, none⟩ = some (.slice A3 n c3)) :
    Calls Try.prog 26 #[.slice A1 n c1, .slice (some ⟨g, 0, none⟩) 2 2] w fun e w' => e = .returned (.int .i64 n) ∧ w = w' := by
  go_enter Try.func26, Try.ntmps26
  go_wp2_with fail
  go_loop [5, 12] (fun m i => ∃ k : Nat, k ≤ 2 ∧ i = .int .i64 k ∧ m = .int .i64 n) (fun _ i => 2 - (intOf i).toNat)
  case atStart => exact ⟨0, by omega, rfl, rfl⟩
  case round =>
    obtain ⟨k, hk, rfl, rfl⟩ := hrel
    obtain rfl | rfl | rfl : k = 0 ∨ k = 1 ∨ k = 2 := by omega
    · go_wp2
      go_round
      case rel => exact ⟨1, by omega, rfl, rfl⟩
      case measure => simp [intOf]
    · go_wp2
      go_round
      case rel => exact ⟨2, by omega, rfl, rfl⟩
      case measure => simp [intOf]
    · go_wp2
      go_ret
      exact ⟨rfl, rfl⟩

def turnY (a b c : Nat → Int) (k : Nat) : Int := (a k + 2 * b k + c k) / 4
def turnD (a b : Nat → Int) (k : Nat) : Int := a k - b k

theorem turn_any (A1 A2 A3 : Option Addr) (n c1 c2 c3 : Nat) (a b c : Nat → Int) (w : World) (h1 : IntsAt w w.heap.size A1 n a) (h2 : IntsAt w w.heap.size A2 n b) (h3 : IntsAt w w.heap.size A3 n c) (hn : n ≤ 1099511627776)
    (ba : ∀ k, k < n → -1099511627776 ≤ a k ∧ a k ≤ 1099511627776) (bb : ∀ k, k < n → -1099511627776 ≤ b k ∧ b k ≤ 1099511627776) (bc : ∀ k, k < n → -1099511627776 ≤ c k ∧ c k ≤ 1099511627776) :
    Calls Try.prog 13 #[.slice A1 n c1, .slice A2 n c2, .slice A3 n c3] w fun e w' => ∃ (B1 B2 B3 : Option Addr), e = .returned (.tuple #[.slice B1 n n, .slice B2 n n, .slice B3 n n]) ∧
      IntsAt w' w'.heap.size B1 n (turnY a b c) ∧ IntsAt w' w'.heap.size B2 n (turnD c b) ∧ IntsAt w' w'.heap.size B3 n (turnD a b) ∧ Below w.heap.size w w' := by
  go_enter Try.func13, Try.ntmps13
  go_wp2_with fail
  refine (shortest_any A1 A2 A3 n c1 c2 c3 w.heap.size _ (by simp) (by simp) ).mono ?_
  rintro e w1 ⟨rfl, hw1⟩
  have hb0 : Below w.heap.size w w1 := by rw [← hw1]; exact (Below.refl _ _).alloc (Nat.le_refl _) _
  clear hw1
  go_wp2_with fail
  go_loopw [6, 7, 8, 15] (fun y u v i wr => ∃ (k : Nat) (X Y Z : Option Addr) (cx cy cz : Nat), k ≤ n ∧ i = .int .i64 k ∧ y = .slice X k cx ∧ u = .slice Y k cy ∧ v = .slice Z k cz ∧
      OwnI wr w.heap.size 3 (.slice X k cx) k (turnY a b c) ∧ OwnI wr w.heap.size 3 (.slice Y k cy) k (turnD c b) ∧ OwnI wr w.heap.size 3 (.slice Z k cz) k (turnD a b) ∧
      Sep (.slice X k cx) (.slice Y k cy) ∧ Sep (.slice X k cx) (.slice Z k cz) ∧ Sep (.slice Y k cy) (.slice Z k cz) ∧ Below w.heap.size w wr) (fun _ _ _ i _ => n - (intOf i).toNat)
  case atStart => exact ⟨0, none, none, none, 0, 0, 0, Nat.zero_le _, rfl, rfl, rfl, rfl, OwnI.nil_ _ _ _ _, OwnI.nil_ _ _ _ _, OwnI.nil_ _ _ _ _, Sep.nil_ _, Sep.nil_ _, Sep.nil_ _, hb0⟩
  case round =>
    obtain ⟨k, X, Y, Z, cx, cy, cz, hk, rfl, rfl, rfl, rfl, oX, oY, oZ, sXY, sXZ, sYZ, hbel⟩ := hrel
    by_cases hlt : k < n
    · obtain ⟨b1, off1, rfl, hl1, hc1⟩ := (h1.below hbel).at_ hlt
      obtain ⟨b2, off2, rfl, hl2, hc2⟩ := (h2.below hbel).at_ hlt
      obtain ⟨b3, off3, rfl, hl3, hc3⟩ := (h3.below hbel).at_ hlt
      have xa := ba k hlt
      have xb := bb k hlt
      have xc := bc k hlt
      have hsz := hbel.size
      go_wp2_with fail
      go_region_held3 (fun w' => w'.cell? ⟨b1, off1 + k, none⟩ = some (.int .i64 (a k)) ∧ w'.cell? ⟨b2, off2 + k, none⟩ = some (.int .i64 (b k)) ∧ w'.cell? ⟨b3, off3 + k, none⟩ = some (.int .i64 (c k)))
        (first | go_keep | exact ⟨e1, e2, e3⟩)
        ((refine step_app1 wr (by repeat (first | exact Below.refl _ _ | apply Below.drew | refine Below.alloc ?_ (by simp) _)) (by rfl) _ _ 22 (by rfl) 3 int_info Try.underlying22 w.heap.size X k cx (turnY a b c) (by rfl) oX wr.heap.size (by rfl) ?_ (by omega) (by omega) ?_; simp [turnY, IntKind.wrap_i64]; omega; intro g1 cap1 w2 o1 st1 lt1; have e1 := (st1.below.cell (p := ⟨b1, off1 + k, none⟩) hl1).trans hc1; have e2 := (st1.below.cell (p := ⟨b2, off2 + k, none⟩) hl2).trans hc2; have e3 := (st1.below.cell (p := ⟨b3, off3 + k, none⟩) hl3).trans hc3))
      have p2 := st1.keep _ _ _ _ oY sXY
      have p3 := st1.keep _ _ _ _ oZ sXZ
      have s12 := st1.sep _ _ _ _ oY sXY
      have s13 := st1.sep _ _ _ _ oZ sXZ
      have hbel2 := hbel.trans st1.below
      have hsz2 := hbel2.size
      rename_i held
      clear held st1 oX oY oZ sXY sXZ hbel hsz hc1 hc2 hc3
      go_wp2_with fail
      go_region_held3 (fun w' => w'.cell? ⟨b3, off3 + k, none⟩ = some (.int .i64 (c k)) ∧ w'.cell? ⟨b2, off2 + k, none⟩ = some (.int .i64 (b k)))
        (first | go_keep | exact ⟨e3', e2'⟩)
        ((refine step_app1 w2 (by repeat (first | exact Below.refl _ _ | apply Below.drew | refine Below.alloc ?_ (by simp) _)) (by rfl) _ _ 22 (by rfl) 3 int_info Try.underlying22 w.heap.size Y k cy (turnD c b) (by rfl) p2 w2.heap.size (by rfl) ?_ (by omega) (by omega) ?_; simp [turnD, IntKind.wrap_i64]; omega; intro g2 cap2 w3 o2 st2 lt2; have e3' := (st2.below.cell (p := ⟨b3, off3 + k, none⟩) hl3).trans e3; have e2' := (st2.below.cell (p := ⟨b2, off2 + k, none⟩) hl2).trans e2))
      have q3 := st2.keep _ _ _ _ p3 sYZ
      have q1 := st2.keep _ _ _ _ o1 s12.symm
      have s21 := st2.sep _ _ _ _ o1 s12.symm
      have s23 := st2.sep _ _ _ _ p3 sYZ
      have hbel3 := hbel2.trans st2.below
      have hsz3 := hbel3.size
      have e1' := (st2.below.cell (p := ⟨b1, off1 + k, none⟩) hl1).trans e1
      rename_i held
      clear held st2 o1 p2 p3 s12 sYZ hbel2 hsz2 e1 e2 e3
      go_wp2_with fail
      go_region_held3 (fun w' => w'.cell? ⟨b1, off1 + k, none⟩ = some (.int .i64 (a k)) ∧ w'.cell? ⟨b2, off2 + k, none⟩ = some (.int .i64 (b k)))
        (first | go_keep | exact ⟨f1, f2⟩)
        ((refine step_app1 w3 (by repeat (first | exact Below.refl _ _ | apply Below.drew | refine Below.alloc ?_ (by simp) _)) (by rfl) _ _ 22 (by rfl) 3 int_info Try.underlying22 w.heap.size Z k cz (turnD a b) (by rfl) q3 w3.heap.size (by rfl) ?_ (by omega) (by omega) ?_; simp [turnD, IntKind.wrap_i64]; omega; intro g3 cap3 w4 o3 st3 lt3; have f1 := (st3.below.cell (p := ⟨b1, off1 + k, none⟩) hl1).trans e1'; have f2 := (st3.below.cell (p := ⟨b2, off2 + k, none⟩) hl2).trans e2'))
      have r1 := st3.keep _ _ _ _ q1 s13.symm
      have r2 := st3.keep _ _ _ _ o2 s23.symm
      have s31 := st3.sep _ _ _ _ q1 s13.symm
      have s32 := st3.sep _ _ _ _ o2 s23.symm
      have hbel4 := hbel3.trans st3.below
      rename_i held
      clear held st3 q1 q3 o2 s13 s23 hbel3 hsz3 e1' e2' e3' f1 f2
      go_wp2_with fail
      go_roundw
      case rel => exact ⟨k + 1, _, _, _, cap1, cap2, cap3, by omega, by go_num, rfl, rfl, rfl, r1, r2, o3, s21.symm, s31.symm, s32.symm, hbel4⟩
      case measure => simp [intOf]; omega
    · obtain rfl : k = n := by omega
      have i1 := oX.ints
      have i2 := oY.ints
      have i3 := oZ.ints
      clear oX oY oZ sXY sXZ sYZ
      go_wp2_with fail
      refine (own_any _ _ _ k _ _ _ _ _ _ wr i1 i2 i3 hn).mono ?_
      rintro e w2 ⟨B1, B2, B3, rfl, j1, j2, j3, hb2⟩
      have hb := hbel.trans (hb2.mono hbel.size)
      go_wp2_with fail
      go_ret3
      exact ⟨B1, B2, B3, rfl, j1, j2, j3, hb⟩
end Go.Proofs.Ytemkeohclmgefaa
