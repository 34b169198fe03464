/- A MADE PICTURE's TILE as order.List wants it. -/
import Derived.Test.YtpgkdpoehkdhcaaOrdK
import Derived.Test.YtpgkdpoehkdhcaaPlaR
import Derived.Test.YtpgkdpoehkdhcaaMake
namespace Go.Proofs.Ytpgkdpoehkdhcaa
open Go.RowKit
set_option maxHeartbeats 4000000
set_option linter.unusedVariables false

theorem MadeP.with_ {side : Nat} {fC fS : Int} {Xn Yn On Pn tx ty lv cw ch pr st od ly n dn : Nat} {rct PL : Bool} (h : MadeP side fC fS Xn Yn On Pn tx ty lv cw ch pr st od ly n dn rct PL) {pr' od' : Nat} (hp : 1 ≤ pr' ∧ pr' ≤ 15) (ho : od' ≤ 4) :
    MadeP side fC fS Xn Yn On Pn tx ty lv cw ch pr' st od' ly n dn rct PL := ⟨h.on, h.xs, h.ts, h.tiles, by have := h.bds; omega, h.num, h.rc, h.pl, h.dn⟩
def madeQ (x0 y0 x1 y1 lv pr od ly n : Nat) (F : Nat → CompD) : OrdQ := ⟨x0, y0, x1, y1, lv, pr, od, ly, n, fun k => (F k).dx.toNat, fun k => (F k).dy.toNat⟩
theorem madeQ_ok {x0 y0 x1 y1 lv pr od ly n Xn Yn On Pn dn : Nat} {sg PL : Bool} {F : Nat → CompD} {G : Nat → Nat → Int} (ht : x0 ≤ 64 ∧ y0 ≤ 64 ∧ x1 ≤ 64 ∧ y1 ≤ 64) (hlv : lv ≤ 5) (hpr : pr ≤ 15) (hod : od ≤ 4) (hly : ly ≤ 9) (hn : n ≤ 4)
    (hM : ∀ j, j < n → MadeC Xn Yn On Pn dn sg PL (F j) (G j)) : (madeQ x0 y0 x1 y1 lv pr od ly n F).Ok :=
  ⟨ht, hlv, hpr, hod, hly, hn, fun k hk => by
    have h := hM k hk
    have h1 := h.dx
    have h2 := h.dy
    show 1 ≤ (F k).dx.toNat ∧ (F k).dx.toNat ≤ 3 ∧ 1 ≤ (F k).dy.toNat ∧ (F k).dy.toNat ≤ 3
    omega⟩
theorem madeQ_d {x0 y0 x1 y1 lv pr od ly n Xn Yn On Pn dn : Nat} {sg PL : Bool} {F : Nat → CompD} {G : Nat → Nat → Int} (hM : ∀ j, j < n → MadeC Xn Yn On Pn dn sg PL (F j) (G j)) (k : Nat) (hk : k < n) :
    (F k).dx = ((madeQ x0 y0 x1 y1 lv pr od ly n F).dx k : Int) ∧ (F k).dy = ((madeQ x0 y0 x1 y1 lv pr od ly n F).dy k : Int) := by
  have h := hM k hk
  have h1 := h.dx
  have h2 := h.dy
  show (F k).dx = (((F k).dx.toNat : Nat) : Int) ∧ (F k).dy = (((F k).dy.toNat : Nat) : Int)
  omega
/-- with the greatest precincts there is one in each resolution that is there -/
theorem one_prec {a b c d : Nat} (h : a ≤ 64 ∧ b ≤ 64 ∧ c ≤ 64 ∧ d ≤ 64) :
    (preW ⟨(a : Nat), (b : Nat), (c : Nat), (d : Nat)⟩ 15).toNat * (preH ⟨(a : Nat), (b : Nat), (c : Nat), (d : Nat)⟩ 15).toNat = if 0 < areaR ⟨(a : Nat), (b : Nat), (c : Nat), (d : Nat)⟩ then 1 else 0 := by
  unfold preW preH emptyB areaR
  simp only
  have e1 : ∀ z : Nat, z ≤ 64 → flI (z : Int) 15 = 0 := fun z hz => by unfold flI; omega
  have e2 : ∀ z : Nat, 1 ≤ z → z ≤ 64 → ceI (z : Int) 15 = 1 := fun z h1 hz => by unfold ceI; omega
  by_cases h1 : (c : Int) ≤ a
  · have e0 : c - a = 0 := by omega
    simp [h1, e0]
  · by_cases h2 : (d : Int) ≤ b
    · have e0 : d - b = 0 := by omega
      simp [h2, e0]
    · simp only [h1, h2, decide_false, Bool.or_self, Bool.false_eq_true, if_false]
      rw [e2 c (by omega) h.2.2.1, e2 d (by omega) h.2.2.2, e1 a h.1, e1 b h.2.1]
      simp
      exact Nat.ne_of_gt (Nat.mul_pos (by omega) (by omega))
/-- sums in either order -/
def sumN (f : Nat → Nat) : Nat → Nat
  | 0 => 0
  | n + 1 => sumN f n + f n
theorem sumN_add (f g : Nat → Nat) : ∀ n, sumN (fun k => f k + g k) n = sumN f n + sumN g n
  | 0 => rfl
  | n + 1 => by rw [sumN, sumN, sumN, sumN_add f g n]; omega
theorem sumN_zero : ∀ n, sumN (fun _ => 0) n = 0
  | 0 => rfl
  | n + 1 => by rw [sumN, sumN_zero n]
theorem sumN_swap (f : Nat → Nat → Nat) (m : Nat) : ∀ n, sumN (fun r => sumN (fun c => f r c) m) n = sumN (fun c => sumN (fun r => f r c) n) m
  | 0 => by rw [sumN]; exact (sumN_zero m).symm
  | n + 1 => by rw [sumN, sumN_swap f m n, ← sumN_add]; rfl
theorem OrdQ.l3_cnt (q : OrdQ) (l r : Nat) : ∀ m, (q.l3 l r m).length = sumN (fun c => q.w r c * q.h r c) m
  | 0 => by unfold OrdQ.l3; simp [sumN]
  | m + 1 => by rw [q.l3_succ, List.length_append, q.l4_len, q.l3_cnt l r m]; rfl
theorem OrdQ.l2_cnt (q : OrdQ) (l : Nat) : ∀ m, (q.l2 l m).length = sumN (fun r => sumN (fun c => q.w r c * q.h r c) q.n) m
  | 0 => by unfold OrdQ.l2; simp [sumN]
  | m + 1 => by rw [q.l2_succ, List.length_append, q.l3_cnt, q.l2_cnt l m]; rfl
theorem OrdQ.l1_cnt (q : OrdQ) : ∀ m, (q.l1 m).length = m * sumN (fun c => sumN (fun r => q.w r c * q.h r c) (q.lv + 1)) q.n
  | 0 => by unfold OrdQ.l1; simp
  | m + 1 => by rw [q.l1_succ, List.length_append, q.l2_cnt, q.l1_cnt m, sumN_swap, Nat.add_mul, Nat.one_mul]
end Go.Proofs.Ytpgkdpoehkdhcaa
