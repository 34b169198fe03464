/- THE PACKETS OF A TILE, as a list: the numbers of the resolutions; order.known. -/
import Derived.Test.YtpgkdpoehkdhcaaOrdS
namespace Go.Proofs.Ytpgkdpoehkdhcaa
open Go.RowKit
attribute [local go_sem] opv opnd
set_option maxHeartbeats 4000000
set_option linter.unusedVariables false
set_option linter.unusedSimpArgs false
set_option maxRecDepth 1000000

def ceN (x d k : Nat) : Nat := (ceI ((byN x d : Nat) : Int) k).toNat
def wdN (tx0 ty0 tx1 ty1 dx dy k pr : Nat) : Nat := (preW ⟨(ceN tx0 dx k : Nat), (ceN ty0 dy k : Nat), (ceN tx1 dx k : Nat), (ceN ty1 dy k : Nat)⟩ pr).toNat
def hgN (tx0 ty0 tx1 ty1 dx dy k pr : Nat) : Nat := (preH ⟨(ceN tx0 dx k : Nat), (ceN ty0 dy k : Nat), (ceN tx1 dx k : Nat), (ceN ty1 dy k : Nat)⟩ pr).toNat
theorem ceN_ok {x d k : Nat} (hx : x ≤ 64) (hd : 1 ≤ d) (hk : k ≤ 40) : ceI ((byN x d : Nat) : Int) k = ((ceN x d k : Nat) : Int) ∧ ceN x d k ≤ 64 := by
  have h1 : byN x d ≤ 64 := Nat.le_trans (byN_le hd) hx
  have h2 := ce_bd h1 hk
  unfold ceN
  omega
theorem pre_small {a b c d : Nat} {pr : Nat} (hp : pr ≤ 40) (h : a ≤ 64 ∧ b ≤ 64 ∧ c ≤ 64 ∧ d ≤ 64) :
    (0 ≤ preW ⟨(a : Nat), (b : Nat), (c : Nat), (d : Nat)⟩ pr ∧ preW ⟨(a : Nat), (b : Nat), (c : Nat), (d : Nat)⟩ pr ≤ 65) ∧ (0 ≤ preH ⟨(a : Nat), (b : Nat), (c : Nat), (d : Nat)⟩ pr ∧ preH ⟨(a : Nat), (b : Nat), (c : Nat), (d : Nat)⟩ pr ≤ 65) := by
  unfold preW preH
  rcases he : emptyB ⟨(a : Nat), (b : Nat), (c : Nat), (d : Nat)⟩ with _ | _
  · simp only [Bool.false_eq_true, if_false]
    unfold emptyB at he
    simp only [Bool.or_eq_false_iff, decide_eq_false_iff_not] at he
    obtain ⟨p1, p2⟩ := pow_bd hp
    have q1 := ce_bd h.2.2.1 hp
    have q2 := ce_bd h.2.2.2 hp
    unfold ceI flI at *
    generalize (2 : Int) ^ pr = e at *
    have k1 : (a : Int) / e ≤ ((c : Int) + e - 1) / e := Int.ediv_le_ediv (by omega) (by omega)
    have k2 : 0 ≤ (a : Int) / e := Int.ediv_nonneg (by omega) (by omega)
    have k3 : (b : Int) / e ≤ ((d : Int) + e - 1) / e := Int.ediv_le_ediv (by omega) (by omega)
    have k4 : 0 ≤ (b : Int) / e := Int.ediv_nonneg (by omega) (by omega)
    omega
  · simp
theorem resN_ok {tx0 ty0 tx1 ty1 dx dy lv r pr : Nat} (ht : tx0 ≤ 64 ∧ ty0 ≤ 64 ∧ tx1 ≤ 64 ∧ ty1 ≤ 64) (hx : 1 ≤ dx) (hy : 1 ≤ dy) (hlv : lv ≤ 40) (hpr : pr ≤ 40) :
    ResN tx0 ty0 tx1 ty1 dx dy lv r pr (ceN tx0 dx (lv - r)) (ceN ty0 dy (lv - r)) (ceN tx1 dx (lv - r)) (ceN ty1 dy (lv - r)) (wdN tx0 ty0 tx1 ty1 dx dy (lv - r) pr) (hgN tx0 ty0 tx1 ty1 dx dy (lv - r) pr) := by
  have h0 := ceN_ok (k := lv - r) ht.1 hx (by omega)
  have h1 := ceN_ok (k := lv - r) ht.2.1 hy (by omega)
  have h2 := ceN_ok (k := lv - r) ht.2.2.1 hx (by omega)
  have h3 := ceN_ok (k := lv - r) ht.2.2.2 hy (by omega)
  have hp := pre_small (pr := pr) hpr ⟨h0.2, h1.2, h2.2, h3.2⟩
  refine ⟨?_, ⟨h0.2, h1.2, h2.2, h3.2⟩, ?_, ?_, ?_⟩
  · unfold resR
    simp only
    rw [h0.1, h1.1, h2.1, h3.1]
  · unfold wdN; omega
  · unfold hgN; omega
  · unfold wdN hgN; omega

/-- a tile's numbers: its corners, the levels, the precincts, the order; what of the components it wants: their steps -/
structure OrdQ where
  x0 : Nat
  y0 : Nat
  x1 : Nat
  y1 : Nat
  lv : Nat
  pr : Nat
  od : Nat
  ly : Nat
  n : Nat
  dx : Nat → Nat
  dy : Nat → Nat
structure OrdQ.Ok (q : OrdQ) : Prop where
  t : q.x0 ≤ 64 ∧ q.y0 ≤ 64 ∧ q.x1 ≤ 64 ∧ q.y1 ≤ 64
  lv : q.lv ≤ 5
  pr : q.pr ≤ 15
  od : q.od ≤ 4
  ly : q.ly ≤ 9
  n : q.n ≤ 4
  d : ∀ k, k < q.n → 1 ≤ q.dx k ∧ q.dx k ≤ 3 ∧ 1 ≤ q.dy k ∧ q.dy k ≤ 3
def OrdQ.w (q : OrdQ) (r c : Nat) : Nat := wdN q.x0 q.y0 q.x1 q.y1 (q.dx c) (q.dy c) (q.lv - r) q.pr
def OrdQ.h (q : OrdQ) (r c : Nat) : Nat := hgN q.x0 q.y0 q.x1 q.y1 (q.dx c) (q.dy c) (q.lv - r) q.pr
/-- a packet ahead of its rank -/
def OrdQ.sp (q : OrdQ) (l r c k : Nat) : Spot := { spotK q.x0 q.y0 (ceN q.x0 (q.dx c) (q.lv - r)) (ceN q.y0 (q.dy c) (q.lv - r)) (q.w r c) q.pr (q.pr + q.lv - r) (q.dx c) (q.dy c) r c k with ly := l }
def OrdQ.pk (q : OrdQ) (l r c k : Nat) : Spot := rankS q.od (q.sp l r c k)
def OrdQ.l4 (q : OrdQ) (l r c m : Nat) : List Spot := (List.range m).map (q.pk l r c)
def OrdQ.l3 (q : OrdQ) (l r m : Nat) : List Spot := (List.range m).flatMap fun c => q.l4 l r c (q.w r c * q.h r c)
def OrdQ.l2 (q : OrdQ) (l m : Nat) : List Spot := (List.range m).flatMap fun r => q.l3 l r q.n
def OrdQ.l1 (q : OrdQ) (m : Nat) : List Spot := (List.range m).flatMap fun l => q.l2 l (q.lv + 1)
theorem OrdQ.l4_succ (q : OrdQ) (l r c m : Nat) : q.l4 l r c (m + 1) = q.l4 l r c m ++ [q.pk l r c m] := by unfold OrdQ.l4; rw [List.range_succ, List.map_append]; rfl
theorem OrdQ.l3_succ (q : OrdQ) (l r m : Nat) : q.l3 l r (m + 1) = q.l3 l r m ++ q.l4 l r m (q.w r m * q.h r m) := by unfold OrdQ.l3; rw [List.range_succ, List.flatMap_append]; simp
theorem OrdQ.l2_succ (q : OrdQ) (l m : Nat) : q.l2 l (m + 1) = q.l2 l m ++ q.l3 l m q.n := by unfold OrdQ.l2; rw [List.range_succ, List.flatMap_append]; simp
theorem OrdQ.l1_succ (q : OrdQ) (m : Nat) : q.l1 (m + 1) = q.l1 m ++ q.l2 m (q.lv + 1) := by unfold OrdQ.l1; rw [List.range_succ, List.flatMap_append]; simp
theorem OrdQ.wh (q : OrdQ) (h : q.Ok) {r c : Nat} (hc : c < q.n) : ResN q.x0 q.y0 q.x1 q.y1 (q.dx c) (q.dy c) q.lv r q.pr (ceN q.x0 (q.dx c) (q.lv - r)) (ceN q.y0 (q.dy c) (q.lv - r)) (ceN q.x1 (q.dx c) (q.lv - r)) (ceN q.y1 (q.dy c) (q.lv - r)) (q.w r c) (q.h r c) :=
  resN_ok h.t (h.d c hc).1 (h.d c hc).2.2.1 (by have := h.lv; omega) (by have := h.pr; omega)
theorem OrdQ.l4_len (q : OrdQ) (l r c m : Nat) : (q.l4 l r c m).length = m := by unfold OrdQ.l4; simp
theorem OrdQ.l3_len (q : OrdQ) (h : q.Ok) (l r : Nat) : ∀ m, m ≤ q.n → (q.l3 l r m).length ≤ m * 4225
  | 0, _ => by unfold OrdQ.l3; simp
  | m + 1, hm => by
    rw [q.l3_succ, List.length_append, q.l4_len]
    have h1 := q.l3_len h l r m (by omega)
    have h2 := (q.wh h (r := r) (c := m) (by omega)).wb
    have h3 : q.w r m * q.h r m ≤ 65 * 65 := Nat.mul_le_mul h2.1 h2.2
    omega
theorem OrdQ.l2_len (q : OrdQ) (h : q.Ok) (l : Nat) : ∀ m, (q.l2 l m).length ≤ m * 16900
  | 0 => by unfold OrdQ.l2; simp
  | m + 1 => by
    rw [q.l2_succ, List.length_append]
    have h1 := q.l2_len h l m
    have h2 := q.l3_len h l m q.n (Nat.le_refl _)
    have := h.n
    omega
theorem OrdQ.l1_len (q : OrdQ) (h : q.Ok) : ∀ m, (q.l1 m).length ≤ m * 101400
  | 0 => by unfold OrdQ.l1; simp
  | m + 1 => by
    rw [q.l1_succ, List.length_append]
    have h1 := q.l1_len h m
    have h2 := q.l2_len h m (q.lv + 1)
    have := h.lv
    omega
/-- the row of a list of spots -/
def rowS (L : List Spot) (k : Nat) : List Value := spotL (L[k]?.getD default)
theorem rowS_len (L : List Spot) (k : Nat) : (rowS L k).length = 12 := rfl
theorem rowS_new (L : List Spot) (x : Spot) : rowS (L ++ [x]) L.length = spotL x := by unfold rowS; simp
theorem rowS_lt (L M : List Spot) {k : Nat} (hk : k < L.length) : rowS (L ++ M) k = rowS L k := by unfold rowS; rw [List.getElem?_append_left hk]
theorem knownO_any (tx0 ty0 tx1 ty1 : Nat) (ht : tx0 ≤ 64 ∧ ty0 ≤ 64 ∧ tx1 ≤ 64 ∧ ty1 ≤ 64) (w : World) :
    Calls Try.prog 25 #[.agg #[.int .i64 tx0, .int .i64 ty0, .int .i64 tx1, .int .i64 ty1]] w fun e w' => e = .returned (.bool true) ∧ Below w.heap.size w w' := by
  have h2 : (tx1 : Int) ≤ 64 := by omega
  have h3 : (ty1 : Int) ≤ 64 := by omega
  have g2 : decide ((tx1 : Int) ≤ 64) = true := decide_eq_true h2
  have g3 : decide ((ty1 : Int) ≤ 64) = true := decide_eq_true h3
  go_enter Try.func25, Try.ntmps25
  go_wp2_with fail
  go_ret
  exact ⟨rfl, below_alloc (Below.refl _ _) _⟩
end Go.Proofs.Ytpgkdpoehkdhcaa
