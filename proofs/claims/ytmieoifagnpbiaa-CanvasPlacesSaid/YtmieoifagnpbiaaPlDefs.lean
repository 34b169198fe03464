/- THE LOOPS OF waveletlaw12.CanvasPlaces, taken out of the translation; laws on bounds. -/
import Derived.Test.YtmieoifagnpbiaaPlaK
import Derived.Test.YtmieoifagnpbiaaPlaB
import Derived.Test.YtmieoifagnpbiaaPlaS
import Derived.Test.YtmieoifagnpbiaaMadeLaw
import Derived.Test.YtmieoifagnpbiaaBlk12b
import Derived.Test.YtmieoifagnpbiaaInts12
import Derived.Test.YtmieoifagnpbiaaLoad
namespace Go.Proofs.Ytmieoifagnpbiaa
open Go.RowKit
set_option maxHeartbeats 4000000
set_option linter.unusedVariables false
set_option linter.unusedSimpArgs false

def firstLoopP : Code → Option Code
  | .loop c => some c
  | .seq a b => match firstLoopP a with
    | some c => some c
    | none => firstLoopP b
  | .block _ c => firstLoopP c
  | .scope c => firstLoopP c
  | .cond _ a b => match firstLoopP a with
    | some c => some c
    | none => firstLoopP b
  | _ => none
noncomputable def plC1 : Code := ((Try.f7.body.bind firstLoopP).getD .skip)
noncomputable def plC2 : Code := (((Try.f7.body.bind firstLoopP).bind firstLoopP).getD .skip)
noncomputable def plC3 : Code := ((((Try.f7.body.bind firstLoopP).bind firstLoopP).bind firstLoopP).getD .skip)
noncomputable def plC4 : Code := (((((Try.f7.body.bind firstLoopP).bind firstLoopP).bind firstLoopP).bind firstLoopP).getD .skip)
noncomputable def plC5 : Code := ((((((Try.f7.body.bind firstLoopP).bind firstLoopP).bind firstLoopP).bind firstLoopP).bind firstLoopP).getD .skip)

theorem res_mid {Q0 Q1 Q2 Q3 k : Nat} (h : Q0 ≤ 64 ∧ Q1 ≤ 64 ∧ Q2 ≤ 64 ∧ Q3 ≤ 64) (hk : k ≤ 40) :
    midR (resR ⟨(Q0 : Int), (Q1 : Int), (Q2 : Int), (Q3 : Int)⟩ k) := by
  have a0 := ce_bd (x := Q0) (k := k) (by omega) hk
  have a1 := ce_bd (x := Q1) (k := k) (by omega) hk
  have a2 := ce_bd (x := Q2) (k := k) (by omega) hk
  have a3 := ce_bd (x := Q3) (k := k) (by omega) hk
  unfold midR resR
  simp only
  omega
theorem band_mid {Q0 Q1 Q2 Q3 lv r : Nat} (j : Nat) (h : Q0 ≤ 64 ∧ Q1 ≤ 64 ∧ Q2 ≤ 64 ∧ Q3 ≤ 64) (hr : r ≤ lv) (hk : lv ≤ 20) :
    midR (bandA ⟨(Q0 : Int), (Q1 : Int), (Q2 : Int), (Q3 : Int)⟩ lv r j) := by
  unfold bandA
  split
  · exact res_mid h (by omega)
  · unfold midR bandR
    generalize (((j : Int) + 1) != 2) = ox
    generalize (((j : Int) + 1) != 1) = oy
    have a0 := hf_bd (x := Q0) (n := lv - r + 1) (odd := ox) (by omega) (by omega) (by omega)
    have a1 := hf_bd (x := Q1) (n := lv - r + 1) (odd := oy) (by omega) (by omega) (by omega)
    have a2 := hf_bd (x := Q2) (n := lv - r + 1) (odd := ox) (by omega) (by omega) (by omega)
    have a3 := hf_bd (x := Q3) (n := lv - r + 1) (odd := oy) (by omega) (by omega) (by omega)
    simp only
    omega
/-- a rectangle whose numbers are natural and small -/
theorem tile_nat {X Y O P tx ty : Nat} (hX : X ≤ 64) (hY : Y ≤ 64) (ho : O ≤ X) (hp : P ≤ Y) (h1 : 1 ≤ tx) (h2 : 1 ≤ ty) {i : Nat} (hi : i < byN X tx * byN Y ty) :
    ∃ a b c d : Nat, tileR X Y O P tx ty (gridAt (byN X tx) i) = ⟨(a : Int), (b : Int), (c : Int), (d : Int)⟩ ∧ a ≤ 64 ∧ b ≤ 64 ∧ c ≤ 64 ∧ d ≤ 64 := by
  have hW0 : 0 < byN X tx := by
    rcases Nat.eq_zero_or_pos (byN X tx) with h | h
    · rw [h, Nat.zero_mul] at hi; omega
    · exact h
  have hx := Nat.mod_lt i hW0
  have hy : i / byN X tx < byN Y ty := by rw [Nat.div_lt_iff_lt_mul hW0, Nat.mul_comm]; exact hi
  unfold gridAt
  generalize i % byN X tx = x at *
  generalize i / byN X tx = y at *
  have key : ∀ n d k : Nat, 1 ≤ d → k < byN n d → k * d < n := fun n d k hd hk => by
    unfold byN at hk
    have h1 : k + 1 ≤ (n + d - 1) / d := hk
    rw [Nat.le_div_iff_mul_le (by omega), Nat.add_mul, Nat.one_mul] at h1
    omega
  have kx := key X tx x h1 hx
  have ky := key Y ty y h2 hy
  unfold tileR bothR mxI mnI
  simp only
  refine ⟨if O < x * tx then x * tx else O, if P < y * ty then y * ty else P, if (x + 1) * tx < X then (x + 1) * tx else X, if (y + 1) * ty < Y then (y + 1) * ty else Y, ?_, by split <;> omega, by split <;> omega, by split <;> omega, by split <;> omega⟩
  have e1 : (x : Int) * (tx : Int) = ((x * tx : Nat) : Int) := (Int.natCast_mul _ _).symm
  have e2 : (y : Int) * (ty : Int) = ((y * ty : Nat) : Int) := (Int.natCast_mul _ _).symm
  have e3 : ((x : Int) + 1) * (tx : Int) = (((x + 1) * tx : Nat) : Int) := by rw [Int.natCast_mul]; rfl
  have e4 : ((y : Int) + 1) * (ty : Int) = (((y + 1) * ty : Nat) : Int) := by rw [Int.natCast_mul]; rfl
  rw [e1, e2, e3, e4]
  generalize x * tx = m1
  generalize y * ty = m2
  generalize (x + 1) * tx = m3
  generalize (y + 1) * ty = m4
  congr 1 <;> (split <;> split <;> omega)
theorem blksN_le {band res : Rc} {pr sd k a b : Nat} (hB : smallR band) (ha : a ≤ 40) (hb : b ≤ 40) : blksN (partR band res pr sd k) a b ≤ 1048576 := by
  unfold blksN
  cases he : emptyB (partR band res pr sd k) with
  | true => simp
  | false =>
    simp only [Bool.false_eq_true, if_false]
    obtain ⟨h1, h2, h3, h4, h5, h6⟩ := part_bd hB he
    have s1 := span_bd (k := a) h1 h2 h3 ha
    have s2 := span_bd (k := b) h4 h5 h6 hb
    have e1 : bW (partR band res pr sd k) a ≤ 1024 := by unfold bW; omega
    have e2 : bH (partR band res pr sd k) b ≤ 1024 := by unfold bH; omega
    exact Nat.mul_le_mul e1 e2
end Go.Proofs.Ytmieoifagnpbiaa
