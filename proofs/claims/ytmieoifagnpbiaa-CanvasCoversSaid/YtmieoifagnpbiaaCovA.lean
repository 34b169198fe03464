/- LAWS for CanvasCovers: what was seen of a band's places, and how many. -/
import Derived.Test.YtmieoifagnpbiaaRTiles
import Derived.Test.YtmieoifagnpbiaaMadeLaw
import Derived.Test.YtmieoifagnpbiaaBlk12b
import Derived.Test.YtmieoifagnpbiaaBlkLaw
import Derived.Test.YtmieoifagnpbiaaPlaLaw
namespace Go.Proofs.Ytmieoifagnpbiaa
open Go.RowKit
set_option maxHeartbeats 1000000
set_option linter.unusedVariables false
set_option linter.unusedSimpArgs false

/-- a rectangle whose numbers are natural and small -/
theorem tile_nat {X Y O P tx ty : Nat} (hX : X ≤ 64) (hY : Y ≤ 64) (ho : O ≤ X) (hp : P ≤ Y) (h1 : 1 ≤ tx) (h2 : 1 ≤ ty) {i : Nat} (hi : i < byN X tx * byN Y ty) :
    ∃ a b c d : Nat, tileR X Y O P tx ty (gridAt (byN X tx) i) = ⟨(a : Int), (b : Int), (c : Int), (d : Int)⟩ ∧ a ≤ 64 ∧ b ≤ 64 ∧ c ≤ 64 ∧ d ≤ 64 := by
  have hW0 : 0 < byN X tx := by
    rcases Nat.eq_zero_or_pos (byN X tx) with h | h
    · rw [h, Nat.zero_mul] at hi; omega
    · exact h
  have hx := Nat.mod_lt i hW0
  have hy : i / byN X tx < byN Y ty := by rw [Nat.div_lt_iff_lt_mul hW0, Nat.mul_comm]; exact hi
  unfold gridAt
  generalize i % byN X tx = x at *
  generalize i / byN X tx = y at *
  have key : ∀ n d k : Nat, 1 ≤ d → k < byN n d → k * d < n := fun n d k hd hk => by
    unfold byN at hk
    have h1 : k + 1 ≤ (n + d - 1) / d := hk
    rw [Nat.le_div_iff_mul_le (by omega), Nat.add_mul, Nat.one_mul] at h1
    omega
  have kx := key X tx x h1 hx
  have ky := key Y ty y h2 hy
  unfold tileR bothR mxI mnI
  simp only
  refine ⟨if O < x * tx then x * tx else O, if P < y * ty then y * ty else P, if (x + 1) * tx < X then (x + 1) * tx else X, if (y + 1) * ty < Y then (y + 1) * ty else Y, ?_, by split <;> omega, by split <;> omega, by split <;> omega, by split <;> omega⟩
  have e1 : (x : Int) * (tx : Int) = ((x * tx : Nat) : Int) := (Int.natCast_mul _ _).symm
  have e2 : (y : Int) * (ty : Int) = ((y * ty : Nat) : Int) := (Int.natCast_mul _ _).symm
  have e3 : ((x : Int) + 1) * (tx : Int) = (((x + 1) * tx : Nat) : Int) := by rw [Int.natCast_mul]; rfl
  have e4 : ((y : Int) + 1) * (ty : Int) = (((y + 1) * ty : Nat) : Int) := by rw [Int.natCast_mul]; rfl
  rw [e1, e2, e3, e4]
  generalize x * tx = m1
  generalize y * ty = m2
  generalize (x + 1) * tx = m3
  generalize (y + 1) * ty = m4
  congr 1 <;> (split <;> split <;> omega)
theorem blksN_le {band res : Rc} {pr sd k a b : Nat} (hB : smallR band) (ha : a ≤ 40) (hb : b ≤ 40) : blksN (partR band res pr sd k) a b ≤ 1048576 := by
  unfold blksN
  cases he : emptyB (partR band res pr sd k) with
  | true => simp
  | false =>
    simp only [Bool.false_eq_true, if_false]
    obtain ⟨h1, h2, h3, h4, h5, h6⟩ := part_bd hB he
    have s1 := span_bd (k := a) h1 h2 h3 ha
    have s2 := span_bd (k := b) h4 h5 h6 hb
    have e1 : bW (partR band res pr sd k) a ≤ 1024 := by unfold bW; omega
    have e2 : bH (partR band res pr sd k) b ≤ 1024 := by unfold bH; omega
    exact Nat.mul_le_mul e1 e2

/-- the cells of a row of marks -/
def csB (s : Nat → Bool) (N : Nat) : Array Value := ((List.range N).map fun p => Value.bool (s p)).toArray
/-- how many are marked -/
def cntB (s : Nat → Bool) (N : Nat) : Nat := ((List.range N).filter s).length
theorem csB_congr {s t : Nat → Bool} {N : Nat} (h : ∀ p, p < N → s p = t p) : csB s N = csB t N := by
  unfold csB
  congr 1
  apply List.map_congr_left
  intro p hp
  rw [h p (List.mem_range.1 hp)]
theorem cntB_congr {s t : Nat → Bool} {N : Nat} (h : ∀ p, p < N → s p = t p) : cntB s N = cntB t N := by
  unfold cntB
  congr 1
  apply List.filter_congr
  intro p hp
  rw [h p (List.mem_range.1 hp)]
theorem csB_size (s : Nat → Bool) (N : Nat) : (csB s N).size = N := by simp [csB]
theorem csB_get {s : Nat → Bool} {N p : Nat} (hp : p < N) : (csB s N)[p]? = some (.bool (s p)) := by
  simp [csB, hp]
theorem csB_set {s : Nat → Bool} {N p : Nat} (hp : p < N) : (csB s N).setIfInBounds p (.bool true) = csB (fun q => s q || decide (q = p)) N := by
  apply Array.ext
  · simp [csB_size]
  · intro i h1 h2
    have hi : i < N := by simpa [csB_size] using h2
    have e2 : (csB (fun q => s q || decide (q = p)) N)[i] = .bool (s i || decide (i = p)) := by
      simp [csB]
    rw [e2, Array.getElem_setIfInBounds (by simpa [csB_size] using hi)]
    by_cases h : p = i
    · subst h; simp
    · rw [if_neg h]
      have : ¬ i = p := fun e => h e.symm
      simp [csB, this]
theorem cntB_succ (s : Nat → Bool) (N : Nat) : cntB s (N + 1) = cntB s N + (if s N then 1 else 0) := by
  unfold cntB
  rw [List.range_succ, List.filter_append, List.length_append]
  congr 1
  by_cases h : s N <;> simp [h]
theorem cntB_set {s : Nat → Bool} : ∀ {N p : Nat}, p < N → s p = false → cntB (fun q => s q || decide (q = p)) N = cntB s N + 1
  | 0, p, hp, _ => absurd hp (by omega)
  | N + 1, p, hp, hs => by
    rw [cntB_succ, cntB_succ]
    by_cases h : p = N
    · subst h
      rw [cntB_congr (t := s) (fun q hq => by have : ¬ q = p := by omega
                                              simp [this])]
      simp [hs]
    · rw [cntB_set (by omega) hs]
      have : ¬ N = p := fun e => h e.symm
      simp [this]
      omega
theorem cntB_all {s : Nat → Bool} {N : Nat} (h : ∀ p, p < N → s p = true) : cntB s N = N := by
  unfold cntB
  rw [List.filter_eq_self.2 (fun p hp => h p (List.mem_range.1 hp)), List.length_range]
theorem cntB_none {s : Nat → Bool} {N : Nat} (h : ∀ p, p < N → s p = false) : cntB s N = 0 := by
  unfold cntB
  rw [List.filter_eq_nil_iff.2 (fun p hp => by rw [h p (List.mem_range.1 hp)]; simp)]
  rfl
theorem cntB_le (s : Nat → Bool) (N : Nat) : cntB s N ≤ N := by
  unfold cntB
  have := List.length_filter_le s (List.range N)
  simpa using this

/-- a place of a band of so many columns: its column, its row -/
def pX (d : Rc) (W p : Nat) : Int := d.x0 + ((p % W : Nat) : Int)
def pY (d : Rc) (W p : Nat) : Int := d.y0 + ((p / W : Nat) : Int)
def inR (R : Rc) (x y : Int) : Prop := R.x0 ≤ x ∧ x < R.x1 ∧ R.y0 ≤ y ∧ y < R.y1
instance (R : Rc) (x y : Int) : Decidable (inR R x y) := by unfold inR; infer_instance
/-- its number -/
def pN (d : Rc) (W : Nat) (x y : Int) : Nat := ((y - d.y0) * (W : Int) + (x - d.x0)).toNat
theorem pN_law {d : Rc} {W H : Nat} (hW : (W : Int) = d.x1 - d.x0) (hH : (H : Int) = d.y1 - d.y0) {x y : Int} (h : inR d x y) :
    ((pN d W x y : Nat) : Int) = (y - d.y0) * (d.x1 - d.x0) + x - d.x0 ∧ pN d W x y < W * H ∧ pX d W (pN d W x y) = x ∧ pY d W (pN d W x y) = y := by
  obtain ⟨h1, h2, h3, h4⟩ := h
  obtain ⟨a, ha⟩ := Int.eq_ofNat_of_zero_le (show 0 ≤ x - d.x0 by omega)
  obtain ⟨b, hb⟩ := Int.eq_ofNat_of_zero_le (show 0 ≤ y - d.y0 by omega)
  have haW : a < W := by omega
  have hbH : b < H := by omega
  have e : pN d W x y = b * W + a := by
    unfold pN
    rw [ha, hb]
    have : (b : Int) * (W : Int) + (a : Int) = ((b * W + a : Nat) : Int) := by rw [Int.natCast_add, Int.natCast_mul]
    rw [this]; rfl
  have e1 : (b * W + a) % W = a := by rw [Nat.mul_comm b W, Nat.mul_add_mod, Nat.mod_eq_of_lt haW]
  have e2 : (b * W + a) / W = b := by rw [Nat.mul_comm b W, Nat.mul_add_div (by omega), Nat.div_eq_of_lt haW, Nat.add_zero]
  refine ⟨?_, ?_, ?_, ?_⟩
  · rw [e, ← hW, hb, Int.natCast_add, Int.natCast_mul]; omega
  · rw [e]
    have : (b + 1) * W ≤ H * W := Nat.mul_le_mul_right _ hbH
    rw [Nat.add_mul, Nat.one_mul] at this
    rw [Nat.mul_comm W H]; omega
  · unfold pX; rw [e, e1]; omega
  · unfold pY; rw [e, e2]; omega
theorem pXY_in {d : Rc} {W H : Nat} (hW : (W : Int) = d.x1 - d.x0) (hH : (H : Int) = d.y1 - d.y0) {p : Nat} (hp : p < W * H) : inR d (pX d W p) (pY d W p) := by
  have hW0 : 0 < W := by
    rcases Nat.eq_zero_or_pos W with h | h
    · rw [h, Nat.zero_mul] at hp; omega
    · exact h
  have h1 := Nat.mod_lt p hW0
  have h2 : p / W < H := by rw [Nat.div_lt_iff_lt_mul hW0, Nat.mul_comm]; exact hp
  unfold inR pX pY
  generalize p % W = a at *
  generalize p / W = b at *
  omega
theorem pN_eq {d : Rc} {W H : Nat} (hW : (W : Int) = d.x1 - d.x0) (hH : (H : Int) = d.y1 - d.y0) {p : Nat} (hp : p < W * H) {x y : Int} : p = pN d W x y ∧ inR d x y ↔ pX d W p = x ∧ pY d W p = y := by
  constructor
  · rintro ⟨rfl, h⟩
    have := pN_law hW hH h
    exact ⟨this.2.2.1, this.2.2.2⟩
  · rintro ⟨rfl, rfl⟩
    have hin := pXY_in hW hH hp
    refine ⟨?_, hin⟩
    unfold pN pX pY
    have e1 : (d.y0 + ((p / W : Nat) : Int) - d.y0) * (W : Int) + (d.x0 + ((p % W : Nat) : Int) - d.x0) = ((p / W * W + p % W : Nat) : Int) := by
      rw [show d.y0 + ((p / W : Nat) : Int) - d.y0 = ((p / W : Nat) : Int) by omega, show d.x0 + ((p % W : Nat) : Int) - d.x0 = ((p % W : Nat) : Int) by omega, Int.natCast_add, Int.natCast_mul]
    rw [e1, Nat.mul_comm, Nat.div_add_mod]
    rfl
end Go.Proofs.Ytmieoifagnpbiaa
