/- CONTRACT of canvas.Check. -/
import Derived.Test.YtpgkdpoehkdhcaaPart12
import Derived.Test.YtpgkdpoehkdhcaaHeld
namespace Go.Proofs.Ytpgkdpoehkdhcaa
open Go.RowKit
set_option maxHeartbeats 4000000
set_option linter.unusedVariables false
set_option linter.unusedSimpArgs false
set_option maxRecDepth 100000

def sampOk (lo hi : Int) (n : Nat) (f : Nat → Int) : Bool := (List.range n).all fun i => inB (f i) lo hi
theorem sampOk_succ (lo hi : Int) (n : Nat) (f : Nat → Int) : sampOk lo hi (n + 1) f = (sampOk lo hi n f && inB (f n) lo hi) := by
  unfold sampOk
  rw [List.range_succ, List.all_append]
  simp
theorem sampOk_bad {lo hi : Int} {n i : Nat} {f : Nat → Int} (hi' : i < n) (h : inB (f i) lo hi = false) : sampOk lo hi n f = false := by
  unfold sampOk
  rw [List.all_eq_false]
  exact ⟨i, List.mem_range.2 hi', by simp [h]⟩
def areaN (X Y Ox Oy dx dy : Nat) : Nat := (byN X dx - byN Ox dx) * (byN Y dy - byN Oy dy)
/-- what is wrong with a component -/
def compE (X Y Ox Oy : Nat) (d : CompD) (f : Nat → Int) : Int :=
  if d.n = areaN X Y Ox Oy d.dx.toNat d.dy.toNat then (if sampOk (loB d.dp.toNat d.sg) (hiB d.dp.toNat d.sg) d.n f then 0 else 11) else 7
def firstE (E : Nat → Int) : Nat → Int
  | 0 => 0
  | k + 1 => if firstE E k = 0 then E k else firstE E k
theorem firstE_stop {E : Nat → Int} {k : Nat} (h : firstE E k ≠ 0) : ∀ n, k ≤ n → firstE E n = firstE E k
  | 0, hn => by rw [show k = 0 by omega]
  | n + 1, hn => by
    by_cases hk : k = n + 1
    · rw [hk]
    · have := firstE_stop h n (by omega)
      show (if firstE E n = 0 then E n else firstE E n) = _
      rw [this, if_neg h]
theorem firstE_at {E : Nat → Int} {k n : Nat} (h0 : firstE E k = 0) (hk : k < n) (h : E k ≠ 0) : firstE E n = E k := by
  have h1 : firstE E (k + 1) = E k := by
    show (if firstE E k = 0 then E k else firstE E k) = _
    rw [if_pos h0]
  rw [← h1]
  exact firstE_stop (by rw [h1]; exact h) n hk
theorem firstE_next {E : Nat → Int} {k : Nat} (h0 : firstE E k = 0) (h : E k = 0) : firstE E (k + 1) = 0 := by
  show (if firstE E k = 0 then E k else firstE E k) = _
  rw [if_pos h0, h]
def checkE (X Y Ox Oy : Int) (n : Nat) (F : Nat → CompD) (G : Nat → Nat → Int) (tx ty lv cw ch pr st od ly : Int) (rct : Bool) : Int :=
  if frameE X Y Ox Oy n F tx ty lv cw ch pr st od ly rct = 0 then firstE (fun k => compE X.toNat Y.toNat Ox.toNat Oy.toNat (F k) (G k)) n else frameE X Y Ox Oy n F tx ty lv cw ch pr st od ly rct
theorem frame_pic {X Y Ox Oy : Int} {n : Nat} {F : Nat → CompD} {tx ty lv cw ch pr st od ly : Int} {rct : Bool} (h : frameE X Y Ox Oy n F tx ty lv cw ch pr st od ly rct = 0) : pictureE X Y Ox Oy n F = 0 := by
  unfold frameE at h
  split at h
  · assumption
  · assumption
theorem allOk_at {n k : Nat} {F : Nat → CompD} (h : allOk n F = true) (hk : k < n) : compOk (F k) = true := by
  unfold allOk at h
  rw [List.all_eq_true] at h
  exact h k (List.mem_range.2 hk)
theorem compOk_bd {d : CompD} (h : compOk d = true) : 1 ≤ d.dp ∧ d.dp ≤ 16 ∧ 1 ≤ d.dx ∧ d.dx ≤ 4 ∧ 1 ≤ d.dy ∧ d.dy ≤ 4 := by
  unfold compOk at h
  rw [Bool.and_eq_true, Bool.and_eq_true] at h
  have h1 := inB_true.1 h.1
  have h2 := inB_true.1 h.2.1
  have h3 := inB_true.1 h.2.2
  exact ⟨h1.1, h1.2, h2.1, h2.2, h3.1, h3.2⟩
theorem heap_set1 {w : World} {g j : Nat} {cs : Array Value} {T : TypeId} (h : w.heap[g]? = some (.cells cs T (0, 0))) (u : Value) : (w.setCell ⟨g, j, none⟩ u).heap[g]? = some (.cells (cs.setIfInBounds j u) T (0, 0)) := heap_setCell_same w g j cs T u h
theorem mx0 {a b : Nat} (h : (b : Int) - a = ((b - a : Nat) : Int) ∨ True) : (if (b : Int) - a < 0 then 0 else (b : Int) - a) = ((b - a : Nat) : Int) := by
  split <;> omega

end Go.Proofs.Ytpgkdpoehkdhcaa
