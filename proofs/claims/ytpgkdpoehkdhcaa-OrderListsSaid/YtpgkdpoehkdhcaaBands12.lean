/- CONTRACT of canvas.Bands. -/
import Derived.Test.YtpgkdpoehkdhcaaRes
import Derived.Test.YtpgkdpoehkdhcaaLast
namespace Go.Proofs.Ytpgkdpoehkdhcaa
open Go.RowKit
set_option maxHeartbeats 4000000
set_option linter.unusedVariables false
set_option linter.unusedSimpArgs false
set_option maxRecDepth 100000

/-- a number by 2^n, ceil; less half of that first -/
def hfI (x : Int) (n : Nat) (odd : Bool) : Int := ceI (x - (if odd then ((2 ^ (n - 1) : Nat) : Int) else 0)) n
def bandR (c : Rc) (n : Nat) (ox oy : Bool) : Rc := ⟨hfI c.x0 n ox, hfI c.y0 n oy, hfI c.x1 n ox, hfI c.y1 n oy⟩
theorem OwnI.of_block {w : World} {base b n : Nat} {e : TypeId} {cs : Array Value} {f : Nat → Int} (hb : w.heap[b]? = some (.cells cs e (0, 0))) (hbase : base ≤ b) (hn : n ≤ maxLen) (hc : cs.toList = (List.range n).map (fun i => .int .i64 (f i))) : OwnI w base e (.slice (some ⟨b, 0, none⟩) n n) n f := by
  have hl : cs.size = n := by rw [← Array.length_toList, hc]; simp
  exact ⟨by simp, .inr ⟨b, n, cs, rfl, hbase, hb, Nat.le_refl _, hn, by omega, by rw [List.take_of_length_le (by rw [Array.length_toList, hl]; omega), hc]⟩⟩
/-- how many bands a resolution has, their kinds, their rectangles -/
def bandN (r : Nat) : Nat := if r = 0 then 1 else 3
def kindI (r k : Nat) : Int := if r = 0 then 0 else (k : Int) + 1
def bandA (c : Rc) (lv r k : Nat) : Rc := if r = 0 then resR c lv else bandR c (lv - r + 1) ((k : Int) + 1 != 2) ((k : Int) + 1 != 1)
end Go.Proofs.Ytpgkdpoehkdhcaa
