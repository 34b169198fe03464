/- CONTRACTS of waveletlaw12.known and one. -/
import Derived.Test.YtpgkdpoehkdhcaaTiles
namespace Go.Proofs.Ytpgkdpoehkdhcaa
open Go.RowKit
set_option maxHeartbeats 4000000
set_option linter.unusedVariables false
set_option linter.unusedSimpArgs false

def compL (d : CompD) : List Value := [.int .i64 d.dp, .bool d.sg, .int .i64 d.dx, .int .i64 d.dy, .slice d.A d.n d.c]
def comp8 : CompD := ⟨8, false, 1, 1, none, 0, 0⟩
theorem comps_of_cells {w : World} {B : Nat} {A : Option Addr} {n : Nat} {F : Nat → CompD} (h : CellsAt w B A 5 n (fun k => compL (F k))) : CompsAt w B A n F := fun h0 => by
  obtain ⟨b, off, rfl, hlt, hk⟩ := h h0
  refine ⟨b, off, rfl, hlt, fun k hkn => ?_⟩
  have h := hk k hkn
  exact ⟨h 0 _ rfl, h 1 _ rfl, h 2 _ rfl, h 3 _ rfl, h 4 _ rfl⟩
theorem comps_block {w : World} {b B : Nat} {cs : Array Value} {T : TypeId} {n : Nat} {F : Nat → CompD} (h : w.heap[b]? = some (.cells cs T (0, 0))) (hB : b < B) (hc : ∀ k, k < n → ∀ j, j < 5 → cs[k * 5 + j]? = (compL (F k))[j]?) : CompsAt w B (some ⟨b, 0, none⟩) n F :=
  comps_of_cells fun _ => ⟨b, 0, rfl, hB, fun k hk j u hu => by
    have hj : j < 5 := by
      rcases Nat.lt_or_ge j 5 with h | h
      · exact h
      · rw [List.getElem?_eq_none (by simpa [compL] using h)] at hu; cases hu
    rw [Nat.zero_add, cell_of_row _ _ _ cs T (0, 0) h, hc k hk j hj, hu]⟩

theorem comp8_cells : ∀ k, k < 1 → ∀ j, j < 5 → (#[.int .i64 8, .bool false, .int .i64 1, .int .i64 1, .slice none 0 0] : Array Value)[k * 5 + j]? = (compL comp8)[j]? := fun k hk j hj => by
  obtain rfl : k = 0 := by omega
  match j, hj with
  | 0, _ => rfl
  | 1, _ => rfl
  | 2, _ => rfl
  | 3, _ => rfl
  | 4, _ => rfl
end Go.Proofs.Ytpgkdpoehkdhcaa
