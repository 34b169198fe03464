/- A REGION THAT DRAWS ITS ORDER, walked by takes: as wip/region.py prints them. -/
import Derived.Test.YtmieoifagnpbiaaTiles
namespace Go.Proofs.Ytmieoifagnpbiaa
open Go.RowKit
set_option linter.unusedVariables false

theorem held_region {P : Program} {ops : Array Oper} {Q : Exit → Act → World → Prop} {id : Nat} (hm : P.follows .mixedOrders = true) (S : World → Prop)
    {K : Act → World → Prop} (hK : ∀ a w, K a w → Q .normal a w) {a : Act} {w : World}
    (h : S w.drew → wpAnyH P .any ops (OnlyN K) S ops.size (Array.replicate ops.size false) a w.drew) (hS : S w.drew) : (Code.region id ops true).wp P Q a w :=
  wp_mono (wp_region_held hm (h hS)) (onlyN_imp hK)
theorem OwnC.ne_block {w : World} {base n sz p : Nat} {e T : TypeId} {v : Value} {f : Nat → List Value} {cs : Array Value} {fl : Nat × Nat} (h : OwnC w base e sz v n f) (hp : w.heap[p]? = some (.cells cs T fl)) (hne : e ≠ T) : v.ownBlock ≠ some p := by
  rcases h.2.2 with ⟨rfl, _⟩ | ⟨g, cap, cur, rfl, _, hh, _⟩
  · simp [Value.ownBlock]
  · intro he
    have : g = p := by simpa [Value.ownBlock] using he
    subst this
    rw [hp] at hh
    injection hh with hh
    injection hh with _ hh _
    exact hne hh.symm
theorem OwnC.of_block {w : World} {base b n sz : Nat} {e : TypeId} {cs : Array Value} {f : Nat → List Value} (hb : w.heap[b]? = some (.cells cs e (0, 0))) (hbase : base ≤ b) (hf : ∀ k, (f k).length = sz) (hn : n ≤ maxLen) (hc : cs.toList = (List.range n).flatMap f) : OwnC w base e sz (.slice (some ⟨b, 0, none⟩) n n) n f := by
  have hl : cs.size = n * sz := by rw [← Array.length_toList, hc, flat_len hf]
  exact ⟨hf, flat_len hf n, .inr ⟨b, n, cs, rfl, hbase, hb, Nat.le_refl _, hn, hl, by rw [List.take_of_length_le (by rw [Array.length_toList, hl]; exact Nat.le_refl _), hc]⟩⟩
theorem comp_elem : ElemC Try.prog 23 34 5 := elemC_of (.agg #[.int .i64 0, .bool false, .int .i64 0, .int .i64 0, .slice none 0 0]) 56 (by kernel_rfl) rfl (by omega) (by omega) Try.underlying23
end Go.Proofs.Ytmieoifagnpbiaa
