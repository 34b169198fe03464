/- A REGION THAT DRAWS ITS ORDER, walked by takes: as wip/region.py prints them. -/
import Derived.Test.YtpgkdpoehkdhcaaTiles
namespace Go.Proofs.Ytpgkdpoehkdhcaa
open Go.RowKit
set_option linter.unusedVariables false

theorem held_region {P : Program} {ops : Array Oper} {Q : Exit → Act → World → Prop} {id : Nat} (hm : P.follows .mixedOrders = true) (S : World → Prop)
    {K : Act → World → Prop} (hK : ∀ a w, K a w → Q .normal a w) {a : Act} {w : World}
    (h : S w.drew → wpAnyH P .any ops (OnlyN K) S ops.size (Array.replicate ops.size false) a w.drew) (hS : S w.drew) : (Code.region id ops true).wp P Q a w :=
  wp_mono (wp_region_held hm (h hS)) (onlyN_imp hK)
/-- .. and what comes behind it is walked once: J says what the region leaves of its frame and of the world -/
theorem held_cut {P : Program} {ops : Array Oper} {Q : Exit → Act → World → Prop} {id : Nat} (hm : P.follows .mixedOrders = true) (S : World → Prop)
    (J : Act → Act → World → Prop) {a : Act} {w : World} (hS : S w.drew)
    (h : S w.drew → wpAnyH P .any ops (OnlyN (J a)) S ops.size (Array.replicate ops.size false) a w.drew) (hK : ∀ a' w', J a a' w' → Q .normal a' w') : (Code.region id ops true).wp P Q a w :=
  held_region hm S hK h hS
theorem OwnC.ne_block {w : World} {base n sz p : Nat} {e T : TypeId} {v : Value} {f : Nat → List Value} {cs : Array Value} {fl : Nat × Nat} (h : OwnC w base e sz v n f) (hp : w.heap[p]? = some (.cells cs T fl)) (hne : e ≠ T) : v.ownBlock ≠ some p := by
  rcases h.2.2 with ⟨rfl, _⟩ | ⟨g, cap, cur, rfl, _, hh, _⟩
  · simp [Value.ownBlock]
  · intro he
    have : g = p := by simpa [Value.ownBlock] using he
    subst this
    rw [hp] at hh
    injection hh with hh
    injection hh with _ hh _
    exact hne hh.symm
theorem OwnC.of_block {w : World} {base b n sz : Nat} {e : TypeId} {cs : Array Value} {f : Nat → List Value} (hb : w.heap[b]? = some (.cells cs e (0, 0))) (hbase : base ≤ b) (hf : ∀ k, (f k).length = sz) (hn : n ≤ maxLen) (hc : cs.toList = (List.range n).flatMap f) : OwnC w base e sz (.slice (some ⟨b, 0, none⟩) n n) n f := by
  have hl : cs.size = n * sz := by rw [← Array.length_toList, hc, flat_len hf]
  exact ⟨hf, flat_len hf n, .inr ⟨b, n, cs, rfl, hbase, hb, Nat.le_refl _, hn, hl, by rw [List.take_of_length_le (by rw [Array.length_toList, hl]; exact Nat.le_refl _), hc]⟩⟩
theorem flat_set {sz : Nat} {f : Nat → List Value} (hf : ∀ k, (f k).length = sz) {k j n : Nat} (hj : j < sz) (hk : k < n) (u : Value) :
    ((List.range n).flatMap f).set (k * sz + j) u = (List.range n).flatMap (fun i => if i = k then (f k).set j u else f i) := by
  have hf' : ∀ i, (if i = k then (f k).set j u else f i).length = sz := fun i => by split <;> simp [hf]
  apply List.ext_getElem?
  intro i
  rw [List.getElem?_set]
  by_cases hi : i < n * sz
  · have hd : i / sz < n := (Nat.div_lt_iff_lt_mul (by omega)).2 hi
    have hm := Nat.mod_lt i (show 0 < sz by omega)
    have he : i / sz * sz + i % sz = i := by rw [Nat.mul_comm]; exact Nat.div_add_mod i sz
    generalize i / sz = a at *
    generalize i % sz = b at *
    subst he
    rw [flat_get hf' a b hm n hd, flat_len hf, flat_get hf a b hm n hd]
    by_cases hak : a = k
    · subst hak
      simp only [if_true, List.getElem?_set, hf]
      by_cases hb : j = b
      · subst hb; simp [hi, hm]
      · simp [hb]
    · have : ¬ (k * sz + j = a * sz + b) := by
        intro h
        apply hak
        have h1 : (k * sz + j) / sz = k := by rw [Nat.mul_comm, Nat.mul_add_div (by omega), Nat.div_eq_of_lt hj, Nat.add_zero]
        have h2 : (a * sz + b) / sz = a := by rw [Nat.mul_comm, Nat.mul_add_div (by omega), Nat.div_eq_of_lt hm, Nat.add_zero]
        rw [← h2, ← h, h1]
      simp [this, hak]
  · rw [List.getElem?_eq_none (by rw [flat_len hf]; omega), List.getElem?_eq_none (by rw [flat_len hf']; omega), flat_len hf]
    split
    · split
      · omega
      · rfl
    · rfl
theorem OwnC.stored {w : World} {base : Nat} {e : TypeId} {g sz n c : Nat} {f : Nat → List Value} (h : OwnC w base e sz (.slice (some ⟨g, 0, none⟩) n c) n f) {k j : Nat} (hk : k < n) (hj : j < sz) (u : Value) :
    OwnC (w.setCell ⟨g, k * sz + j, none⟩ u) base e sz (.slice (some ⟨g, 0, none⟩) n c) n (fun i => if i = k then (f k).set j u else f i) :=
  ⟨fun i => by dsimp only; split <;> simp [h.1], by rw [← flat_set h.1 hj hk]; exact (World.ownsRow.stored h.2 _ u).1⟩
theorem OwnC.frozen {w : World} {base : Nat} {e : TypeId} {g sz n c : Nat} {f : Nat → List Value} (h : OwnC w base e sz (.slice (some ⟨g, 0, none⟩) n c) n f) (j : Nat) : w.frozen? ⟨g, j, none⟩ = false := World.ownsRow.frozenAt h.2 j
theorem OwnC.row {w : World} {base : Nat} {e : TypeId} {sz : Nat} {A : Option Addr} {n c : Nat} {f : Nat → List Value} (h : OwnC w base e sz (.slice A n c) n f) (hn : 0 < n) : ∃ g, A = some ⟨g, 0, none⟩ ∧ base ≤ g ∧ g < w.heap.size := by
  obtain ⟨_, h⟩ := h.2
  rcases h with ⟨e, h0⟩ | ⟨g, cap, cur, e, hb, hh, _⟩
  · omega
  · injection e with e _ _
    exact ⟨g, e, hb, (Array.getElem?_eq_some_iff.1 hh).1⟩
theorem comp_elem : ElemC Try.prog 26 48 5 := elemC_of (.agg #[.int .i64 0, .bool false, .int .i64 0, .int .i64 0, .slice none 0 0]) 56 (by kernel_rfl) rfl (by omega) (by omega) Try.underlying26
end Go.Proofs.Ytpgkdpoehkdhcaa
