/- AN ARGUMENT THAT IS AN api.Image, BY VALUE, OPENED: its numbers, its components, each component's samples. -/
import Derived.Test.YtmieoifagnpbiaaForm
import Derived.Test.YtmieoifagnpbiaaCan2
import Derived.Deep.Slices
import Derived.Deep.Fields
namespace Go.Proofs.Ytmieoifagnpbiaa
open Go.Joins Go.ChangeShapes Go.WideShapes Go.ChangeAt Go.RowKit Go.Deep
set_option linter.unusedVariables false
set_option linter.unusedSimpArgs false
set_option maxHeartbeats 2000000

section
variable {H : Type} {enc : TypeId × Value → H} {P : Program} {w : World} {base : Nat} {spare : Nat → Bool} {held : Bool}
theorem five_fields {e : TypeId} {f0 f1 f2 f3 f4 : Field} {fuel : Nat} {cs : List Value} {d : DataW H × List MemPlace} (hs : P.underlying e = some (.struct #[f0, f1, f2, f3, f4])) (hone : oneCellFields P #[f0, f1, f2, f3, f4] = true) (hl : cs.length = 5)
    (h : DataW.trod enc P w base spare held fuel e cs = some d) :
    ∃ (c0 c1 c2 c3 c4 : Value) (y0 y1 y2 y3 y4 : DataW H × List MemPlace) (n : Nat), cs = [c0, c1, c2, c3, c4] ∧ DataW.trod enc P w base spare held n f0.type [c0] = some y0 ∧ DataW.trod enc P w base spare held n f1.type [c1] = some y1 ∧ DataW.trod enc P w base spare held n f2.type [c2] = some y2 ∧ DataW.trod enc P w base spare held n f3.type [c3] = some y3 ∧ DataW.trod enc P w base spare held n f4.type [c4] = some y4 := by
  match cs, hl with
  | [c0, c1, c2, c3, c4], _ =>
    obtain ⟨xs, n, _, hx, _, hlen, hg⟩ := DataW.trod_struct hs h
    obtain ⟨o0, k0⟩ := hone_of hone 0 f0 rfl
    obtain ⟨o1, k1⟩ := hone_of hone 1 f1 rfl
    obtain ⟨o2, k2⟩ := hone_of hone 2 f2 rfl
    obtain ⟨o3, k3⟩ := hone_of hone 3 f3 rfl
    obtain ⟨o4, k4⟩ := hone_of hone 4 f4 rfl
    match xs, hlen with
    | [y0, y1, y2, y3, y4], _ =>
      exact ⟨c0, c1, c2, c3, c4, y0, y1, y2, y3, y4, n, rfl, by simpa [Value.cells, o0, k0] using hg 0 f0 rfl, by simpa [Value.cells, o1, k1] using hg 1 f1 rfl, by simpa [Value.cells, o2, k2] using hg 2 f2 rfl, by simpa [Value.cells, o3, k3] using hg 3 f3 rfl, by simpa [Value.cells, o4, k4] using hg 4 f4 rfl⟩
end
/-- one component that came in: its five cells, its samples -/
def CompIn (w : World) (a : Addr) (k : Nat) (d : CompD) (g : Nat → Int) : Prop :=
  (w.cell? (a.add (k * 5)) = some (.int .i64 d.dp) ∧ w.cell? (a.add (k * 5 + 1)) = some (.bool d.sg) ∧ w.cell? (a.add (k * 5 + 2)) = some (.int .i64 d.dx) ∧ w.cell? (a.add (k * 5 + 3)) = some (.int .i64 d.dy) ∧ w.cell? (a.add (k * 5 + 4)) = some (.slice d.A d.n d.c)) ∧ IntsAt w w.heap.size d.A d.n g ∧ d.n ≤ 9223372036854775807
theorem comp_in {H : Type} {enc : TypeId × Value → H} {w : World} {base : Nat} {spare : Nat → Bool} {held : Bool} (hsp : ∀ k, spare k = true) {a : Addr} {k n : Nat} {cs : List Value} {d : DataW H × List MemPlace}
    (hc : w.cells? base (a.add (k * 5)) 5 = some cs) (h : DataW.trod enc Try.prog w base spare held n 34 cs = some d) : ∃ (e : CompD) (g : Nat → Int), CompIn w a k e g := by
  obtain ⟨_, hcl, hat⟩ := World.cells?_some hc
  obtain ⟨c0, c1, c2, c3, c4, y0, y1, y2, y3, y4, n', rfl, h0, h1, h2, h3, h4⟩ := five_fields Try.underlying34 (by kernel_rfl) hcl h
  have cell : ∀ (j : Nat) (v : Value), [c0, c1, c2, c3, c4][j]? = some v → w.cell? (a.add (k * 5 + j)) = some v := fun j v hv => by
    have hj : j < 5 := by
      rcases Nat.lt_or_ge j 5 with h | h
      · exact h
      · rw [List.getElem?_eq_none (by simpa using h)] at hv; cases hv
    have := hat j hj
    rw [← Go.Deep.add_add, this]
    first
      | exact hv
      | (rw [List.getElem?_eq_getElem (by simpa using hj)] at hv; simpa using hv)
  have e0 := cell 0 _ rfl
  have e1 := cell 1 _ rfl
  have e2 := cell 2 _ rfl
  have e3 := cell 3 _ rfl
  have e4 := cell 4 _ rfl
  rw [Nat.add_zero] at e0
  clear cell
  obtain ⟨dp, q0, _, _⟩ := DataW.trod_int Try.underlying3 h0
  simp only [List.cons.injEq, and_true] at q0
  subst q0
  obtain ⟨sg, q1, _⟩ := DataW.trod_bool Try.underlying4 h1
  simp only [List.cons.injEq, and_true] at q1
  subst q1
  obtain ⟨dx, q2, _, _⟩ := DataW.trod_int Try.underlying3 h2
  simp only [List.cons.injEq, and_true] at q2
  subst q2
  obtain ⟨dy, q3, _, _⟩ := DataW.trod_int Try.underlying3 h3
  simp only [List.cons.injEq, and_true] at q3
  subst q3
  rcases open_ints Try.underlying32 Try.underlying3 (by kernel_rfl) h4 with ⟨hcs, _⟩ | ⟨x, l, c, zs, hcs, _, hl, hm, hz, _, hcell, hwz⟩
  · simp only [List.cons.injEq, and_true] at hcs
    subst hcs
    exact ⟨⟨dp, sg, dx, dy, none, 0, 0⟩, fun _ => 0, ⟨e0, e1, e2, e3, e4⟩, IntsAt.none_, by simp⟩
  · simp only [List.cons.injEq, and_true] at hcs
    subst hcs
    have hi := ints_of_row (w := w) (a := some x) (len := l) (cap := c) (zs := zs) (.inr ⟨_, rfl, hl, hm, by simpa [hsp] using hz, hcell, hwz⟩)
    exact ⟨⟨dp, sg, dx, dy, some x, l, c⟩, fun k => zs.getD k 0, ⟨e0, e1, e2, e3, e4⟩, hi.1, hi.2.1⟩
theorem comps_in {H : Type} {enc : TypeId × Value → H} {w : World} {base : Nat} {spare : Nat → Bool} {held : Bool} (hsp : ∀ k, spare k = true) {fuel : Nat} {v : Value} {x : DataW H × List MemPlace}
    (h : DataW.trod enc Try.prog w base spare held fuel 23 [v] = some x) : ∃ (A : Option Addr) (n c : Nat) (F : Nat → CompD) (G : Nat → Nat → Int), v = .slice A n c ∧ n ≤ c ∧ c ≤ maxLen ∧ CompsAt w w.heap.size A n F ∧ (∀ k, k < n → IntsAt w w.heap.size (F k).A (F k).n (G k)) ∧ ∀ k, k < n → (F k).n ≤ 9223372036854775807 := by
  rcases open_slice Try.underlying23 h with ⟨hcs, _⟩ | ⟨a, len, cap, m, n', D, Pl, hcs, _, hl, hm, hmm, _, hi⟩
  · simp only [List.cons.injEq, and_true] at hcs
    subst hcs
    exact ⟨none, 0, 0, fun _ => ⟨0, false, 0, 0, none, 0, 0⟩, fun _ _ => 0, rfl, Nat.le_refl _, Nat.zero_le _, fun h => absurd h (by omega), fun k hk => absurd hk (by omega), fun k hk => absurd hk (by omega)⟩
  · simp only [List.cons.injEq, and_true] at hcs
    subst hcs
    rw [if_pos (hsp _)] at hmm
    have h5 : Try.prog.cellsOf 34 = 5 := by kernel_rfl
    have hex : ∀ k, ∃ (e : CompD) (g : Nat → Int), k < len → CompIn w a k e g := fun k => by
      by_cases hk : k < len
      · obtain ⟨cs', hc, ht⟩ := hi k (by omega)
        rw [h5] at hc
        obtain ⟨e, g, hin⟩ := comp_in hsp hc ht
        exact ⟨e, g, fun _ => hin⟩
      · exact ⟨⟨0, false, 0, 0, none, 0, 0⟩, fun _ => 0, fun h => absurd h hk⟩
    refine ⟨some a, len, cap, fun k => Classical.choose (hex k), fun k => Classical.choose (Classical.choose_spec (hex k)), rfl, hl, hm, fun hn => ?_, fun k hk => ?_, fun k hk => ?_⟩
    · have hs := fun k hk => Classical.choose_spec (Classical.choose_spec (hex k)) hk
      obtain ⟨⟨b0, b1, b2, b3, b4⟩, _⟩ := hs 0 hn
      have hz : a.add (0 * 5) = a.add 0 := rfl
      obtain ⟨b, off, sub⟩ := a
      have hsub : sub = none := by
        have := World.cell?_spot b0
        simpa [Addr.add] using this
      subst hsub
      refine ⟨b, off, rfl, World.block_lt_of_cell? w _ b0, fun k hk => ?_⟩
      obtain ⟨⟨c0, c1, c2, c3, c4⟩, _⟩ := hs k hk
      have ad : ∀ m, (⟨b, off, none⟩ : Addr).add m = ⟨b, off + m, none⟩ := fun m => by
        unfold Addr.add
        split
        · rename_i h0
          rw [h0, Nat.add_zero]
        · rfl
      rw [ad] at c0 c1 c2 c3 c4
      exact ⟨c0, by rw [Nat.add_assoc]; exact c1, by rw [Nat.add_assoc]; exact c2, by rw [Nat.add_assoc]; exact c3, by rw [Nat.add_assoc]; exact c4⟩
    · exact (Classical.choose_spec (Classical.choose_spec (hex k)) hk).2.1
    · exact (Classical.choose_spec (Classical.choose_spec (hex k)) hk).2.2
/-- an api.Image, opened -/
theorem open_img {H : Type} {enc : TypeId × Value → H} {w : World} {r : Reach} {b0 base : Nat} {spare : Nat → Bool} (hsp : ∀ k, spare k = true) {held : Bool} {v : Value} {d : DataW H} {p : List MemPlace} (hv : Value.okWide Try.prog w r b0 25 v) (h : DataW.Trod enc Try.prog w base spare held 25 v d p) :
    ∃ (X Y Ox Oy : Int) (A : Option Addr) (n c : Nat) (F : Nat → CompD) (G : Nat → Nat → Int), v = .agg #[.int .i64 X, .int .i64 Y, .int .i64 Ox, .int .i64 Oy, .slice A n c] ∧ n ≤ c ∧ c ≤ maxLen ∧ CompsAt w w.heap.size A n F ∧ (∀ k, k < n → IntsAt w w.heap.size (F k).A (F k).n (G k)) ∧ ∀ k, k < n → (F k).n ≤ 9223372036854775807 := by
  obtain ⟨cs, rfl, hsz⟩ := okWide_struct Try.underlying25 hv
  obtain ⟨l⟩ := cs
  have hC : Try.prog.cellsOf 25 = 5 := by kernel_rfl
  have hl : l.length = 5 := hsz.trans hC
  obtain ⟨fuel, hf⟩ := h
  obtain ⟨c0, c1, c2, c3, c4, y0, y1, y2, y3, y4, n', rfl, h0, h1, h2, h3, h4⟩ := five_fields Try.underlying25 (by kernel_rfl) hl hf
  obtain ⟨X, q0, _, _⟩ := DataW.trod_int Try.underlying3 h0
  simp only [List.cons.injEq, and_true] at q0
  subst q0
  obtain ⟨Y, q1, _, _⟩ := DataW.trod_int Try.underlying3 h1
  simp only [List.cons.injEq, and_true] at q1
  subst q1
  obtain ⟨Ox, q2, _, _⟩ := DataW.trod_int Try.underlying3 h2
  simp only [List.cons.injEq, and_true] at q2
  subst q2
  obtain ⟨Oy, q3, _, _⟩ := DataW.trod_int Try.underlying3 h3
  simp only [List.cons.injEq, and_true] at q3
  subst q3
  obtain ⟨A, n, c, F, G, rfl, r1, r2, r3, r4, r5⟩ := comps_in hsp h4
  exact ⟨X, Y, Ox, Oy, A, n, c, F, G, rfl, r1, r2, r3, r4, r5⟩
end Go.Proofs.Ytmieoifagnpbiaa
