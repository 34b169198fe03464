/- WORDS FOR MEMORY: a slice of structs, each of the same number of cells, as a function of the index. -/
import Derived.Test.YtpgkdpoehkdhcaaMem2
import Derived.OrdersHeld
import Derived.RangeFuncNested
import Derived.RangeFuncBox
import Derived.Maps.OwnIn
import Derived.Deep.Onto
namespace Go.Proofs.Ytpgkdpoehkdhcaa
open Go.RowKit
set_option linter.unusedVariables false

/-- n structs of sz cells each, the k-th's cells f k, from address A on, in a block below number B -/
def CellsAt (w : World) (B : Nat) (A : Option Addr) (sz n : Nat) (f : Nat → List Value) : Prop :=
  0 < n → ∃ b off, A = some ⟨b, off, none⟩ ∧ b < B ∧ ∀ k, k < n → ∀ (j : Nat) (u : Value), (f k)[j]? = some u → w.cell? ⟨b, off + k * sz + j, none⟩ = some u
section
variable {w w' : World} {B B' : Nat} {A : Option Addr} {sz n : Nat} {f g : Nat → List Value}
theorem CellsAt.none_ : CellsAt w B A sz 0 f := fun h => absurd h (by omega)
theorem CellsAt.at_ {k : Nat} (h : CellsAt w B A sz n f) (hk : k < n) : ∃ b off, A = some ⟨b, off, none⟩ ∧ b < B ∧ ∀ (j : Nat) (u : Value), (f k)[j]? = some u → w.cell? ⟨b, off + k * sz + j, none⟩ = some u := by
  obtain ⟨b, off, hA, hb, hc⟩ := h (by omega)
  exact ⟨b, off, hA, hb, hc k hk⟩
theorem CellsAt.congr (h : CellsAt w B A sz n f) (e : ∀ k, k < n → f k = g k) : CellsAt w B A sz n g := fun hn => by
  obtain ⟨b, off, hA, hb, hc⟩ := h hn
  exact ⟨b, off, hA, hb, fun k hk j u hj => hc k hk j u (by rw [e k hk]; exact hj)⟩
theorem CellsAt.below (h : CellsAt w B A sz n f) (hb : Below B w w') : CellsAt w' B A sz n f := fun hn => by
  obtain ⟨b, off, hA, hlt, hc⟩ := h hn
  exact ⟨b, off, hA, hlt, fun k hk j u hj => (hb.cell (p := ⟨b, off + k * sz + j, none⟩) hlt).trans (hc k hk j u hj)⟩
theorem CellsAt.more (h : CellsAt w B A sz n f) (hB : B ≤ B') : CellsAt w B' A sz n f := fun hn => by
  obtain ⟨b, off, hA, hlt, hc⟩ := h hn
  exact ⟨b, off, hA, by omega, hc⟩
theorem CellsAt.drewN (h : CellsAt w B A sz n f) (q : Nat) : CellsAt (w.drewN q) B A sz n f := h
theorem CellsAt.drew (h : CellsAt w B A sz n f) : CellsAt w.drew B A sz n f := h
theorem CellsAt.some_ (h : CellsAt w B A sz n f) (hn : 0 < n) : ∃ b off, A = some ⟨b, off, none⟩ := by
  obtain ⟨b, off, e, _⟩ := h hn
  exact ⟨b, off, e⟩
theorem CellsAt.cells {b off : Nat} (h : CellsAt w B (some ⟨b, off, none⟩) sz n f) {k j : Nat} {u : Value} (hk : k < n) (hu : (f k)[j]? = some u) : w.cell? ⟨b, off + k * sz + j, none⟩ = some u := by
  obtain ⟨b', off', e, _, hc⟩ := h.at_ hk
  injection e with e
  injection e with e1 e2 _
  subst e1 e2
  exact hc j u hu
end

theorem flat_len {sz : Nat} {f : Nat → List Value} (hf : ∀ k, (f k).length = sz) : ∀ n, ((List.range n).flatMap f).length = n * sz
  | 0 => by simp
  | n + 1 => by rw [List.range_succ, List.flatMap_append, List.length_append, flat_len hf n]; simp [hf, Nat.add_mul]
theorem flat_snoc (f : Nat → List Value) (n : Nat) : (List.range n).flatMap f ++ f n = (List.range (n + 1)).flatMap f := by
  rw [List.range_succ, List.flatMap_append]; simp
theorem flat_get {sz : Nat} {f : Nat → List Value} (hf : ∀ k, (f k).length = sz) (k j : Nat) (hj : j < sz) : ∀ n, k < n → ((List.range n).flatMap f)[k * sz + j]? = (f k)[j]?
  | 0, h => absurd h (by omega)
  | n + 1, h => by
    rw [← flat_snoc]
    by_cases hk : k < n
    · rw [List.getElem?_append_left, flat_get hf k j hj n hk]
      rw [flat_len hf]
      calc k * sz + j < k * sz + sz := by omega
        _ = (k + 1) * sz := by rw [Nat.add_mul, Nat.one_mul]
        _ ≤ n * sz := Nat.mul_le_mul_right _ hk
    · have : k = n := by omega
      subst this
      rw [List.getElem?_append_right (by rw [flat_len hf]; omega), flat_len hf, Nat.add_sub_cancel_left]
theorem flat_congr {f g : Nat → List Value} {n : Nat} (h : ∀ k, k < n → f k = g k) : (List.range n).flatMap f = (List.range n).flatMap g := by
  induction n with
  | zero => rfl
  | succ n ih => rw [← flat_snoc, ← flat_snoc, ih (fun k hk => h k (by omega)), h n (by omega)]
theorem flat_add (f : Nat → List Value) (n m : Nat) : (List.range n).flatMap f ++ (List.range m).flatMap (fun k => f (n + k)) = (List.range (n + m)).flatMap f := by
  induction m with
  | zero => simp
  | succ m ih => rw [← flat_snoc, ← List.append_assoc, ih, flat_snoc, Nat.add_assoc]

/-- a slice of structs that the call owns -/
def OwnC (w : World) (base : Nat) (e : TypeId) (sz : Nat) (v : Value) (n : Nat) (f : Nat → List Value) : Prop := (∀ k, (f k).length = sz) ∧ w.ownsRow base e sz v n ((List.range n).flatMap f)
section
variable {w w' : World} {base base' : Nat} {e : TypeId} {sz n : Nat} {v : Value} {f g : Nat → List Value}
theorem OwnC.nil_ (w : World) (base : Nat) (e : TypeId) (sz : Nat) (f : Nat → List Value) (hf : ∀ k, (f k).length = sz) : OwnC w base e sz (.slice none 0 0) 0 f := ⟨hf, World.ownsRow_nil _ _ _ _⟩
theorem OwnC.mono (h : OwnC w base e sz v n f) (hb : base' ≤ base) : OwnC w base' e sz v n f := ⟨h.1, World.ownsRow.mono h.2 hb⟩
theorem OwnC.kept {row : Option Nat} (h : OwnC w base e sz v n f) (hg : w.grownBy w' row) (hne : v.ownBlock = none ∨ v.ownBlock ≠ row) : OwnC w' base e sz v n f := ⟨h.1, World.ownsRow.kept h.2 hg hne⟩
theorem OwnC.alloc (h : OwnC w base e sz v n f) (o : Obj) : OwnC (w.alloc o) base e sz v n f := ⟨h.1, World.ownsRow.alloc h.2 o⟩
theorem OwnC.drewN (h : OwnC w base e sz v n f) (q : Nat) : OwnC (w.drewN q) base e sz v n f := h
theorem OwnC.drew (h : OwnC w base e sz v n f) : OwnC w.drew base e sz v n f := h
theorem OwnC.lt (h : OwnC w base e sz v n f) : ∀ k, v.ownBlock = some k → base ≤ k ∧ k < w.heap.size := World.ownsRow.lt h.2
theorem OwnC.congr (h : OwnC w base e sz v n f) (hg : ∀ k, (g k).length = sz) (hc : ∀ k, k < n → f k = g k) : OwnC w base e sz v n g := ⟨hg, by rw [← flat_congr hc]; exact h.2⟩
theorem OwnC.below (h : OwnC w base e sz v n f) (hb : Below w.heap.size w w') : OwnC w' base e sz v n f :=
  h.kept (row := none) ⟨hb.os, hb.tape, hb.output, hb.size, fun k hk _ => hb.block k hk⟩ (by
    rcases hv : v.ownBlock with _ | k
    · exact .inl rfl
    · exact .inr (by simp))
theorem OwnC.other (h : OwnC w base e sz v n f) {a : Addr} (ha : v.ownBlock ≠ some a.block) (u : Value) : OwnC (w.setCell a u) base e sz v n f := ⟨h.1, _root_.Go.ownsRow_setCell_other h.2 ha u⟩
theorem OwnC.cells_row (h : OwnC w base e sz v n f) {j : Nat} {o : Obj} (hv : v.ownBlock = some j) (ho : w.heap[j]? = some o) : o.isCells = true := by
  rcases h.2.2 with ⟨rfl, _⟩ | ⟨g, cap, cur, rfl, _, hg, _⟩
  · cases hv
  · have : g = j := by simpa [Value.ownBlock] using hv
    subst this
    rw [hg] at ho
    cases ho
    rfl
theorem OwnC.keptNC {row : Option Nat} (h : OwnC w base e sz v n f) (hg : w.grownBy w' row) (hr : ∀ r, row = some r → ∃ o : Obj, w.heap[r]? = some o ∧ o.isCells = false) : OwnC w' base e sz v n f := by
  refine h.kept hg ?_
  rcases hv : v.ownBlock with _ | k
  · exact .inl rfl
  · refine .inr fun he => ?_
    obtain ⟨o, ho, hc⟩ := hr k he.symm
    rw [h.cells_row hv ho] at hc
    cases hc
theorem OwnC.form (h : OwnC w base e sz v n f) :
    ∃ A c, v = .slice A n c ∧ n ≤ c ∧ c ≤ maxLen ∧ CellsAt w w.heap.size A sz n f ∧ (∀ ad, A = some ad → base ≤ ad.block) := by
  obtain ⟨hf, h⟩ := h
  have h' := h
  obtain ⟨hl, h⟩ := h
  rcases h with ⟨rfl, rfl⟩ | ⟨g, cap, cur, rfl, hb, hh, hnc, hm, hr, ht⟩
  · exact ⟨none, 0, rfl, Nat.le_refl _, by unfold maxLen; omega, CellsAt.none_, fun _ h => by cases h⟩
  · refine ⟨some ⟨g, 0, none⟩, cap, rfl, hnc, hm, fun hn => ⟨g, 0, rfl, (Array.getElem?_eq_some_iff.1 hh).1, fun k hk j u hu => ?_⟩, fun ad h => by cases h; exact hb⟩
    have hj : j < sz := by
      rcases Nat.lt_or_ge j sz with h | h
      · exact h
      · rw [List.getElem?_eq_none (by rw [hf]; exact h)] at hu; cases hu
    have hx := h'.cellAt (k * sz + j) (by
      calc k * sz + j < k * sz + sz := by omega
        _ = (k + 1) * sz := by rw [Nat.add_mul, Nat.one_mul]
        _ ≤ n * sz := Nat.mul_le_mul_right _ hk)
    rw [Nat.zero_add, hx, flat_get hf k j hj n hk]
    exact hu
theorem OwnC.at_ {A : Option Addr} {c : Nat} (h : OwnC w base e sz (.slice A n c) n f) : CellsAt w w.heap.size A sz n f := by
  obtain ⟨_, _, e, _, _, i, _⟩ := h.form
  injection e with e _ _
  subst e
  exact i
theorem OwnC.cap {A : Option Addr} {c : Nat} (h : OwnC w base e sz (.slice A n c) n f) : n ≤ c ∧ c ≤ 9223372036854775807 := by
  obtain ⟨_, _, e, h1, h2, _, _⟩ := h.form
  injection e with _ _ e
  subst e
  exact ⟨h1, h2⟩
end

/-- what an append leaves: below block 'base' all is as it was; whatever else the call owns stands, apart from the new row -/
structure StepC (w w' : World) (base : Nat) (v v' : Value) : Prop where
  below : Below base w w'
  keep : ∀ (u : Value) (m : Nat) (e : TypeId) (sz : Nat) (f : Nat → List Value), OwnC w base e sz u m f → Sep v u → OwnC w' base e sz u m f
  keepI : ∀ (u : Value) (m : Nat) (e : TypeId) (f : Nat → Int), OwnI w base e u m f → Sep v u → OwnI w' base e u m f
  sep : ∀ (u : Value), (∀ k, u.ownBlock = some k → k < w.heap.size) → Sep v u → Sep v' u
  box : ∀ (p : Nat) (T : TypeId) (u : Value), Box w p T u → v.ownBlock ≠ some p → Box w' p T u
  cells : ∀ p : Addr, p.block < w.heap.size → v.ownBlock ≠ some p.block → w'.cell? p = w.cell? p
  others : KeepsOthers w w'
  blocks : ∀ p : Nat, p < w.heap.size → v.ownBlock ≠ some p → w'.heap[p]? = w.heap[p]?

theorem stepC_of {w0 w w' : World} (hW : Below w0.heap.size w0 w) (hO : KeepsOthers w0 w) {base n c sz : Nat} {A : Option Addr} {e : TypeId} {f : Nat → List Value} (hown : OwnC w0 base e sz (.slice A n c) n f) (hbase : base ≤ w0.heap.size)
    {v' : Value} (h2 : w.grownBy w' (Value.slice A n c).ownBlock) (h5 : v'.ownBlock = (Value.slice A n c).ownBlock ∨ v'.ownBlock = some w.heap.size) : StepC w0 w' base (.slice A n c) v' := by
  have hownW := hown.below hW
  have hsz := hW.size
  refine ⟨(hW.mono hbase).trans ((Below.refl base w).grown h2 (by omega) (fun j hj => (hown.lt j hj).1)), fun u m e' sz' f' hu hs' => (hu.below hW).kept h2 hs'.symm.row, fun u m e' f' hu hs' => (hu.below hW).kept h2 hs'.symm.row, fun u hu hs' k h6 h7 => ?_, fun p T u hx hne => (hx.below hW hx.lt).grown h2 (fun e => hne e.symm), fun p hp hne => (h2.cell_far p (by omega) (fun e => hne e.symm)).trans (hW.cell hp),
    hO.trans (KeepsOthers.of_grownBy h2 (fun j o hj ho => hownW.cells_row hj ho)), fun p hp hne => (h2.block p (by omega) (fun e => hne e.symm)).trans (hW.block p hp)⟩
  rcases h5 with h5 | h5
  · rw [h5] at h6
    exact hs' k h6 h7
  · rw [h5] at h6
    injection h6 with h6
    have := hu k h7
    omega

/-- what is known of the elements' type -/
structure ElemC (P : Program) (t e : TypeId) (sz : Nat) : Prop where
  ex : ∃ i z by', P.info? e = some i ∧ i.zero = some z ∧ i.size = sz ∧ i.bytes = by' ∧ z.cells.size = sz ∧ 0 < sz ∧ by' ≤ 128
  und : P.underlying t = some (.slice e)
theorem elemC_of {P : Program} {t e : TypeId} {sz : Nat} (z : Value) (by' : Nat) (hinfo : (P.info? e).map (fun i => (i.zero, i.size, i.bytes)) = some (some z, sz, by')) (hz : z.cells.size = sz) (h0 : 0 < sz) (hb : by' ≤ 128) (ht : P.underlying t = some (.slice e)) : ElemC P t e sz := by
  refine ⟨?_, ht⟩
  rcases hp : P.info? e with _ | i
  · rw [hp] at hinfo; cases hinfo
  · rw [hp] at hinfo
    simp only [Option.map_some, Option.some.injEq, Prod.mk.injEq] at hinfo
    exact ⟨i, z, by', rfl, hinfo.1, hinfo.2.1, hinfo.2.2, hz, h0, hb⟩

/-- 'v = append(v, x)' of one struct, v a slice of the call's own: its run. w0: the world ahead of the statement, w: where the struct lies at block h0. -/
theorem run_appC {P : Program} {w : World} {t e ty : TypeId} {sz : Nat} (E : ElemC P t e sz) (w0 : World) (hW : Below w0.heap.size w0 w) (hO : KeepsOthers w0 w)
    (base : Nat) (A : Option Addr) (n c : Nat) (f : Nat → List Value) (hown : OwnC w0 base e sz (.slice A n c) n f) (h0 : Nat)
    (hcell : ∀ (j : Nat) (u : Value), (f n)[j]? = some u → w.cell? ⟨h0, j, none⟩ = some u) (h1 : ∀ u ∈ f n, u.oneCell' = true) (hn : n ≤ 1048576) (hbase : base ≤ w0.heap.size) :
    ∃ g cap w', (Builtin.append_ #[t, t] ty #[.slice A n c, .slice (some ⟨h0, 0, none⟩) 1 1]).run P w = .ok (.slice (some ⟨g, 0, none⟩) (n + 1) cap) w' ∧ OwnC w' base e sz (.slice (some ⟨g, 0, none⟩) (n + 1) cap) (n + 1) f ∧ StepC w0 w' base (.slice A n c) (.slice (some ⟨g, 0, none⟩) (n + 1) cap) ∧ g < w'.heap.size := by
  obtain ⟨i0, z, by', hi, hz0, hz1, hz2, hz3, hz4, hz5⟩ := E.ex
  have hownW := hown.below hW
  have hsz := hW.size
  obtain ⟨v', w', hr, k1, k2, _, k5⟩ := run_append_own_at (P := P) w base t ty e i0 z sz by' E.und hi hz0 hz1 hz2 hz3 hz4 _ n _ hownW.2 ⟨h0, 0, none⟩ 1 1 (f n) (by rw [hown.1, Nat.one_mul]) (fun j u hj => by rw [add_plain, Nat.zero_add]; exact hcell j u hj) h1
    (by unfold maxLen; omega) (by have : (n + 1) * by' ≤ 1048577 * 128 := Nat.mul_le_mul (by omega) hz5; omega) (by omega)
  rw [flat_snoc] at k1
  obtain ⟨g, cap, rfl⟩ := ownsRow_succ k1
  have hst := stepC_of hW hO hown hbase k2 k5
  refine ⟨g, cap, w', hr, ⟨hown.1, k1⟩, hst, (World.ownsRow.lt k1 g rfl).2⟩
/-- .. as a step of a plain region -/
theorem wpList_appC {P : Program} {ops : Array Oper} {rest : List Oper} {o : Oper} {a : Act} {Q : Exit → Act → World → Prop} {w : World} (w0 : World) (hW : Below w0.heap.size w0 w) (hO : KeepsOthers w0 w) (hgd : o.guard = none) (s x : Operand) (t : TypeId)
    (ho : o.op = .call { callee := .builtin .append, args := #[s, x], argTypes := #[t, t] }) (e : TypeId) (sz : Nat) (E : ElemC P t e sz)
    (base : Nat) (A : Option Addr) (n c : Nat) (f : Nat → List Value) (hs : a.eval s = .slice A n c) (hown : OwnC w0 base e sz (.slice A n c) n f) (h0 : Nat) (hx : a.eval x = .slice (some ⟨h0, 0, none⟩) 1 1)
    (hcell : ∀ (j : Nat) (u : Value), (f n)[j]? = some u → w.cell? ⟨h0, j, none⟩ = some u) (h1 : ∀ u ∈ f n, u.oneCell' = true) (hn : n ≤ 1048576) (hbase : base ≤ w0.heap.size)
    (h : ∀ g cap w', OwnC w' base e sz (.slice (some ⟨g, 0, none⟩) (n + 1) cap) (n + 1) f → StepC w0 w' base (.slice A n c) (.slice (some ⟨g, 0, none⟩) (n + 1) cap) → g < w'.heap.size →
      wpList P ops Q rest (a.put o.dst (.slice (some ⟨g, 0, none⟩) (n + 1) cap)) w') : wpList P ops Q (o :: rest) a w := by
  obtain ⟨g, cap, w', hr, k1, k2, k3⟩ := run_appC (ty := o.type) E w0 hW hO base A n c f hown h0 hcell h1 hn hbase
  refine wpList_plain hgd fun K hK => ?_
  unfold Oper.wp execOp
  simp only [ho, resolve, invoke, builtin, Sem.run_bind, Sem.run_pure, Result.andThen_ok, List.map_toArray, List.map_cons, List.map_nil, hs, hx, hr]
  exact hK _ _ (h g cap w' k1 k2 k3)
/-- .. as a step of a region that draws its order -/
theorem step_appC {P : Program} {ops : Array Oper} {o : Oper} {a : Act} {K : Act → World → Prop} {Q : Exit → Act → World → Prop} {S : Prop} {w : World} (w0 : World) (hW : Below w0.heap.size w0 w) (hO : KeepsOthers w0 w) (hgd : o.guard = none) (s x : Operand) (t : TypeId)
    (ho : o.op = .call { callee := .builtin .append, args := #[s, x], argTypes := #[t, t] }) (e : TypeId) (sz : Nat) (E : ElemC P t e sz)
    (base : Nat) (A : Option Addr) (n c : Nat) (f : Nat → List Value) (hs : a.eval s = .slice A n c) (hown : OwnC w0 base e sz (.slice A n c) n f) (h0 : Nat) (hx : a.eval x = .slice (some ⟨h0, 0, none⟩) 1 1)
    (hcell : ∀ (j : Nat) (u : Value), (f n)[j]? = some u → w.cell? ⟨h0, j, none⟩ = some u) (h1 : ∀ u ∈ f n, u.oneCell' = true) (hn : n ≤ 1048576) (hbase : base ≤ w0.heap.size)
    (h : ∀ g cap w', OwnC w' base e sz (.slice (some ⟨g, 0, none⟩) (n + 1) cap) (n + 1) f → StepC w0 w' base (.slice A n c) (.slice (some ⟨g, 0, none⟩) (n + 1) cap) → g < w'.heap.size →
      K (a.put o.dst (.slice (some ⟨g, 0, none⟩) (n + 1) cap)) w') : if Region.wanted o (yielded ops a.tmps) = true then Oper.wp P o a w K Q else S := by
  have hw : Region.wanted o (yielded ops a.tmps) = true := by simp [Region.wanted, hgd]
  rw [if_pos hw]
  obtain ⟨g, cap, w', hr, k1, k2, k3⟩ := run_appC (ty := o.type) E w0 hW hO base A n c f hown h0 hcell h1 hn hbase
  unfold Oper.wp execOp
  simp only [ho, resolve, invoke, builtin, Sem.run_bind, Sem.run_pure, Result.andThen_ok, List.map_toArray, List.map_cons, List.map_nil, hs, hx, hr]
  exact h g cap w' k1 k2 k3
/-- .. in a round of a range over a function, a plain region -/
theorem wpListIn_appC {F : Fence} {nF : Nat} {P : Program} {ops : Array Oper} {rest : List Oper} {o : Oper} {a : Act} {Q : Exit → Act → World → Prop} {w : World} (w0 : World) (hW : Below w0.heap.size w0 w) (hO : KeepsOthers w0 w) (hgd : o.guard = none) (s x : Operand) (t : TypeId)
    (ho : o.op = .call { callee := .builtin .append, args := #[s, x], argTypes := #[t, t] }) (e : TypeId) (sz : Nat) (E : ElemC P t e sz)
    (base : Nat) (A : Option Addr) (n c : Nat) (f : Nat → List Value) (hs : a.eval s = .slice A n c) (hown : OwnC w0 base e sz (.slice A n c) n f) (h0 : Nat) (hx : a.eval x = .slice (some ⟨h0, 0, none⟩) 1 1)
    (hcell : ∀ (j : Nat) (u : Value), (f n)[j]? = some u → w.cell? ⟨h0, j, none⟩ = some u) (h1 : ∀ u ∈ f n, u.oneCell' = true) (hn : n ≤ 1048576) (hbase : base ≤ w0.heap.size)
    (h : ∀ g cap w', OwnC w' base e sz (.slice (some ⟨g, 0, none⟩) (n + 1) cap) (n + 1) f → StepC w0 w' base (.slice A n c) (.slice (some ⟨g, 0, none⟩) (n + 1) cap) → g < w'.heap.size →
      wpListIn F nF P ops Q rest (a.put o.dst (.slice (some ⟨g, 0, none⟩) (n + 1) cap)) w') : wpListIn F nF P ops Q (o :: rest) a w := by
  obtain ⟨g, cap, w', hr, k1, k2, k3⟩ := run_appC (ty := o.type) E w0 hW hO base A n c f hown h0 hcell h1 hn hbase
  refine wpListIn_plain hgd fun K hK => ?_
  unfold Oper.wpIn
  refine ⟨by simp [Oper.about, ho, resolve, Target.leads, Sem.run_pure], ?_⟩
  rw [Oper.semAt_plain F _ _ (by rw [ho]; intro c hc'; cases hc')]
  simp [execOp, ho, resolve, invoke, builtin, hs, hx, hr, Result.andThen]
  exact hK _ _ (h g cap w' k1 k2 k3)

/-- 'append([]T(nil), xs...)': a copy: its run -/
theorem run_copyC {P : Program} {w : World} {t e ty : TypeId} {sz : Nat} (E : ElemC P t e sz) (B : Nat) (X : Option Addr) (m d : Nat) (g : Nat → List Value) (hf : ∀ k, (g k).length = sz) (hg : CellsAt w B X sz m g) (h1 : ∀ k, ∀ u ∈ g k, u.oneCell' = true) (hn : m ≤ 1048576) :
    ∃ A cap w', (Builtin.append_ #[t, t] ty #[.slice none 0 0, .slice X m d]).run P w = .ok (.slice A m cap) w' ∧ OwnC w' w.heap.size e sz (.slice A m cap) m g ∧ Below w.heap.size w w' ∧ KeepsOthers w w' := by
  obtain ⟨i0, z, by', hi, hz0, hz1, hz2, hz3, hz4, hz5⟩ := E.ex
  have hnil : OwnC w w.heap.size e sz (.slice none 0 0) 0 g := OwnC.nil_ _ _ _ _ _ hf
  rcases Nat.eq_zero_or_pos m with h0 | h0
  · subst h0
    rcases X with _ | ad
    · refine ⟨none, 0, w, ?_, hnil, Below.refl _ _, KeepsOthers.refl _⟩
      simp [Builtin.append_, run_underlying E.und, sizeOf, typeInfo, hi, Builtin.lenOf, Builtin.firstCells]
    · obtain ⟨v', w', hr, k1, k2, k3, k5⟩ := run_append_own_at (P := P) w w.heap.size t ty e i0 z sz by' E.und hi hz0 hz1 hz2 hz3 hz4 _ 0 _ hnil.2 ad 0 d [] (by simp) (fun j u hj => by simp at hj) (by simp) (by unfold maxLen; omega) (by omega) (Nat.le_refl _)
      have := k3.2 ⟨rfl, rfl⟩
      subst this
      exact ⟨none, 0, w', hr, ⟨hf, World.ownsRow_nil _ _ _ _⟩, (stepC_of (Below.refl _ _) (KeepsOthers.refl _) hnil (Nat.le_refl _) k2 k5).below, (stepC_of (Below.refl _ _) (KeepsOthers.refl _) hnil (Nat.le_refl _) k2 k5).others⟩
  · obtain ⟨b, off, rfl⟩ := hg.some_ h0
    obtain ⟨v', w', hr, k1, k2, k3, k5⟩ := run_append_own_at (P := P) w w.heap.size t ty e i0 z sz by' E.und hi hz0 hz1 hz2 hz3 hz4 _ 0 _ hnil.2 ⟨b, off, none⟩ m d ((List.range m).flatMap g) (flat_len hf m) (fun j u hj => by
        rw [add_plain]
        have hjm : j < m * sz := by
          rcases Nat.lt_or_ge j (m * sz) with h | h
          · exact h
          · rw [List.getElem?_eq_none (by rw [flat_len hf]; exact h)] at hj; cases hj
        have hd : j / sz < m := (Nat.div_lt_iff_lt_mul hz4).2 hjm
        have he := Nat.div_add_mod j sz
        rw [Nat.mul_comm] at he
        rw [← he] at hj ⊢
        rw [flat_get hf _ _ (Nat.mod_lt _ hz4) m hd] at hj
        rw [← Nat.add_assoc]
        exact hg.cells hd hj) (fun u hu => by
        obtain ⟨k, _, hk⟩ := List.mem_flatMap.1 hu
        exact h1 k u hk) (by unfold maxLen; omega) (by have : (0 + m) * by' ≤ 1048576 * 128 := Nat.mul_le_mul (by omega) hz5; omega) (Nat.le_refl _)
    have hst := stepC_of (Below.refl _ _) (KeepsOthers.refl _) hnil (Nat.le_refl _) k2 k5
    have k1' : w'.ownsRow w.heap.size e sz v' m ((List.range m).flatMap g) := by simpa using k1
    obtain ⟨j, rfl⟩ : ∃ j, m = j + 1 := ⟨m - 1, by omega⟩
    obtain ⟨q, cap, rfl⟩ := ownsRow_succ k1'
    exact ⟨_, cap, w', hr, ⟨hf, k1'⟩, hst.below, hst.others⟩
theorem wpList_copyC {P : Program} {ops : Array Oper} {rest : List Oper} {o : Oper} {a : Act} {Q : Exit → Act → World → Prop} {w : World} (hgd : o.guard = none) (s x : Operand) (t : TypeId)
    (ho : o.op = .call { callee := .builtin .append, args := #[s, x], argTypes := #[t, t] }) (e : TypeId) (sz : Nat) (E : ElemC P t e sz) (hs : a.eval s = .slice none 0 0)
    (B : Nat) (X : Option Addr) (m d : Nat) (g : Nat → List Value) (hx : a.eval x = .slice X m d) (hf : ∀ k, (g k).length = sz) (hg : CellsAt w B X sz m g) (h1 : ∀ k, ∀ u ∈ g k, u.oneCell' = true) (hn : m ≤ 1048576)
    (h : ∀ A cap w', OwnC w' w.heap.size e sz (.slice A m cap) m g → Below w.heap.size w w' → KeepsOthers w w' → wpList P ops Q rest (a.put o.dst (.slice A m cap)) w') : wpList P ops Q (o :: rest) a w := by
  obtain ⟨A, cap, w', hr, k1, k2, k3⟩ := run_copyC (ty := o.type) E B X m d g hf hg h1 hn
  refine wpList_plain hgd fun K hK => ?_
  unfold Oper.wp execOp
  simp only [ho, resolve, invoke, builtin, Sem.run_bind, Sem.run_pure, Result.andThen_ok, List.map_toArray, List.map_cons, List.map_nil, hs, hx, hr]
  exact hK _ _ (h A cap w' k1 k2 k3)
theorem wpListIn_copyC {F : Fence} {nF : Nat} {P : Program} {ops : Array Oper} {rest : List Oper} {o : Oper} {a : Act} {Q : Exit → Act → World → Prop} {w : World} (hgd : o.guard = none) (s x : Operand) (t : TypeId)
    (ho : o.op = .call { callee := .builtin .append, args := #[s, x], argTypes := #[t, t] }) (e : TypeId) (sz : Nat) (E : ElemC P t e sz) (hs : a.eval s = .slice none 0 0)
    (B : Nat) (X : Option Addr) (m d : Nat) (g : Nat → List Value) (hx : a.eval x = .slice X m d) (hf : ∀ k, (g k).length = sz) (hg : CellsAt w B X sz m g) (h1 : ∀ k, ∀ u ∈ g k, u.oneCell' = true) (hn : m ≤ 1048576)
    (h : ∀ A cap w', OwnC w' w.heap.size e sz (.slice A m cap) m g → Below w.heap.size w w' → KeepsOthers w w' → wpListIn F nF P ops Q rest (a.put o.dst (.slice A m cap)) w') : wpListIn F nF P ops Q (o :: rest) a w := by
  obtain ⟨A, cap, w', hr, k1, k2, k3⟩ := run_copyC (ty := o.type) E B X m d g hf hg h1 hn
  refine wpListIn_plain hgd fun K hK => ?_
  unfold Oper.wpIn
  refine ⟨by simp [Oper.about, ho, resolve, Target.leads, Sem.run_pure], ?_⟩
  rw [Oper.semAt_plain F _ _ (by rw [ho]; intro c hc'; cases hc')]
  simp [execOp, ho, resolve, invoke, builtin, hs, hx, hr, Result.andThen]
  exact hK _ _ (h A cap w' k1 k2 k3)
theorem step_copyC {P : Program} {ops : Array Oper} {o : Oper} {a : Act} {K : Act → World → Prop} {Q : Exit → Act → World → Prop} {S : Prop} {w : World} (hgd : o.guard = none) (s x : Operand) (t : TypeId)
    (ho : o.op = .call { callee := .builtin .append, args := #[s, x], argTypes := #[t, t] }) (e : TypeId) (sz : Nat) (E : ElemC P t e sz) (hs : a.eval s = .slice none 0 0)
    (B : Nat) (X : Option Addr) (m d : Nat) (g : Nat → List Value) (hx : a.eval x = .slice X m d) (hf : ∀ k, (g k).length = sz) (hg : CellsAt w B X sz m g) (h1 : ∀ k, ∀ u ∈ g k, u.oneCell' = true) (hn : m ≤ 1048576)
    (h : ∀ A cap w', OwnC w' w.heap.size e sz (.slice A m cap) m g → Below w.heap.size w w' → KeepsOthers w w' → K (a.put o.dst (.slice A m cap)) w') : if Region.wanted o (yielded ops a.tmps) = true then Oper.wp P o a w K Q else S := by
  have hw : Region.wanted o (yielded ops a.tmps) = true := by simp [Region.wanted, hgd]
  rw [if_pos hw]
  obtain ⟨A, cap, w', hr, k1, k2, k3⟩ := run_copyC (ty := o.type) E B X m d g hf hg h1 hn
  unfold Oper.wp execOp
  simp only [ho, resolve, invoke, builtin, Sem.run_bind, Sem.run_pure, Result.andThen_ok, List.map_toArray, List.map_cons, List.map_nil, hs, hx, hr]
  exact h A cap w' k1 k2 k3
end Go.Proofs.Ytpgkdpoehkdhcaa
