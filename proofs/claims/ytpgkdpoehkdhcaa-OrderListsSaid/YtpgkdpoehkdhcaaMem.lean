/- WORDS FOR MEMORY: a slice of ints as a function of the index. -/
import Derived.Test.YtpgkdpoehkdhcaaBase
import Derived.Deep.OwnRows
import Derived.Deep.LoopGhost
import Derived.Laws.OwnMore
import Derived.OwnWalk
import Derived.Maps.AppendAt
import Derived.Deep.AppendLies
import Derived.Deep.Draws
import Derived.Laws.Rows
import Derived.OneCell
namespace Go.Proofs.Ytpgkdpoehkdhcaa
open Go.RowKit
set_option linter.unusedVariables false

/-- n ints, the k-th f k, from address A on, in a block below number B -/
def IntsAt (w : World) (B : Nat) (A : Option Addr) (n : Nat) (f : Nat → Int) : Prop :=
  0 < n → ∃ b off, A = some ⟨b, off, none⟩ ∧ b < B ∧ ∀ k, k < n → w.cell? ⟨b, off + k, none⟩ = some (.int .i64 (f k))

section
variable {w w' : World} {B B' : Nat} {A : Option Addr} {n : Nat} {f g : Nat → Int}
theorem IntsAt.none_ : IntsAt w B A 0 f := fun h => absurd h (by omega)
theorem IntsAt.at_ {k : Nat} (h : IntsAt w B A n f) (hk : k < n) : ∃ b off, A = some ⟨b, off, none⟩ ∧ b < B ∧ w.cell? ⟨b, off + k, none⟩ = some (.int .i64 (f k)) := by
  obtain ⟨b, off, hA, hb, hc⟩ := h (by omega)
  exact ⟨b, off, hA, hb, hc k hk⟩
theorem IntsAt.congr (h : IntsAt w B A n f) (e : ∀ k, k < n → f k = g k) : IntsAt w B A n g := fun hn => by
  obtain ⟨b, off, hA, hb, hc⟩ := h hn
  exact ⟨b, off, hA, hb, fun k hk => by rw [hc k hk, e k hk]⟩
theorem IntsAt.below (h : IntsAt w B A n f) (hb : Below B w w') : IntsAt w' B A n f := fun hn => by
  obtain ⟨b, off, hA, hlt, hc⟩ := h hn
  exact ⟨b, off, hA, hlt, fun k hk => (hb.cell (p := ⟨b, off + k, none⟩) hlt).trans (hc k hk)⟩
theorem IntsAt.more (h : IntsAt w B A n f) (hB : B ≤ B') : IntsAt w B' A n f := fun hn => by
  obtain ⟨b, off, hA, hlt, hc⟩ := h hn
  exact ⟨b, off, hA, by omega, hc⟩
theorem IntsAt.drewN (h : IntsAt w B A n f) (q : Nat) : IntsAt (w.drewN q) B A n f := h
theorem IntsAt.drew (h : IntsAt w B A n f) : IntsAt w.drew B A n f := h
theorem IntsAt.less (h : IntsAt w B A n f) {m : Nat} (hm : m ≤ n) : IntsAt w B A m f := fun h0 => by
  obtain ⟨b, off, hA, hlt, hc⟩ := h (by omega)
  exact ⟨b, off, hA, hlt, fun k hk => hc k (by omega)⟩
theorem IntsAt.shift (h : IntsAt w B A n f) {m k cap : Nat} (hm : k + m ≤ n) (hc : n ≤ cap) : IntsAt w B (if cap = k then A else A.map (·.add k)) m (fun j => f (k + j)) := fun h0 => by
  obtain ⟨b, off, rfl, hlt, hcell⟩ := h (by omega)
  rw [if_neg (by omega)]
  refine ⟨b, off + k, ?_, hlt, fun j hj => ?_⟩
  · simp [Addr.add]
  · have := hcell (k + j) (by omega)
    rw [Nat.add_assoc]; exact this
theorem IntsAt.of_row {b : Nat} {t : TypeId} {F : Nat → Value} (h : w.rowIs b t n F) (e : ∀ k, k < n → F k = .int .i64 (f k)) (hb : b < B) : IntsAt w B (some ⟨b, 0, none⟩) n f := fun _ =>
  ⟨b, 0, rfl, hb, fun k hk => by rw [Nat.zero_add, h.cell hk, e k hk]⟩

/-- a slice that the call owns, as a function of the index -/
def OwnI (w : World) (base : Nat) (e : TypeId) (v : Value) (n : Nat) (f : Nat → Int) : Prop := w.ownsRow base e 1 v n ((List.range n).map fun k => .int .i64 (f k))
theorem OwnI.nil_ (w : World) (base : Nat) (e : TypeId) (f : Nat → Int) : OwnI w base e (.slice none 0 0) 0 f := by
  unfold OwnI
  exact World.ownsRow_nil _ _ _ _
theorem range_snoc (n : Nat) (f : Nat → Int) : ((List.range n).map fun k => Value.int .i64 (f k)) ++ [.int .i64 (f n)] = (List.range (n + 1)).map fun k => Value.int .i64 (f k) := by
  rw [List.range_succ, List.map_append]; rfl
theorem OwnI.form {base : Nat} {e : TypeId} {v : Value} (h : OwnI w base e v n f) :
    ∃ A c, v = .slice A n c ∧ n ≤ c ∧ c ≤ maxLen ∧ IntsAt w w.heap.size A n f ∧ (∀ ad, A = some ad → base ≤ ad.block) := by
  have h' := h
  unfold OwnI at h
  obtain ⟨hl, h⟩ := h
  rcases h with ⟨rfl, hx⟩ | ⟨g, cap, cur, rfl, hb, hh, hnc, hm, hr⟩
  · have : n = 0 := by simpa using hx
    subst this
    exact ⟨none, 0, rfl, Nat.le_refl _, by unfold maxLen; omega, IntsAt.none_, fun _ h => by cases h⟩
  · refine ⟨some ⟨g, 0, none⟩, cap, rfl, hnc, hm, fun hn => ⟨g, 0, rfl, ?_, fun k hk => ?_⟩, fun ad h => by cases h; exact hb⟩
    · rcases Nat.lt_or_ge g w.heap.size with hlt | hge
      · exact hlt
      · rw [Array.getElem?_eq_none hge] at hh; cases hh
    · have hx := World.ownsRow.cells h' (g := g) rfl k (.int .i64 (f k)) (by simp [hk])
      rw [Nat.zero_add]
      have e : (⟨g, 0, none⟩ : Addr).add k = ⟨g, k, none⟩ := by
        unfold Addr.add
        split
        · rename_i h0; rw [h0]
        · simp
      rw [e] at hx
      exact hx
theorem OwnI.kept {base : Nat} {e : TypeId} {v : Value} {row : Option Nat} (h : OwnI w base e v n f) (hg : w.grownBy w' row) (hne : v.ownBlock = none ∨ v.ownBlock ≠ row) : OwnI w' base e v n f := World.ownsRow.kept h hg hne
theorem OwnI.alloc {base : Nat} {e : TypeId} {v : Value} (h : OwnI w base e v n f) (o : Obj) : OwnI (w.alloc o) base e v n f := World.ownsRow.alloc h o
theorem OwnI.drewN {base : Nat} {e : TypeId} {v : Value} (h : OwnI w base e v n f) (q : Nat) : OwnI (w.drewN q) base e v n f := h
theorem OwnI.drew {base : Nat} {e : TypeId} {v : Value} (h : OwnI w base e v n f) : OwnI w.drew base e v n f := h
theorem OwnI.lt {base : Nat} {e : TypeId} {v : Value} (h : OwnI w base e v n f) : ∀ k, v.ownBlock = some k → base ≤ k ∧ k < w.heap.size := World.ownsRow.lt h
theorem OwnI.congr {base : Nat} {e : TypeId} {v : Value} (h : OwnI w base e v n f) (hc : ∀ k, k < n → f k = g k) : OwnI w base e v n g := by
  have e : ((List.range n).map fun k => Value.int .i64 (f k)) = (List.range n).map fun k => .int .i64 (g k) := List.map_congr_left fun k hk => by rw [hc k (List.mem_range.1 hk)]
  unfold OwnI at *
  rw [← e]; exact h
/-- a block below which all is as it was leaves an owned slice that lies below it alone -/
theorem OwnI.below {base : Nat} {e : TypeId} {v : Value} (h : OwnI w base e v n f) (hb : Below w.heap.size w w') : OwnI w' base e v n f :=
  h.kept (row := none) ⟨hb.os, hb.tape, hb.output, hb.size, fun k hk _ => hb.block k hk⟩ (by
    rcases hv : v.ownBlock with _ | k
    · exact .inl rfl
    · exact .inr (by simp))
end

/-- two slices in blocks that differ -/
def Sep (v v' : Value) : Prop := ∀ k, v.ownBlock = some k → v'.ownBlock ≠ some k
theorem Sep.symm {v v' : Value} (h : Sep v v') : Sep v' v := fun k h1 h2 => h k h2 h1
theorem Sep.nil_ (v : Value) : Sep (.slice none 0 0) v := fun k h => by cases h
theorem Sep.row {v v' : Value} (h : Sep v v') : v.ownBlock = none ∨ v.ownBlock ≠ v'.ownBlock := by
  rcases hv : v.ownBlock with _ | k
  · exact .inl rfl
  · exact .inr fun he => h k hv he.symm
theorem Sep.app {w : World} {base n m cap g : Nat} {e : TypeId} {v v' : Value} {f : Nat → Int} (h : Sep v v') (ho : OwnI w base e v' n f) (hat : v.ownBlock = some g ∨ w.heap.size ≤ g) : Sep (.slice (some ⟨g, 0, none⟩) m cap) v' := by
  intro k h1 h2
  have h1' : g = k := by simpa [Value.ownBlock] using h1
  subst h1'
  rcases hat with ha | ha
  · exact h g ha h2
  · have := (ho.lt g h2).2
    omega

/-- a variable's block of one cell -/
def Box (w : World) (p : Nat) (T : TypeId) (v : Value) : Prop := w.heap[p]? = some (.cells #[v] T (0, 0))
section
variable {w w' : World} {p : Nat} {T : TypeId} {v : Value}
theorem Box.cell (h : Box w p T v) : w.cell? ⟨p, 0, none⟩ = some v := by unfold Box at h; simp [World.cell?, h]
theorem Box.free (h : Box w p T v) : w.frozen? ⟨p, 0, none⟩ = false := by unfold Box at h; simp [World.frozen?, h]
theorem Box.lt (h : Box w p T v) : p < w.heap.size := by
  unfold Box at h
  rcases Nat.lt_or_ge p w.heap.size with hlt | hge
  · exact hlt
  · rw [Array.getElem?_eq_none hge] at h; cases h
theorem Box.new_ (w : World) (T : TypeId) (v : Value) : Box (w.alloc (.cells #[v] T)) w.heap.size T v := heap_alloc_new w _
theorem Box.drewN (h : Box w p T v) (q : Nat) : Box (w.drewN q) p T v := h
theorem Box.alloc (h : Box w p T v) (o : Obj) : Box (w.alloc o) p T v := (Below.heap_alloc w o p h.lt).trans h
theorem Box.below {B : Nat} (h : Box w p T v) (hb : Below B w w') (hp : p < B) : Box w' p T v := (hb.block p hp).trans h
theorem Box.grown {row : Option Nat} (h : Box w p T v) (hb : w.grownBy w' row) (hp : some p ≠ row) : Box w' p T v := (hb.block p h.lt hp).trans h
theorem Box.set_ (h : Box w p T v) (u : Value) : Box (w.setCell ⟨p, 0, none⟩ u) p T u := by
  unfold Box at h ⊢
  simp [World.setCell, Array.getElem?_modify, h]
theorem Box.other {a : Addr} (h : Box w p T v) (ha : p ≠ a.block) (u : Value) : Box (w.setCell a u) p T v := (Below.heap_setCell w a u p ha).trans h
theorem Box.ne_own {base n : Nat} {e : TypeId} {u : Value} {f : Nat → Int} (h : Box w p T v) (ho : OwnI w base e u n f) (hne : e ≠ T) : u.ownBlock ≠ some p := by
  unfold Box at h
  obtain ⟨_, ho⟩ := ho
  rcases ho with ⟨rfl, _⟩ | ⟨g, cap, cur, rfl, _, hh, _⟩
  · simp [Value.ownBlock]
  · intro he
    have : g = p := by simpa [Value.ownBlock] using he
    subst this
    rw [h] at hh
    injection hh with hh
    injection hh with _ hh _
    exact hne hh.symm
end
/-- WHAT AN APPEND LEAVES: below block 'base' all is as it was; whatever else the call owns stands, apart from the new row. -/
structure AppStep (w w' : World) (base : Nat) (v v' : Value) : Prop where
  below : Below base w w'
  keep : ∀ (u : Value) (m : Nat) (e : TypeId) (f : Nat → Int), OwnI w base e u m f → Sep v u → OwnI w' base e u m f
  sep : ∀ (u : Value) (m : Nat) (e : TypeId) (f : Nat → Int), OwnI w base e u m f → Sep v u → Sep v' u
  box : ∀ (p : Nat) (T : TypeId) (u : Value), Box w p T u → v.ownBlock ≠ some p → Box w' p T u
  cells : ∀ p : Addr, p.block < w.heap.size → v.ownBlock ≠ some p.block → w'.cell? p = w.cell? p

/-- 'v = append(v, x)' OF ONE INT, v a slice of the call's own: as one operation. w0: the world ahead of the statement, w: where the int lies at block h0. -/
theorem wp_app1 {P : Program} {o : Oper} {a : Act} {K : Act → World → Prop} {Q : Exit → Act → World → Prop} {w : World} (w0 : World) (hW : Below w0.heap.size w0 w) (s x : Operand) (t : TypeId)
    (ho : o.op = .call { callee := .builtin .append, args := #[s, x], argTypes := #[t, t] })
    (e : TypeId) (hinfo : (P.info? e).map (fun i => (i.zero, i.size, i.bytes)) = some (some (.int .i64 0), 1, 8)) (ht : P.underlying t = some (.slice e))
    (base : Nat) (A : Option Addr) (n c : Nat) (f : Nat → Int) (hs : a.eval s = .slice A n c) (hown : OwnI w0 base e (.slice A n c) n f) (h0 : Nat) (hx : a.eval x = .slice (some ⟨h0, 0, none⟩) 1 1)
    (hcell : w.cell? ⟨h0, 0, none⟩ = some (.int .i64 (f n))) (hn : n ≤ 1099511627776) (hbase : base ≤ w0.heap.size)
    (h : ∀ g cap w', OwnI w' base e (.slice (some ⟨g, 0, none⟩) (n + 1) cap) (n + 1) f → AppStep w0 w' base (.slice A n c) (.slice (some ⟨g, 0, none⟩) (n + 1) cap) → g < w'.heap.size →
      K (a.put o.dst (.slice (some ⟨g, 0, none⟩) (n + 1) cap)) w') : o.wp P a w K Q := by
  obtain ⟨i0, hi, hz0, hz1, hz2⟩ := info_parts hinfo
  have hownW := hown.below hW
  refine wp_append_lies _ s x t ho base e i0 (.int .i64 0) 1 8 ht hi hz0 hz1 hz2 rfl (by decide) _ n _ hs hownW ⟨h0, 0, none⟩ 1 1 [.int .i64 (f n)] hx rfl (fun j u hj => ?_) (by simp [Value.oneCell'])
    (by omega) (by unfold maxLen; omega) (by omega) (by have := hW.size; omega) w.heap.size rfl ?_
  · match j, hj with
    | 0, hj =>
      simp at hj; subst hj
      simpa [Addr.add] using hcell
  · intro g cap w' h1 h2 h3 h4
    rw [range_snoc] at h1
    have hsz := hW.size
    refine h g cap w' h1 ⟨(hW.mono hbase).trans ((Below.refl base w).grown h2 (by omega) (fun j hj => (hown.lt j hj).1)), fun u m e' f' hu hs' => (hu.below hW).kept h2 hs'.symm.row, fun u m e' f' hu hs' => Sep.app hs' hu ?_, fun p T u hx hne => (hx.below hW hx.lt).grown h2 (fun e => hne e.symm), fun p hp hne => (h2.cell_far p (by omega) (fun e => hne e.symm)).trans (hW.cell hp)⟩ h4
    rcases h3 with h3 | h3
    · exact .inl h3
    · exact .inr (by omega)

theorem wpList_app1 {P : Program} {ops : Array Oper} {rest : List Oper} {o : Oper} {a : Act} {Q : Exit → Act → World → Prop} {w : World} (w0 : World) (hW : Below w0.heap.size w0 w) (hgd : o.guard = none) (s x : Operand) (t : TypeId)
    (ho : o.op = .call { callee := .builtin .append, args := #[s, x], argTypes := #[t, t] })
    (e : TypeId) (hinfo : (P.info? e).map (fun i => (i.zero, i.size, i.bytes)) = some (some (.int .i64 0), 1, 8)) (ht : P.underlying t = some (.slice e))
    (base : Nat) (A : Option Addr) (n c : Nat) (f : Nat → Int) (hs : a.eval s = .slice A n c) (hown : OwnI w0 base e (.slice A n c) n f) (h0 : Nat) (hx : a.eval x = .slice (some ⟨h0, 0, none⟩) 1 1)
    (hcell : w.cell? ⟨h0, 0, none⟩ = some (.int .i64 (f n))) (hn : n ≤ 1099511627776) (hbase : base ≤ w0.heap.size)
    (h : ∀ g cap w', OwnI w' base e (.slice (some ⟨g, 0, none⟩) (n + 1) cap) (n + 1) f → AppStep w0 w' base (.slice A n c) (.slice (some ⟨g, 0, none⟩) (n + 1) cap) → g < w'.heap.size →
      wpList P ops Q rest (a.put o.dst (.slice (some ⟨g, 0, none⟩) (n + 1) cap)) w') : wpList P ops Q (o :: rest) a w :=
  wpList_plain hgd fun _ hK => wp_app1 w0 hW s x t ho e hinfo ht base A n c f hs hown h0 hx hcell hn hbase fun g cap w' h1 h2 h3 => hK _ _ (h g cap w' h1 h2 h3)

/-- The same as a step of a region that draws its order. -/
theorem step_app1 {P : Program} {ops : Array Oper} {o : Oper} {a : Act} {K : Act → World → Prop} {Q : Exit → Act → World → Prop} {E : Prop} {w : World} (w0 : World) (hW : Below w0.heap.size w0 w) (hgd : o.guard = none) (s x : Operand) (t : TypeId)
    (ho : o.op = .call { callee := .builtin .append, args := #[s, x], argTypes := #[t, t] })
    (e : TypeId) (hinfo : (P.info? e).map (fun i => (i.zero, i.size, i.bytes)) = some (some (.int .i64 0), 1, 8)) (ht : P.underlying t = some (.slice e))
    (base : Nat) (A : Option Addr) (n c : Nat) (f : Nat → Int) (hs : a.eval s = .slice A n c) (hown : OwnI w0 base e (.slice A n c) n f) (h0 : Nat) (hx : a.eval x = .slice (some ⟨h0, 0, none⟩) 1 1)
    (hcell : w.cell? ⟨h0, 0, none⟩ = some (.int .i64 (f n))) (hn : n ≤ 1099511627776) (hbase : base ≤ w0.heap.size)
    (h : ∀ g cap w', OwnI w' base e (.slice (some ⟨g, 0, none⟩) (n + 1) cap) (n + 1) f → AppStep w0 w' base (.slice A n c) (.slice (some ⟨g, 0, none⟩) (n + 1) cap) → g < w'.heap.size →
      K (a.put o.dst (.slice (some ⟨g, 0, none⟩) (n + 1) cap)) w') :
    if Region.wanted o (yielded ops a.tmps) = true then Oper.wp P o a w K Q else E := by
  have hw : Region.wanted o (yielded ops a.tmps) = true := by simp [Region.wanted, hgd]
  rw [if_pos hw]
  exact wp_app1 w0 hW s x t ho e hinfo ht base A n c f hs hown h0 hx hcell hn hbase h

/-- what the row's frame tells of a slice of ints that came in -/
theorem ints_of_row {w : World} {a : Option Addr} {len cap : Nat} {zs : List Int}
    (h : (a = none ∧ len = 0 ∧ cap = 0 ∧ zs = []) ∨ ∃ x, a = some x ∧ len ≤ cap ∧ cap ≤ maxLen ∧ zs.length = cap ∧ (∀ i, i < zs.length → w.cell? (x.add i) = some (.int .i64 (zs.getD i 0))) ∧ ∀ n ∈ zs, (Lit.int .i64 n).wf = true) :
    IntsAt w w.heap.size a len (fun k => zs.getD k 0) ∧ len ≤ 9223372036854775807 ∧ len ≤ cap := by
  rcases h with ⟨rfl, rfl, rfl, rfl⟩ | ⟨x, rfl, hl, hm, hz, hc, _⟩
  · exact ⟨IntsAt.none_, by omega, by omega⟩
  · refine ⟨fun hn => ?_, by unfold maxLen at hm; omega, hl⟩
    obtain ⟨b, off, rfl, hc'⟩ := ints_at hc (by omega)
    have h0 := hc' 0 (by omega)
    exact ⟨b, off, rfl, World.block_lt_of_cell? w _ h0, fun k hk => hc' k (by omega)⟩

/-- a new block of ints, as a literal lays it -/
theorem IntsAt.lit (w : World) (cs : Array Value) (t : TypeId) (n : Nat) (f : Nat → Int) (h : ∀ k, k < n → cs[k]? = some (.int .i64 (f k))) {B : Nat} (hB : w.heap.size < B) : IntsAt (w.alloc (.cells cs t)) B (some ⟨w.heap.size, 0, none⟩) n f := fun _ =>
  ⟨w.heap.size, 0, rfl, hB, fun k hk => by rw [Nat.zero_add, cell_of_row _ _ _ cs t (0, 0) (heap_alloc_new w _)]; exact h k hk⟩
theorem IntsAt.alloc {w : World} {B : Nat} {A : Option Addr} {n : Nat} {f : Nat → Int} (h : IntsAt w B A n f) (hB : B ≤ w.heap.size) (o : Obj) : IntsAt (w.alloc o) B A n f := h.below ((Below.refl _ _).alloc hB _)
theorem below_alloc {a w : World} (h : Below a.heap.size a w) (o : Obj) : Below a.heap.size a (w.alloc o) := h.alloc h.size o
theorem below_trans {a b c : World} (h : Below a.heap.size a b) (k : Below b.heap.size b c) : Below a.heap.size a c := h.trans (k.mono h.size)
theorem IntsAt.first {w : World} {B : Nat} {A : Option Addr} {n : Nat} {f : Nat → Int} (h : IntsAt w B A n f) (hn : 0 < n) : ∃ b off, A = some ⟨b, off, none⟩ ∧ b < B ∧ w.cell? ⟨b, off, none⟩ = some (.int .i64 (f 0)) := h.at_ hn
theorem OwnI.ints {w : World} {base : Nat} {e : TypeId} {A : Option Addr} {n c : Nat} {f : Nat → Int} (h : OwnI w base e (.slice A n c) n f) : IntsAt w w.heap.size A n f := by
  obtain ⟨_, _, e, _, _, i, _⟩ := h.form
  injection e with e _ _
  subst e
  exact i
theorem OwnI.cap {w : World} {base : Nat} {e : TypeId} {A : Option Addr} {n c : Nat} {f : Nat → Int} (h : OwnI w base e (.slice A n c) n f) : n ≤ c ∧ c ≤ 9223372036854775807 := by
  obtain ⟨_, _, e, h1, h2, _, _⟩ := h.form
  injection e with _ _ e
  subst e
  exact ⟨h1, h2⟩
theorem IntsAt.made (w : World) (n : Nat) (z : Int) (t : TypeId) (b B : Nat) (hb : w.heap.size = b) (hB : b < B) : IntsAt (w.alloc (.cells (madeCells #[.int .i64 z] n) t)) B (some ⟨b, 0, none⟩) n (fun _ => z) := by
  subst hb
  exact IntsAt.of_row (World.rowIs_made _ _ _ _) (fun _ _ => rfl) hB
theorem IntsAt.part {w : World} {B b off n m k : Nat} {f : Nat → Int} (h : IntsAt w B (some ⟨b, off, none⟩) n f) (hm : k + m ≤ n) : IntsAt w B (some ⟨b, off + k, none⟩) m (fun j => f (k + j)) := fun h0 => by
  obtain ⟨b', off', e, hlt, hcell⟩ := h (by omega)
  injection e with e
  injection e with e1 e2 _
  subst e1 e2
  exact ⟨b, off + k, rfl, hlt, fun j hj => by rw [Nat.add_assoc]; exact hcell (k + j) (by omega)⟩
theorem IntsAt.some_ {w : World} {B n : Nat} {A : Option Addr} {f : Nat → Int} (h : IntsAt w B A n f) (hn : 0 < n) : ∃ b off, A = some ⟨b, off, none⟩ := by
  obtain ⟨b, off, e, _⟩ := h hn
  exact ⟨b, off, e⟩
theorem IntsAt.cells {w : World} {B b off n : Nat} {f : Nat → Int} (h : IntsAt w B (some ⟨b, off, none⟩) n f) {k : Nat} (hk : k < n) : w.cell? ⟨b, off + k, none⟩ = some (.int .i64 (f k)) := by
  obtain ⟨b', off', e, _, hc⟩ := h.at_ hk
  injection e with e
  injection e with e1 e2 _
  subst e1 e2
  exact hc
/-- a store into an owned slice -/
theorem OwnI.stored {w : World} {base : Nat} {e : TypeId} {g n c : Nat} {f : Nat → Int} (h : OwnI w base e (.slice (some ⟨g, 0, none⟩) n c) n f) (j : Nat) (u : Int) :
    OwnI (w.setCell ⟨g, j, none⟩ (.int .i64 u)) base e (.slice (some ⟨g, 0, none⟩) n c) n (fun k => if k = j then u else f k) := by
  have h' := (World.ownsRow.stored h j (.int .i64 u)).1
  unfold OwnI
  have e1 : ((List.range n).map fun k => Value.int .i64 (f k)).set j (.int .i64 u) = (List.range n).map fun k => .int .i64 (if k = j then u else f k) := by
    apply List.ext_getElem?
    intro i
    rw [List.getElem?_set]
    by_cases hi : i < n
    · by_cases hj : j = i
      · subst hj; simp [hi]
      · have : ¬ i = j := fun h => hj h.symm
        simp [hi, hj, this]
    · simp [hi]; omega
  rw [← e1]
  exact h'
theorem OwnI.stored_grown {w : World} {base : Nat} {e : TypeId} {g n c : Nat} {f : Nat → Int} (h : OwnI w base e (.slice (some ⟨g, 0, none⟩) n c) n f) (j : Nat) (u : Int) : w.grownBy (w.setCell ⟨g, j, none⟩ (.int .i64 u)) (some g) := (World.ownsRow.stored h j (.int .i64 u)).2
theorem OwnI.frozen {w : World} {base : Nat} {e : TypeId} {g n c : Nat} {f : Nat → Int} (h : OwnI w base e (.slice (some ⟨g, 0, none⟩) n c) n f) (j : Nat) : w.frozen? ⟨g, j, none⟩ = false := World.ownsRow.frozenAt h j
theorem OwnI.row {w : World} {base : Nat} {e : TypeId} {A : Option Addr} {n c : Nat} {f : Nat → Int} (h : OwnI w base e (.slice A n c) n f) (hn : 0 < n) : ∃ g, A = some ⟨g, 0, none⟩ := by
  have h' := h
  obtain ⟨_, h⟩ := h
  rcases h with ⟨e, h0⟩ | ⟨g, cap, cur, e, _⟩
  · omega
  · injection e with e _ _
    exact ⟨g, e⟩
theorem OwnI.cell {w : World} {base : Nat} {e : TypeId} {g n c : Nat} {f : Nat → Int} (h : OwnI w base e (.slice (some ⟨g, 0, none⟩) n c) n f) {k : Nat} (hk : k < n) : w.cell? ⟨g, k, none⟩ = some (.int .i64 (f k)) := by
  have := h.ints.cells hk
  rwa [Nat.zero_add] at this

theorem OwnI.other {w : World} {base n : Nat} {e : TypeId} {v : Value} {f : Nat → Int} (h : OwnI w base e v n f) {a : Addr} (ha : v.ownBlock ≠ some a.block) (u : Value) : OwnI (w.setCell a u) base e v n f := _root_.Go.ownsRow_setCell_other h ha u
end Go.Proofs.Ytpgkdpoehkdhcaa
