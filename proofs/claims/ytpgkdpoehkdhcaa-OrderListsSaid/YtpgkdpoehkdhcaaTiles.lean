/- CONTRACT of canvas.Tiles. -/
import Derived.Test.YtpgkdpoehkdhcaaPlaces
import Derived.Test.YtpgkdpoehkdhcaaRound
import Derived.Deep.RegionLaw
import Derived.StillTailTactics
namespace Go.Proofs.Ytpgkdpoehkdhcaa
open Go.RowKit Go.Shelf
attribute [local go_sem] Oper.semAt_some
set_option maxHeartbeats 1000000
set_option linter.unusedVariables false
set_option linter.unusedSimpArgs false

theorem heap_alloc_new2 (w : World) (o o' : Obj) : ((w.alloc o).alloc o').heap[w.heap.size + 1]? = some o' := by
  have := heap_alloc_new (w.alloc o) o'
  rwa [World.size_alloc] at this
theorem rect_elem : ElemC Try.prog 33 38 4 := elemC_of (.agg #[.int .i64 0, .int .i64 0, .int .i64 0, .int .i64 0]) 32 (by kernel_rfl) rfl (by omega) (by omega) Try.underlying33
def tileR (X Y Ox Oy tx ty : Int) (c : Nat × Nat) : Rc := bothR ⟨Ox, Oy, X, Y⟩ ⟨c.1 * tx, c.2 * ty, (c.1 + 1) * tx, (c.2 + 1) * ty⟩
/-- the rectangles of cells, in the cells' order -/
def rowR (F : Nat × Nat → Rc) (l : List (Nat × Nat)) (k : Nat) : List Value := rcL (F (l.getD k (0, 0)))

theorem frame_bd {X Y Ox Oy : Int} {n : Nat} {F : Nat → CompD} {tx ty lv cw ch pr st od ly : Int} {rct : Bool} (h : frameE X Y Ox Oy n F tx ty lv cw ch pr st od ly rct = 0) :
    0 ≤ Ox ∧ 0 ≤ Oy ∧ Ox < X ∧ Oy < Y ∧ X ≤ 64 ∧ Y ≤ 64 ∧ Ox < tx ∧ tx ≤ 65536 ∧ Oy < ty ∧ ty ≤ 65536 ∧ byN X.toNat tx.toNat * byN Y.toNat ty.toNat ≤ 16 := by
  unfold frameE at h
  split at h
  · rename_i h0
    obtain ⟨a1, a2, a3, a4, a5, a6, _⟩ := picture_ok h0
    split at h
    · rename_i h1
      split at h
      · rename_i h2
        have b1 := inB_true.1 h1
        have b2 := inB_true.1 h2
        split at h
        · cases h
        · rename_i h3
          exact ⟨a1, a2, a3, a4, a5, a6, by omega, by omega, by omega, by omega, by omega⟩
      · cases h
    · cases h
  · rename_i h0; exact absurd h h0

/-- between two rounds -/
def TilesI (w : World) (M P : Array Value) (D : Nat) (F : Nat × Nat → Rc) (l : List (Nat × Nat)) (W : World) : Prop :=
  ∃ (X : Option Addr) (cx : Nat), W.heap[w.heap.size]? = some (.cells M 28 (0, 0)) ∧ W.heap[w.heap.size + 1]? = some (.cells P 30 (0, 0)) ∧ Boxed W D 33 (.slice X l.length cx) ∧
    OwnC W (D + 3) 38 4 (.slice X l.length cx) l.length (rowR F l) ∧ Below w.heap.size w W ∧ D + 3 ≤ W.heap.size
theorem tilesI_own {w : World} {M P : Array Value} {D : Nat} {F : Nat × Nat → Rc} {α : Type} {g : List α → List (Nat × Nat)} {B : Nat} (hB : D + 3 ≤ B) (hD : w.heap.size + 2 ≤ D) : OwnFrom B (fun (pre : List α) W => TilesI w M P D F (g pre) W) := by
  rintro s W W' row ⟨X, cx, h1, h2, h3, h4, h5, h6⟩ hg hr
  have hr' := fun r e => (hr r e).2
  have ne : ∀ k, k < B → some k ≠ row := fun k hk he => by have := (hr k he.symm).1; omega
  exact ⟨X, cx, (hg.block _ (by omega) (ne _ (by omega))).trans h1, (hg.block _ (by omega) (ne _ (by omega))).trans h2, Boxed.keptNC h3 hg hr', h4.keptNC hg hr', h5.grown hg h5.size (fun k hk => by have := (hr k hk).1; omega), Nat.le_trans h6 hg.size⟩
theorem keeps2_put {W : World} {l a b : Nat} {o : Obj} (h1 : a < l) (h2 : b < l) : Keeps2 a b W (W.putObj l o) :=
  ⟨World.putObj_heap_other (by omega), World.putObj_heap_other (by omega)⟩
theorem others_of_below {W W' : World} (h : Below W.heap.size W W') : KeepsOthers W W' :=
  KeepsOthers.of_grownBy (row := none) ⟨h.os, h.tape, h.output, h.size, fun k hk _ => h.block k hk⟩ (fun j o e _ => by cases e)
theorem rowR_len (F : Nat × Nat → Rc) (l : List (Nat × Nat)) (k : Nat) : (rowR F l k).length = 4 := rfl
theorem rowR_lt (F : Nat × Nat → Rc) (l : List (Nat × Nat)) (x : Nat × Nat) {k : Nat} (h : k < l.length) : rowR F (l ++ [x]) k = rowR F l k := by
  unfold rowR; rw [List.getD_eq_getElem?_getD, List.getD_eq_getElem?_getD, List.getElem?_append_left h]
theorem rowR_new (F : Nat × Nat → Rc) (l : List (Nat × Nat)) (x : Nat × Nat) : rowR F (l ++ [x]) l.length = rcL (F x) := by
  unfold rowR; rw [List.getD_eq_getElem?_getD]; simp
theorem cell_al {w : World} {a : Addr} {v : Value} (h : w.cell? a = some v) (o : Obj) : (w.alloc o).cell? a = some v := by rw [World.cell?_alloc_lt _ _ _ (World.block_lt_of_cell? _ _ h), h]
/-- what the round reads -/
def TS (q : Nat) (Xn Yn : Nat) (Ox Oy : Int) (A : Option Addr) (n c : Nat) (txn tyn : Nat) (V : World) : Prop :=
  V.cell? ⟨q, 0, none⟩ = some (.int .i64 Xn) ∧ V.cell? ⟨q, 1, none⟩ = some (.int .i64 Yn) ∧ V.cell? ⟨q, 2, none⟩ = some (.int .i64 Ox) ∧ V.cell? ⟨q, 3, none⟩ = some (.int .i64 Oy) ∧ V.cell? ⟨q, 4, none⟩ = some (.slice A n c) ∧
  V.cell? ⟨q + 1, 0, none⟩ = some (.int .i64 txn) ∧ V.cell? ⟨q + 1, 1, none⟩ = some (.int .i64 tyn)
theorem TS.below {q B : Nat} {Xn Yn : Nat} {Ox Oy : Int} {A : Option Addr} {n c : Nat} {txn tyn : Nat} {V V' : World} (h : TS q Xn Yn Ox Oy A n c txn tyn V) (hb : Below B V V') (hq : q + 1 < B) : TS q Xn Yn Ox Oy A n c txn tyn V' := by
  obtain ⟨h0, h1, h2, h3, h4, h5, h6⟩ := h
  have c0 := fun j => hb.cell (p := ⟨q, j, none⟩) (show q < B by omega)
  have c1 := fun j => hb.cell (p := ⟨q + 1, j, none⟩) hq
  exact ⟨(c0 _).trans h0, (c0 _).trans h1, (c0 _).trans h2, (c0 _).trans h3, (c0 _).trans h4, (c1 _).trans h5, (c1 _).trans h6⟩

end Go.Proofs.Ytpgkdpoehkdhcaa
