/- THE LOOPS OF waveletlaw12.CanvasCovers, taken out of the translation; the world while a band's places are marked. -/
import Derived.Test.YtmieoifagnpbiaaCovC
import Derived.Test.YtmieoifagnpbiaaLoad
import Derived.Laws.MakeOwn
namespace Go.Proofs.Ytmieoifagnpbiaa
open Go.RowKit
set_option maxHeartbeats 4000000
set_option linter.unusedVariables false
set_option linter.unusedSimpArgs false

def loopsP : Code → List Code
  | .loop c => [c]
  | .seq a b => loopsP a ++ loopsP b
  | .block _ c => loopsP c
  | .scope c => loopsP c
  | .cond _ a b => loopsP a ++ loopsP b
  | _ => []
def nthLoop (n : Nat) (c : Code) : Code := ((loopsP c)[n]?).getD .skip
noncomputable def cvB : Code := (Try.f8.body).getD .skip
noncomputable def cvT : Code := nthLoop 0 cvB
noncomputable def cvR : Code := nthLoop 1 cvB
noncomputable def cvE : Code := nthLoop 0 cvR
noncomputable def cvK : Code := nthLoop 0 cvE
noncomputable def cvF : Code := nthLoop 1 cvE
noncomputable def cvI : Code := nthLoop 0 cvK
noncomputable def cvY : Code := nthLoop 0 cvI
noncomputable def cvX : Code := nthLoop 0 cvY

/-- nothing but block gs has changed; it has these cells now -/
def SeenW (w w' : World) (gs : Nat) (cs : Array Value) : Prop :=
  w'.heap[gs]? = some (.cells cs 4 (0, 0)) ∧ (∀ g, g ≠ gs → w'.heap[g]? = w.heap[g]?) ∧ w'.heap.size = w.heap.size ∧ Below gs w w'
theorem SeenW.refl {w : World} {gs : Nat} {cs : Array Value} (h : w.heap[gs]? = some (.cells cs 4 (0, 0))) : SeenW w w gs cs := ⟨h, fun _ _ => rfl, rfl, Below.refl _ _⟩
theorem SeenW.trans {w w' w'' : World} {gs : Nat} {cs cs' : Array Value} (h : SeenW w w' gs cs) (h' : SeenW w' w'' gs cs') : SeenW w w'' gs cs' :=
  ⟨h'.1, fun g hg => (h'.2.1 g hg).trans (h.2.1 g hg), h'.2.2.1.trans h.2.2.1, h.2.2.2.trans h'.2.2.2⟩
theorem SeenW.drewN {w w' : World} {gs : Nat} {cs : Array Value} (h : SeenW w w' gs cs) (q : Nat) : SeenW w (w'.drewN q) gs cs := ⟨h.1, h.2.1, h.2.2.1, below_drewN h.2.2.2 q⟩
theorem SeenW.set {w w' : World} {gs p : Nat} {cs : Array Value} (h : SeenW w w' gs cs) (v : Value) : SeenW w (w'.setCell ⟨gs, p, none⟩ v) gs (cs.setIfInBounds p v) :=
  ⟨heap_setCell_same w' gs p _ _ v h.1, fun g hg => (Below.heap_setCell w' ⟨gs, p, none⟩ v g hg).trans (h.2.1 g hg), by rw [← h.2.2.1]; simp, h.2.2.2.setCell (p := ⟨gs, p, none⟩) (Nat.le_refl _) v⟩
theorem SeenW.cell {w w' : World} {gs b : Nat} {cs : Array Value} (h : SeenW w w' gs cs) (hb : b ≠ gs) (o : Nat) : w'.cell? ⟨b, o, none⟩ = w.cell? ⟨b, o, none⟩ := by
  simp only [World.cell?, h.2.1 b hb]
theorem SeenW.seen {w w' : World} {gs p N : Nat} {s : Nat → Bool} (h : SeenW w w' gs (csB s N)) (hp : p < N) : w'.cell? ⟨gs, p, none⟩ = some (.bool (s p)) := by
  rw [cell_of_row _ _ p _ _ (0, 0) h.1]
  exact csB_get hp
theorem SeenW.free {w w' : World} {gs p : Nat} {cs : Array Value} (h : SeenW w w' gs cs) : w'.frozen? ⟨gs, p, none⟩ = false := frozen_of_row _ _ p _ _ h.1
theorem made_csB (N : Nat) : madeCells #[.bool false] N = csB (fun _ => false) N := by
  apply Array.ext'
  rw [toList_madeCells_one]
  simp [csB, List.map_const']
theorem run_makeB (N : Nat) (hN : N ≤ 4096) (w : World) :
    (Instr.makeSlice 64 (.int .i64 (N : Int)) (.int .i64 (N : Int))).run Try.prog w = .ok (.slice (some ⟨w.heap.size, 0, none⟩) N N) (w.alloc (.cells (madeCells #[.bool false] N) 4)) := by
  have hinfo : (Try.prog.info? 4).map (fun i => (i.zero, i.size, i.bytes)) = some (some (.bool false), 1, 1) := by kernel_rfl
  rcases hi : Try.prog.info? 4 with _ | i
  · rw [hi] at hinfo; cases hinfo
  · rw [hi] at hinfo
    simp only [Option.map_some, Option.some.injEq, Prod.mk.injEq] at hinfo
    obtain ⟨hz0, hz1, hz2⟩ := hinfo
    have hr := run_make (P := Try.prog) w 64 4 i (.bool false) (by kernel_rfl) hi hz0 .i64 .i64 N N (by omega) (by omega) (by rw [hz2]; omega) (by omega)
    simpa [hz1, Value.cells] using hr
end Go.Proofs.Ytmieoifagnpbiaa
