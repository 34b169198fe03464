/- WORDS FOR THE SORT: a row of spots that the call owns, as an array; what a load, an exchange of two of them leave. -/
import Derived.Test.YtpgkdpoehkdhcaaHeld
import Derived.Test.YtpgkdpoehkdhcaaStabP
import Derived.Laws.IdiomCopy
import Derived.Laws.Cells
namespace Go.Proofs.Ytpgkdpoehkdhcaa
open Go.RowKit Go.Sort
set_option linter.unusedVariables false
set_option maxHeartbeats 2000000

/-- a packet, its place, its rank -/
structure Spot where
  ly : Int
  rs : Int
  cm : Int
  pc : Int
  x : Int
  y : Int
  r0 : Int
  r1 : Int
  r2 : Int
  r3 : Int
  r4 : Int
  r5 : Int
  deriving Inhabited
def spotL (s : Spot) : List Value := [.int .i64 s.ly, .int .i64 s.rs, .int .i64 s.cm, .int .i64 s.pc, .int .i64 s.x, .int .i64 s.y, .int .i64 s.r0, .int .i64 s.r1, .int .i64 s.r2, .int .i64 s.r3, .int .i64 s.r4, .int .i64 s.r5]
theorem one_spot (s : Spot) : ∀ u ∈ spotL s, u.oneCell' = true := by
  intro u hu
  simp only [spotL, List.mem_cons, List.not_mem_nil, or_false] at hu
  rcases hu with rfl | rfl | rfl | rfl | rfl | rfl | rfl | rfl | rfl | rfl | rfl | rfl <;> rfl

/-- element k's cells laid anew -/
def setL : List Value → Nat → List Value → List Value
  | l, _, [] => l
  | l, j, v :: r => setL (l.set j v) (j + 1) r
theorem setL_all : ∀ (r pre old : List Value), old.length = r.length → setL (pre ++ old) pre.length r = pre ++ r
  | [], pre, old, h => by
    have : old = [] := List.eq_nil_of_length_eq_zero (by simpa using h)
    subst this; rfl
  | v :: r, pre, [], h => by simp at h
  | v :: r, pre, o :: old, h => by
    have e : (pre ++ o :: old).set pre.length v = (pre ++ [v]) ++ old := by simp
    rw [setL, e]
    have := setL_all r (pre ++ [v]) old (by simpa using h)
    simpa using this
theorem OwnC.storedFrom {base : Nat} {e : TypeId} {g sz n c k : Nat} (hk : k < n) : ∀ (vs : List Value) (j : Nat) (w : World) (f : Nat → List Value), j + vs.length ≤ sz → OwnC w base e sz (.slice (some ⟨g, 0, none⟩) n c) n f →
    OwnC (w.setCells g (k * sz + j) vs) base e sz (.slice (some ⟨g, 0, none⟩) n c) n (fun i => if i = k then setL (f k) j vs else f i)
  | [], j, w, f, _, h => by
    refine h.congr (fun i => ?_) (fun i _ => ?_)
    · show List.length (if i = k then f k else f i) = sz
      split <;> exact h.1 _
    · show f i = if i = k then f k else f i
      split
      · rename_i e; rw [e]
      · rfl
  | v :: r, j, w, f, hj, h => by
    have h1 := h.stored hk (show j < sz by simp at hj; omega) v
    have h2 := OwnC.storedFrom hk r (j + 1) _ _ (by simp at hj; omega) h1
    rw [World.setCells, Nat.add_assoc]
    refine h2.congr (fun i => ?_) (fun i _ => ?_)
    · have := h2.1 i
      dsimp only at this ⊢
      by_cases hi : i = k
      · rw [if_pos hi] at this ⊢; rw [if_pos rfl] at this; exact this
      · rw [if_neg hi] at this ⊢; rw [if_neg hi] at this; exact this
    · try dsimp only
      by_cases hi : i = k
      · rw [if_pos hi, if_pos hi, if_pos rfl]; rfl
      · rw [if_neg hi, if_neg hi, if_neg hi]
theorem OwnC.storedAll {base : Nat} {e : TypeId} {g sz n c k : Nat} {w : World} {f : Nat → List Value} (h : OwnC w base e sz (.slice (some ⟨g, 0, none⟩) n c) n f) (hk : k < n) (vs : List Value) (hv : vs.length = sz) :
    OwnC (w.setCells g (k * sz) vs) base e sz (.slice (some ⟨g, 0, none⟩) n c) n (fun i => if i = k then vs else f i) := by
  have h1 := OwnC.storedFrom hk vs 0 w f (by omega) h
  refine h1.congr (fun i => ?_) (fun i _ => ?_)
  · split
    · exact hv
    · exact h.1 _
  · try dsimp only
    by_cases hi : i = k
    · rw [if_pos hi, if_pos hi]
      have := setL_all vs [] (f k) (by rw [h.1, hv])
      simpa using this
    · rw [if_neg hi, if_neg hi]
theorem setCells_grown {g : Nat} : ∀ (vs : List Value) (o : Nat) (w : World), w.grownBy (w.setCells g o vs) (some g)
  | [], _, w => World.grownBy.refl w _
  | v :: r, o, w => by
    rw [World.setCells]
    have h1 : w.grownBy (w.setCell ⟨g, o, none⟩ v) (some g) := ⟨rfl, rfl, rfl, by simp, fun k hk hne => Below.heap_setCell w ⟨g, o, none⟩ v k (fun e => hne (by rw [e]))⟩
    exact h1.trans (setCells_grown r (o + 1) _)

/-- a world of the sort's: the row lies in block g, d its elements; but for that block all is as it was in w0 -/
structure SW (w0 : World) (base g c : Nat) (d : Array Spot) (W : World) : Prop where
  own : OwnC W base 65 12 (.slice (some ⟨g, 0, none⟩) d.size c) d.size (fun k => spotL d[k]!)
  gr : w0.grownBy W (some g)
  lt : g < w0.heap.size
section
variable {w0 W W' : World} {base g c : Nat} {d : Array Spot}
theorem SW.ltW (h : SW w0 base g c d W) : g < W.heap.size := Nat.lt_of_lt_of_le h.lt h.gr.size
theorem SW.below (h : SW w0 base g c d W) (hb : Below W.heap.size W W') : SW w0 base g c d W' :=
  ⟨h.own.below hb, h.gr.trans ⟨hb.os, hb.tape, hb.output, hb.size, fun k hk _ => hb.block k hk⟩, h.lt⟩
theorem SW.drew (h : SW w0 base g c d W) : SW w0 base g c d W.drew := h.below (Below.refl _ _).drew
theorem SW.alloc (h : SW w0 base g c d W) (o : Obj) : SW w0 base g c d (W.alloc o) := h.below (below_alloc (Below.refl _ _) o)
theorem SW.cells (h : SW w0 base g c d W) {k : Nat} (hk : k < d.size) : ∀ (j : Nat) (u : Value), (spotL d[k]!)[j]? = some u → W.cell? ⟨g, k * 12 + j, none⟩ = some u := fun j u hu => by
  have := h.own.at_.cells hk hu
  rwa [Nat.zero_add] at this
theorem SW.load (P : Program) (h : SW w0 base g c d W) {k : Nat} (hk : k < d.size) : (loadCells ⟨g, k * 12, none⟩ 12).run P W = .ok (spotL d[k]!).toArray W :=
  run_loadCells_list (P := P) (w := W) ⟨g, k * 12, none⟩ (spotL d[k]!) (fun j v hj => by rw [add_plain]; exact h.cells hk j v hj)
theorem SW.store (P : Program) (h : SW w0 base g c d W) {k : Nat} (hk : k < d.size) (x : Spot) : (storeCells ⟨g, k * 12, none⟩ (spotL x) 0).run P W = .ok () (W.setCells g (k * 12) (spotL x)) := by
  have := run_storeCells_cells (P := P) g (k * 12) (spotL x) 0 W (fun j hj => by
      have hj' : j < 12 := hj
      have hl : (spotL d[k]!).length = 12 := rfl
      rw [Nat.add_zero, h.cells hk j ((spotL d[k]!)[j]'(by omega)) (List.getElem?_eq_getElem _)]; rfl)
    (fun j hj => by rw [Nat.add_zero]; exact h.own.frozen _) (one_spot x)
  rwa [Nat.add_zero] at this
theorem SW.stored (h : SW w0 base g c d W) {k : Nat} (hk : k < d.size) (x : Spot) : SW w0 base g c (d.setIfInBounds k x) (W.setCells g (k * 12) (spotL x)) := by
  refine ⟨?_, h.gr.trans (setCells_grown _ _ _), h.lt⟩
  have h1 := h.own.storedAll hk (spotL x) rfl
  have hs : (d.setIfInBounds k x).size = d.size := by simp
  rw [hs]
  refine h1.congr (fun i => rfl) (fun i hi => ?_)
  try dsimp only
  by_cases e : i = k
  · subst e; rw [if_pos rfl, getElem!_pos _ i (by simpa using hk), Array.getElem_setIfInBounds, if_pos rfl]; exact hk
  · rw [if_neg e]
    congr 1
    rw [getElem!_pos d i hi, getElem!_pos _ i (by simpa using hi), Array.getElem_setIfInBounds]
    simp [Ne.symm e]
    exact hi
/-- the exchange -/
theorem SW.swapped (h : SW w0 base g c d W) {i j : Nat} (hi : i < d.size) (hj : j < d.size) : SW w0 base g c (swp d i j) ((W.setCells g (i * 12) (spotL d[j]!)).setCells g (j * 12) (spotL d[i]!)) :=
  (h.stored hi d[j]!).stored (by simpa using hj) d[i]!
end
/-- a load of a whole struct, wherever it lies -/
theorem step_loadK {P : Program} {ops : Array Oper} {o : Oper} {a : Act} {K : Act → World → Prop} {Q : Exit → Act → World → Prop} {E : Prop} {w : World} {t : TypeId} {x : Operand} {ad : Addr} {n : Nat} {cs : Array Value} (hgd : o.guard = none) (ho : o.op = .load t x) (hx : a.eval x = .pointer (some ad))
    (hagg : (isAgg t).run P w = .ok true w) (hsz : (sizeOf t).run P w = .ok n w) (hl : (loadCells ad n).run P w = .ok cs w) (h : K (a.put o.dst (.agg cs)) w) : if Region.wanted o (yielded ops a.tmps) = true then Oper.wp P o a w K Q else E := by
  rw [if_pos (by simp [Region.wanted, hgd])]
  unfold Oper.wp execOp
  have h1 : (Instr.loadAt t (.pointer (some ad))).run P w = .ok (.agg cs) w := by simp [Instr.loadAt, Instr.sureAddr, loadVar, hagg, hsz, hl]
  simp only [ho, hx, Sem.run_bind, Sem.run_pure, Result.andThen_ok, h1]
  exact h
/-- a store of one -/
theorem step_storeK {P : Program} {ops : Array Oper} {o : Oper} {a : Act} {K : Act → World → Prop} {Q : Exit → Act → World → Prop} {E : Prop} {w w' : World} {t : TypeId} {x y : Operand} {ad : Addr} {cs : List Value} (hgd : o.guard = none) (ho : o.op = .store t x y) (hx : a.eval x = .pointer (some ad)) (hy : a.eval y = .agg cs.toArray)
    (hsz : (sizeOf t).run P w = .ok cs.length w) (hs : (storeCells ad cs 0).run P w = .ok () w') (h : K (a.put o.dst undef) w') : if Region.wanted o (yielded ops a.tmps) = true then Oper.wp P o a w K Q else E := by
  rw [if_pos (by simp [Region.wanted, hgd])]
  unfold Oper.wp execOp
  have h1 : (Instr.storeAt t (.pointer (some ad)) (.agg cs.toArray)).run P w = .ok () w' := by simp [Instr.storeAt, Instr.sureAddr, storeVar, Value.cells, hsz, hs]
  simp only [ho, hx, hy, Sem.run_bind, Sem.run_pure, Result.andThen_ok, h1]
  exact h
theorem wrap_add {a b c : Nat} (h : a + b = c) (hc : c ≤ 9223372036854775807) : IntKind.i64.wrap ((a : Int) + (b : Int)) = (c : Int) := by
  rw [IntKind.wrap_i64]; omega
theorem wrap_sub {a b c : Nat} (h : c + b = a) (hc : a ≤ 9223372036854775807) : IntKind.i64.wrap ((a : Int) - (b : Int)) = (c : Int) := by
  rw [IntKind.wrap_i64]; omega
theorem exec_loadK {P : Program} {o : Oper} {a : Act} {U : World} {t : TypeId} {x : Operand} {ad : Addr} {n : Nat} {cs : Array Value} (ho : o.op = .load t x) (hx : a.eval x = .pointer (some ad))
    (hagg : (isAgg t).run P U = .ok true U) (hsz : (sizeOf t).run P U = .ok n U) (hl : (loadCells ad n).run P U = .ok cs U) : (execOp a.eval o).run P U = .ok (.value (.agg cs)) U := by
  unfold execOp
  have h1 : (Instr.loadAt t (.pointer (some ad))).run P U = .ok (.agg cs) U := by simp [Instr.loadAt, Instr.sureAddr, loadVar, hagg, hsz, hl]
  simp only [ho, hx, Sem.run_bind, Sem.run_pure, Result.andThen_ok, h1]
theorem exec_notK {P : Program} {o : Oper} {a : Act} {U : World} {t : TypeId} {x : Operand} {b : Bool} (ho : o.op = .unOp .not t x) (hx : a.eval x = .bool b) : (execOp a.eval o).run P U = .ok (.value (.bool (!b))) U := by
  unfold execOp
  simp [ho, hx, Op.unary]
/-- by rank, one number after another -/
def lexL : List Int → List Int → Int
  | a :: xs, b :: ys => if a < b then -1 else if b < a then 1 else lexL xs ys
  | _, _ => 0
theorem lexL_neg (a b : Int) (xs ys : List Int) : lexL (a :: xs) (b :: ys) < 0 ↔ a < b ∨ a = b ∧ lexL xs ys < 0 := by
  rw [lexL]
  split
  · constructor
    · intro; left; assumption
    · intro; decide
  · split
    · constructor
      · intro h; exact absurd h (by decide)
      · rintro (h | ⟨h, _⟩) <;> omega
    · constructor
      · intro h; right; exact ⟨by omega, h⟩
      · rintro (h | ⟨_, h⟩)
        · omega
        · exact h
theorem lexL_irrefl : ∀ xs, ¬ lexL xs xs < 0
  | [] => by decide
  | a :: xs => by
    rw [lexL_neg]
    rintro (h | ⟨_, h⟩)
    · omega
    · exact lexL_irrefl xs h
theorem lexL_trans : ∀ xs ys zs, lexL xs ys < 0 → lexL ys zs < 0 → lexL xs zs < 0
  | [], _, _, h, _ => by exact absurd h (by simp [lexL])
  | _ :: _, [], _, h, _ => by exact absurd h (by simp [lexL])
  | _ :: _, _ :: _, [], _, h => by exact absurd h (by simp [lexL])
  | a :: xs, b :: ys, c :: zs, h1, h2 => by
    rw [lexL_neg] at h1 h2 ⊢
    rcases h1 with h1 | ⟨h1, k1⟩
    · rcases h2 with h2 | ⟨h2, k2⟩
      · left; omega
      · left; omega
    · rcases h2 with h2 | ⟨h2, k2⟩
      · left; omega
      · right; exact ⟨by omega, lexL_trans xs ys zs k1 k2⟩
theorem lexL_ntrans : ∀ xs ys zs, xs.length = ys.length → ys.length = zs.length → ¬ lexL xs ys < 0 → ¬ lexL ys zs < 0 → ¬ lexL xs zs < 0
  | [], _, _, _, _, _, _ => by simp [lexL]
  | _ :: _, _, [], _, _, _, _ => by simp [lexL]
  | _ :: _, [], _ :: _, h, _, _, _ => by simp at h
  | a :: xs, b :: ys, c :: zs, e1, e2, h1, h2 => by
    rw [lexL_neg] at h1 h2 ⊢
    have := lexL_ntrans xs ys zs (by simpa using e1) (by simpa using e2)
    rintro (h3 | ⟨h3, k3⟩)
    · have n1 : ¬ a < b := fun h => h1 (Or.inl h)
      have n2 : ¬ b < c := fun h => h2 (Or.inl h)
      omega
    · have n1 : ¬ a < b := fun h => h1 (Or.inl h)
      have n2 : ¬ b < c := fun h => h2 (Or.inl h)
      have e : a = b := by omega
      have e' : b = c := by omega
      exact this (fun h => h1 (Or.inr ⟨e, h⟩)) (fun h => h2 (Or.inr ⟨e', h⟩)) k3
/-- what is alike in both ways is alike -/
theorem lexL_eq : ∀ xs ys, xs.length = ys.length → ¬ lexL xs ys < 0 → ¬ lexL ys xs < 0 → xs = ys
  | [], [], _, _, _ => rfl
  | [], _ :: _, h, _, _ => by simp at h
  | _ :: _, [], h, _, _ => by simp at h
  | a :: xs, b :: ys, e, h1, h2 => by
    rw [lexL_neg] at h1 h2
    have n1 : ¬ a < b := fun h => h1 (Or.inl h)
    have n2 : ¬ b < a := fun h => h2 (Or.inl h)
    have e1 : a = b := by omega
    rw [e1, lexL_eq xs ys (by simpa using e) (fun h => h1 (Or.inr ⟨e1, h⟩)) (fun h => h2 (Or.inr ⟨e1.symm, h⟩))]
def rk (s : Spot) : List Int := [s.r0, s.r1, s.r2, s.r3, s.r4, s.r5]
def cfS (x y : Spot) : Int := lexL (rk x) (rk y)
def ltS (x y : Spot) : Bool := decide (cfS x y < 0)
theorem swoS : SWO ltS := by
  constructor
  · intro x
    exact decide_eq_false (lexL_irrefl _)
  · intro x y z h1 h2
    exact decide_eq_true (lexL_trans (rk x) (rk y) (rk z) (of_decide_eq_true h1) (of_decide_eq_true h2))
  · intro x y z h1 h2
    exact decide_eq_false (lexL_ntrans (rk x) (rk y) (rk z) rfl rfl (of_decide_eq_false h1) (of_decide_eq_false h2))
end Go.Proofs.Ytpgkdpoehkdhcaa
