/- A REGION THAT DRAWS, IN THE ROUND OF A RANGE OVER A FUNCTION: as outside of one. -/
import Derived.RangeFuncNested
import Derived.RangeFuncBox
import Derived.RangeFuncCalls
import Derived.OrdersHeld
import Derived.OrdersIn
import Derived.Deep.RegionHeld
import Derived.Maps.OwnIn
import Derived.Test.YtpgkdpoehkdhcaaMem2
namespace Go.Proofs.Ytpgkdpoehkdhcaa
open Go.RowKit
set_option linter.unusedVariables false

/-- a way on that is normal, or none -/
def OnlyN (K : Act → World → Prop) : Exit → Act → World → Prop
  | .normal, a, w => K a w
  | _, _, _ => False
theorem onlyN_not {K : Act → World → Prop} : ¬ LetsOut (OnlyN K) := fun ⟨_, _, h⟩ => h
theorem onlyN_imp {K : Act → World → Prop} {Q : Exit → Act → World → Prop} (h : ∀ a w, K a w → Q .normal a w) : ∀ e a w, OnlyN K e a w → Q e a w := fun e a w hk => by
  cases e with
  | normal => exact h _ _ hk
  | _ => exact hk.elim

theorem opIn_of_op {P : Program} {ops : Array Oper} {Q : Exit → Act → World → Prop} {l n : Nat} (hd : ∀ (i : Nat) (o : Oper) (c : Call), ops[i]? = some o → o.op ≠ .defer c) (hQ : ¬ LetsOut Q) {i : Nat} {K K' : Act → World → Prop} (hk : ∀ a w, K a w → K' a w)
    {a : Act} {w : World} (h : wpOp P ops Q i K a w) : wpOpIn (Fence.wide.inRound l) n P ops Q i K' a w := by
  unfold wpOp at h
  unfold wpOpIn
  cases ho : ops[i]? with
  | none => rw [ho] at h; exact hk _ _ h
  | some o =>
    rw [ho] at h
    simp only at h ⊢
    split at h
    · rename_i hw
      rw [if_pos hw]
      rcases h with h | ⟨_, hl⟩
      · refine ⟨fun _ _ => trivial, ?_⟩
        rw [Oper.semAt_eq _ _ _ (fun c => hd i o c ho)]
        unfold Oper.wp at h
        generalize (execOp a.eval o).run P w = r at h
        cases r with
        | ok nx w' =>
          cases nx with
          | value v => exact hk _ _ h
          | skip => exact hk _ _ h
          | defer d => exact hk _ _ h
          | enter f args =>
            refine ⟨fun hh => (by simp [Fence.wide] at hh), CallsIn.inRound l (callsIn_wide.2 (Calls.mono h ?_))⟩
            intro e w'' he
            cases e with
            | returned v => exact hk _ _ he
            | panicked c => exact he
            | outgrown => exact he
          | row row args =>
            refine ⟨fun hh => (by simp [Fence.wide] at hh), fun c cs _ => ?_⟩
            obtain ⟨v, w'', r, s⟩ := h c cs
            exact ⟨v, w'', hk _ _ r, stepsIn_wide.2 s⟩
          | _ => exact (h : False).elim
        | halt x w' =>
          cases x with
          | panic v => exact h
          | _ => exact (h : False).elim
      · exact absurd hl hQ
    · rename_i hw
      rw [if_neg hw]
      exact ⟨fun _ _ => trivial, hk _ _ h⟩

theorem anyIn_of_any {P : Program} {ops : Array Oper} {md : Region.Mode} {Q : Exit → Act → World → Prop} {l n : Nat} (hd : ∀ (i : Nat) (o : Oper) (c : Call), ops[i]? = some o → o.op ≠ .defer c) (hQ : ¬ LetsOut Q) :
    ∀ (fuel : Nat) (listed : Array Bool) (a : Act) (w : World), wpAny P md ops Q fuel listed a w → wpAnyIn (Fence.wide.inRound l) n P md ops Q fuel listed a w
  | 0, _, _, _, h => h
  | fuel + 1, _, _, _, h => ⟨h.1, fun i hi => opIn_of_op hd hQ (fun a w => anyIn_of_any hd hQ fuel _ a w) (h.2 i hi)⟩

def noDefer (ops : Array Oper) : Bool := ops.all fun o => match o.op with | .defer _ => false | _ => true
theorem noDefer_spec {ops : Array Oper} (h : noDefer ops = true) (i : Nat) (o : Oper) (c : Call) (ho : ops[i]? = some o) : o.op ≠ .defer c := by
  unfold noDefer at h
  rw [Array.all_eq_true] at h
  obtain ⟨hi, he⟩ := Array.getElem?_eq_some_iff.1 ho
  have := h i hi
  rw [he] at this
  intro hc
  rw [hc] at this
  cases this
/-- the region, in a round -/
theorem round_region {P : Program} {ops : Array Oper} {Q : Exit → Act → World → Prop} {l n id : Nat} (hm : P.follows .mixedOrders = true) (hd : noDefer ops = true) (S : World → Prop)
    {K : Act → World → Prop} (hK : ∀ a w, K a w → Q .normal a w) {a : Act} {w : World}
    (h : S w.drew → wpAnyH P .any ops (OnlyN K) S ops.size (Array.replicate ops.size false) a w.drew) (hS : S w.drew) : (Code.region id ops true).wpIn (Fence.wide.inRound l) n P Q a w :=
  wpIn_mono (wpIn_region_any hm (anyIn_of_any (noDefer_spec hd) onlyN_not _ _ _ _ (wpAny_of_held _ _ _ _ (h hS)))) (onlyN_imp hK)

theorem OwnI.cells_row {w : World} {base n : Nat} {e : TypeId} {v : Value} {f : Nat → Int} (h : OwnI w base e v n f) {j : Nat} {o : Obj} (hv : v.ownBlock = some j) (ho : w.heap[j]? = some o) : o.isCells = true := by
  rcases h.2 with ⟨rfl, _⟩ | ⟨g, cap, cur, rfl, _, hg, _⟩
  · cases hv
  · have : g = j := by simpa [Value.ownBlock] using hv
    subst this
    rw [hg] at ho
    cases ho
    rfl
/-- an owned slice abides the turn of what is no cells -/
theorem OwnI.keptNC {w w' : World} {base n : Nat} {e : TypeId} {v : Value} {f : Nat → Int} {row : Option Nat} (h : OwnI w base e v n f) (hg : w.grownBy w' row) (hr : ∀ r, row = some r → ∃ o : Obj, w.heap[r]? = some o ∧ o.isCells = false) : OwnI w' base e v n f := by
  refine h.kept hg ?_
  rcases hv : v.ownBlock with _ | k
  · exact .inl rfl
  · refine .inr fun he => ?_
    obtain ⟨o, ho, hc⟩ := hr k he.symm
    rw [h.cells_row hv ho] at hc
    cases hc
theorem Boxed.keptNC {w w' : World} {p : Nat} {T : TypeId} {v : Value} {row : Option Nat} (h : Boxed w p T v) (hg : w.grownBy w' row) (hr : ∀ r, row = some r → ∃ o : Obj, w.heap[r]? = some o ∧ o.isCells = false) : Boxed w' p T v := by
  refine h.kept hg fun he => ?_
  obtain ⟨o, ho, hc⟩ := hr p he.symm
  rw [show w.heap[p]? = _ from h] at ho
  cases ho
  cases hc

theorem app1_step {w0 w w' : World} (hW : Below w0.heap.size w0 w) (hO : KeepsOthers w0 w) {base n c : Nat} {A : Option Addr} {e : TypeId} {f : Nat → Int} (hown : OwnI w0 base e (.slice A n c) n f) (hbase : base ≤ w0.heap.size)
    {v' : Value} (h2 : w.grownBy w' (Value.slice A n c).ownBlock) (h5 : v'.ownBlock = (Value.slice A n c).ownBlock ∨ v'.ownBlock = some w.heap.size) : AppStep w0 w' base (.slice A n c) v' ∧ KeepsOthers w0 w' := by
  have hownW := hown.below hW
  have hsz := hW.size
  refine ⟨⟨(hW.mono hbase).trans ((Below.refl base w).grown h2 (by omega) (fun j hj => (hown.lt j hj).1)), fun u m e' f' hu hs' => (hu.below hW).kept h2 hs'.symm.row, fun u m e' f' hu hs' k h6 h7 => ?_, fun p T u hx hne => (hx.below hW hx.lt).grown h2 (fun e => hne e.symm), fun p hp hne => (h2.cell_far p (by omega) (fun e => hne e.symm)).trans (hW.cell hp)⟩,
    hO.trans (KeepsOthers.of_grownBy h2 (fun j o hj ho => hownW.cells_row hj ho))⟩
  rcases h5 with h5 | h5
  · rw [h5] at h6
    exact hs' k h6 h7
  · rw [h5] at h6
    injection h6 with h6
    have := (hu.lt k h7).2
    omega

/-- 'v = append(v, x)' of one int, in a round -/
theorem wpListIn_app1 {F : Fence} {nF : Nat} {P : Program} {ops : Array Oper} {rest : List Oper} {o : Oper} {a : Act} {Q : Exit → Act → World → Prop} {w : World} (w0 : World) (hW : Below w0.heap.size w0 w) (hO : KeepsOthers w0 w) (hgd : o.guard = none) (s x : Operand) (t : TypeId)
    (ho : o.op = .call { callee := .builtin .append, args := #[s, x], argTypes := #[t, t] })
    (e : TypeId) (hinfo : (P.info? e).map (fun i => (i.zero, i.size, i.bytes)) = some (some (.int .i64 0), 1, 8)) (ht : P.underlying t = some (.slice e))
    (base : Nat) (A : Option Addr) (n c : Nat) (f : Nat → Int) (hs : a.eval s = .slice A n c) (hown : OwnI w0 base e (.slice A n c) n f) (h0 : Nat) (hx : a.eval x = .slice (some ⟨h0, 0, none⟩) 1 1)
    (hcell : w.cell? ⟨h0, 0, none⟩ = some (.int .i64 (f n))) (hn : n ≤ 1099511627776) (hbase : base ≤ w0.heap.size)
    (h : ∀ g cap w', OwnI w' base e (.slice (some ⟨g, 0, none⟩) (n + 1) cap) (n + 1) f → AppStep w0 w' base (.slice A n c) (.slice (some ⟨g, 0, none⟩) (n + 1) cap) → KeepsOthers w0 w' →
      wpListIn F nF P ops Q rest (a.put o.dst (.slice (some ⟨g, 0, none⟩) (n + 1) cap)) w') : wpListIn F nF P ops Q (o :: rest) a w := by
  obtain ⟨i0, hi, hz0, hz1, hz2⟩ := info_parts hinfo
  have hownW := hown.below hW
  have hsz := hW.size
  refine wpListIn_append_own_at _ hgd s x t ho base e i0 (.int .i64 0) 1 8 ht hi hz0 hz1 hz2 rfl (by decide) _ n _ hs hownW ⟨h0, 0, none⟩ 1 1 [.int .i64 (f n)] hx rfl (fun j u hj => ?_) (by simp [Value.oneCell']) (by unfold maxLen; omega) (by omega) (by omega) ?_
  · match j, hj with
    | 0, hj =>
      simp at hj; subst hj
      simpa [Addr.add] using hcell
  · intro v' w' h1 h2 _ h5
    rw [range_snoc] at h1
    obtain ⟨g, cap, rfl⟩ := ownsRow_succ h1
    have hst := app1_step hW hO hown hbase h2 h5
    exact h g cap w' h1 hst.1 hst.2

/-- 'v = append(v, x)' of one int, as a step of a region that draws; what is no cells stays -/
theorem step_app1K {P : Program} {ops : Array Oper} {o : Oper} {a : Act} {K : Act → World → Prop} {Q : Exit → Act → World → Prop} {E : Prop} {w : World} (w0 : World) (hW : Below w0.heap.size w0 w) (hO : KeepsOthers w0 w) (hgd : o.guard = none) (s x : Operand) (t : TypeId)
    (ho : o.op = .call { callee := .builtin .append, args := #[s, x], argTypes := #[t, t] })
    (e : TypeId) (hinfo : (P.info? e).map (fun i => (i.zero, i.size, i.bytes)) = some (some (.int .i64 0), 1, 8)) (ht : P.underlying t = some (.slice e))
    (base : Nat) (A : Option Addr) (n c : Nat) (f : Nat → Int) (hs : a.eval s = .slice A n c) (hown : OwnI w0 base e (.slice A n c) n f) (h0 : Nat) (hx : a.eval x = .slice (some ⟨h0, 0, none⟩) 1 1)
    (hcell : w.cell? ⟨h0, 0, none⟩ = some (.int .i64 (f n))) (hn : n ≤ 1099511627776) (hbase : base ≤ w0.heap.size)
    (h : ∀ g cap w', OwnI w' base e (.slice (some ⟨g, 0, none⟩) (n + 1) cap) (n + 1) f → AppStep w0 w' base (.slice A n c) (.slice (some ⟨g, 0, none⟩) (n + 1) cap) → KeepsOthers w0 w' →
      K (a.put o.dst (.slice (some ⟨g, 0, none⟩) (n + 1) cap)) w') :
    if Region.wanted o (yielded ops a.tmps) = true then Oper.wp P o a w K Q else E := by
  have hw : Region.wanted o (yielded ops a.tmps) = true := by simp [Region.wanted, hgd]
  rw [if_pos hw]
  obtain ⟨i0, hi, hz0, hz1, hz2⟩ := info_parts hinfo
  have hownW := hown.below hW
  have hsz := hW.size
  obtain ⟨v', w', hr, h1, h2, _, h5⟩ := run_append_own_at (P := P) w base t o.type e i0 (.int .i64 0) 1 8 ht hi hz0 hz1 hz2 rfl (by decide) _ n _ hownW ⟨h0, 0, none⟩ 1 1 [.int .i64 (f n)] rfl (fun j u hj => by
    match j, hj with
    | 0, hj =>
      simp at hj; subst hj
      simpa [Addr.add] using hcell) (by simp [Value.oneCell']) (by unfold maxLen; omega) (by omega) (by omega)
  rw [range_snoc] at h1
  obtain ⟨g, cap, rfl⟩ := ownsRow_succ h1
  have hst := app1_step hW hO hown hbase h2 h5
  unfold Oper.wp execOp
  simp only [ho, resolve, invoke, builtin, Sem.run_bind, Sem.run_pure, Result.andThen_ok, List.map_toArray, List.map_cons, List.map_nil, hs, hx, hr]
  exact h g cap w' h1 hst.1 hst.2

theorem boxed_step {W W1 : World} {q r B : Nat} {T : TypeId} {v u : Value} (h : Boxed W q T v) (hb : Below B W W1) (hq : q < B) (hne : q ≠ r) : Boxed (W1.setCell ⟨r, 0, none⟩ u) q T v :=
  (Below.heap_setCell W1 _ u q hne).trans ((hb.block q hq).trans h)
theorem boxed_here {W W1 : World} {q B : Nat} {T : TypeId} {v : Value} (h : Boxed W q T v) (hb : Below B W W1) (hq : q < B) (u : Value) : Boxed (W1.setCell ⟨q, 0, none⟩ u) q T u :=
  Boxed.set u (show Boxed W1 q T v from (hb.block q hq).trans h)
end Go.Proofs.Ytpgkdpoehkdhcaa
