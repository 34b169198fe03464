/- A CALL THAT ANSWERS THE SAME IN EVERY WORLD THAT MEETS S, AND LEAVES THE WORLD, MAY BE TAKEN FIRST in a region that draws: no ways beside it. -/
import Derived.Test.YtpgkdpoehkdhcaaMadeI
namespace Go.Proofs.Ytpgkdpoehkdhcaa
open Go.RowKit
set_option maxRecDepth 100000
set_option linter.unusedVariables false

section
variable {P : Program} {ops : Array Oper} {Q : Exit → Act → World → Prop} {md : Region.Mode} {S : World → Prop}

/-- the call is entered in every world that meets S; its callee answers v and leaves the world -/
def Quiet (P : Program) (ops : Array Oper) (S : World → Prop) (o : Oper) (f : FuncId) (args : Array Value) (v : Value) (a : Act) : Prop :=
  Region.wanted o (yielded ops a.tmps) = true ∧ ∀ w, S w → (execOp a.eval o).run P w = .ok (.enter f args) w ∧ Calls P f args w fun e w' => e = .returned v ∧ w = w'

theorem Quiet.step {i : Nat} {o : Oper} {f : FuncId} {args : Array Value} {v : Value} {a : Act} (hi : ops[i]? = some o) (hy : Quiet P ops S o f args v a)
    {K : Act → World → Prop} {w : World} (hS : S w) (h : K (a.put o.dst v) w) : wpOp P ops Q i K a w := by
  obtain ⟨hw, hv⟩ := hy
  obtain ⟨hr, hc⟩ := hv w hS
  unfold wpOp
  simp only [hi, hw, if_true, Oper.wp, hr, Oper.upon]
  exact .inl (hc.mono fun e w' ⟨he, hw'⟩ => by subst he; subst hw'; exact h)

theorem Quiet.same {o : Oper} {f : FuncId} {args : Array Value} {v : Value} {a a' : Act} (hy : Quiet P ops S o f args v a) (he : execOp a'.eval o = execOp a.eval o)
    (hw : Region.wanted o (yielded ops a'.tmps) = Region.wanted o (yielded ops a.tmps)) : Quiet P ops S o f args v a' :=
  ⟨hw.trans hy.1, fun w hS => by rw [he]; exact hy.2 w hS⟩

theorem Quiet.past {j : Nat} {oi oj : Oper} {f : FuncId} {args : Array Value} {v : Value} (hj : ops[j]? = some oj) (hap : oi.apart ops oj = true)
    (hsi : ∀ cs b, oi.op ≠ .select cs b) (hsj : ∀ cs b, oj.op ≠ .select cs b)
    (hQ : ∀ c a w, Q (.panic c) (a.put oi.dst v) w → Q (.panic c) a w) {K : Act → World → Prop} {a : Act} {w : World}
    (hy : Quiet P ops S oi f args v a) (h : wpOp P ops Q j K (a.put oi.dst v) w) :
    wpOp P ops Q j (fun a' w' => Quiet P ops S oi f args v a' ∧ K (a'.put oi.dst v) w') a w := by
  obtain ⟨p1, p2, p3⟩ := Oper.apart_spec hap
  have kp : ∀ u, Quiet P ops S oi f args v (a.put oj.dst u) := fun u => hy.same (execOp_put oi hsi a oj.dst u p3) (wanted_put oi a oj.dst u p3)
  unfold wpOp at h ⊢
  simp only [hj] at h ⊢
  rw [wanted_put oj a oi.dst v p1] at h
  by_cases hw : Region.wanted oj (yielded ops a.tmps) = true
  · simp only [hw, if_true] at h ⊢
    rcases h with h | ⟨hq, hl⟩
    · refine .inl ?_
      unfold Oper.wp at h ⊢
      rw [execOp_put oj hsj a oi.dst v p1] at h
      generalize (execOp a.eval oj).run P w = r at h ⊢
      cases r with
      | ok n w' =>
        cases n with
        | value u => exact ⟨kp u, by rw [← Act.put_comm a v u p2]; exact h⟩
        | skip => exact ⟨kp _, by rw [← Act.put_comm a v undef p2]; exact h⟩
        | defer d =>
          have kd : Quiet P ops S oi f args v { a with defers := d :: a.defers } := hy.same rfl rfl
          refine ⟨kd.same (execOp_put oi hsi _ oj.dst _ p3) (wanted_put oi _ oj.dst _ p3), ?_⟩
          rw [← Act.put_comm _ v undef p2, ← Act.put_defers]
          exact h
        | enter g xs =>
          refine Calls.mono h fun e w'' he => ?_
          cases e with
          | returned u => exact ⟨kp u, by rw [← Act.put_comm a v u p2]; exact he⟩
          | panicked c => exact hQ _ _ _ he
          | outgrown => exact he
        | row r' xs => exact Rows.mono h fun u w'' he => ⟨kp u, by rw [← Act.put_comm a v u p2]; exact he⟩
        | _ => exact h
      | halt x w' =>
        cases x with
        | panic u => exact hQ _ _ _ h
        | _ => exact h
    · exact .inr ⟨by unfold Oper.asks at hq ⊢; rw [execOp_put oj hsj a oi.dst v p1] at hq; exact hq, hl⟩
  · simp only [hw] at h ⊢
    exact ⟨kp _, by rw [← Act.put_comm a v undef p2]; exact h⟩

theorem quiet_first {i : Nat} {oi : Oper} {f : FuncId} {args : Array Value} {v : Value} (hi : ops[i]? = some oi) (hs : Region.noSelect ops = true)
    (hQ : ∀ c a w, Q (.panic c) (a.put oi.dst v) w → Q (.panic c) a w) : ∀ (fuel : Nat) (listed : Array Bool) (a : Act) (w : World),
      (∀ j oj, ops[j]? = some oj → j ≠ i → listed.getD j true = false → (∀ e ∈ oj.after, Region.binds md e = true → e.on ≠ i) → oi.apart ops oj = true) →
      i ∈ Region.ready md ops listed → Quiet P ops S oi f args v a → S w →
      wpAnyH P md ops Q S fuel (listed.setIfInBounds i true) (a.put oi.dst v) w → wpAnyH P md ops Q S (fuel + 1) listed a w := by
  have hsel := Region.noSelect_spec hs
  intro fuel
  induction fuel with
  | zero =>
    intro listed a w _ hr hy hS H
    refine ⟨fun h => (by rw [h] at hr; cases hr), fun j hj => ?_⟩
    by_cases hji : j = i
    · subst hji; exact hy.step hi hS ⟨hS, H⟩
    · have hb := ready_mono hj hji
      rw [H.1] at hb
      cases hb
  | succ n ih =>
    intro listed a w hfree hr hy hS H
    refine ⟨fun h => (by rw [h] at hr; cases hr), fun j hj => ?_⟩
    by_cases hji : j = i
    · subst hji; exact hy.step hi hS ⟨hS, H⟩
    · obtain ⟨hjun, oj, hoj, hall⟩ := mem_ready.1 hj
      have hri := (mem_ready.1 hr).1
      have hnot : ∀ e ∈ oj.after, Region.binds md e = true → e.on ≠ i := fun e he hb heq => by
        have h1 := hall e he hb
        rw [heq] at h1
        rcases Nat.lt_or_ge i listed.size with h' | h'
        · simp [h'] at hri h1; rw [hri] at h1; cases h1
        · simp [Array.getElem?_eq_none h'] at h1
      have hp := Quiet.past hoj (hfree j oj hoj hji hjun hnot) (fun cs b => hsel i oi cs b hi) (fun cs b => hsel j oj cs b hoj) hQ hy (H.2 j (ready_mono hj hji))
      refine wpOp_mono (fun a' w' ⟨hy', hS', hW'⟩ => ⟨hS', ih (listed.setIfInBounds j true) a' w' ?_ (ready_mono hr (Ne.symm hji)) hy' hS' ?_⟩) hp
      · intro k ok hk hki hun hno
        refine hfree k ok hk hki ?_ hno
        by_cases hjk : j = k
        · subst hjk; exact hjun
        · rw [getD_set_ne true hjk] at hun; exact hun
      · rw [Array.setIfInBounds_comm _ _ hji]
        exact hW'

/-- a quiet call may be taken first -/
theorem wpAnyH_call {i : Nat} {oi : Oper} {v : Value} {f : FuncId} {args : Array Value} {fuel : Nat} {listed : Array Bool} {a : Act} {w : World} (hi : ops[i]? = some oi)
    (hs : Region.noSelect ops = true) (hf : Region.free md ops listed i = true) (hr : (Region.ready md ops listed).contains i = true)
    (hQ : ∀ c a w, Q (.panic c) (a.put oi.dst v) w → Q (.panic c) a w) (hy : Region.wanted oi (yielded ops a.tmps) = true) (hc : ∀ w, Calls P f args w fun e w' => e = .returned v ∧ w = w')
    (hrun : ∀ w, S w → (execOp a.eval oi).run P w = .ok (.enter f args) w) (hS : S w)
    (h : wpAnyH P md ops Q S fuel (listed.setIfInBounds i true) (a.put oi.dst v) w) : wpAnyH P md ops Q S (fuel + 1) listed a w :=
  quiet_first hi hs hQ fuel listed a w (Region.free_spec hi hf) (by simpa using hr) ⟨hy, fun w hw => ⟨hrun w hw, hc w⟩⟩ hS h
end
/-- a whole struct is stored, cell by cell, from number j on -/
def setRow (w : World) (b : Nat) : Nat → List Value → World
  | _, [] => w
  | j, v :: vs => setRow (w.setCell ⟨b, j, none⟩ v) b (j + 1) vs
theorem setRow_far (b p : Nat) (hp : p ≠ b) : ∀ (vs : List Value) (j : Nat) (w : World), (setRow w b j vs).heap[p]? = w.heap[p]?
  | [], _, _ => rfl
  | v :: vs, j, w => (setRow_far b p hp vs (j + 1) _).trans (Below.heap_setCell w ⟨b, j, none⟩ v p hp)
theorem setRow_size (b : Nat) : ∀ (vs : List Value) (j : Nat) (w : World), (setRow w b j vs).heap.size = w.heap.size
  | [], _, _ => rfl
  | v :: vs, j, w => (setRow_size b vs (j + 1) _).trans (by simp)
theorem setRow_below {k b : Nat} {w0 : World} (hk : k ≤ b) : ∀ (vs : List Value) (j : Nat) (w : World), Below k w0 w → Below k w0 (setRow w b j vs)
  | [], _, _, h => h
  | v :: vs, j, w, h => setRow_below hk vs (j + 1) _ (h.setCell (p := ⟨b, j, none⟩) hk v)
theorem setRow_made {base b : Nat} {A : Option Addr} {k c : Nat} {F : Nat → CompD} {G : Nat → Nat → Int} {PC : CompD → (Nat → Int) → Prop} (hb : b < base) :
    ∀ (vs : List Value) (j : Nat) (w : World), MadeI w base A k c F G PC → MadeI (setRow w b j vs) base A k c F G PC
  | [], _, _, h => h
  | v :: vs, j, w, h => setRow_made hb vs (j + 1) _ (h.set_ (p := b) (j := j) hb v)
theorem setRow_go {b : Nat} {T : TypeId} : ∀ (vs pre old : List Value) (w : World), old.length = vs.length → w.heap[b]? = some (.cells (pre ++ old).toArray T (0, 0)) →
    (setRow w b pre.length vs).heap[b]? = some (.cells (pre ++ vs).toArray T (0, 0))
  | [], pre, old, w, hl, h => by
    have : old = [] := List.eq_nil_of_length_eq_zero (by simpa using hl)
    subst this
    exact h
  | v :: vs, pre, [], w, hl, h => by simp at hl
  | v :: vs, pre, o :: old, w, hl, h => by
    have h1 := heap_setCell_same w b pre.length _ T v h
    have e : ((pre ++ o :: old).toArray).setIfInBounds pre.length v = (pre ++ [v] ++ old).toArray := by
      apply Array.ext'
      simp
    rw [e] at h1
    have h2 := setRow_go vs (pre ++ [v]) old _ (by simpa using hl) h1
    simpa [setRow] using h2
theorem setRow_at {b : Nat} {T : TypeId} {w : World} {old : List Value} (vs : List Value) (hl : old.length = vs.length) (h : w.heap[b]? = some (.cells old.toArray T (0, 0))) :
    (setRow w b 0 vs).heap[b]? = some (.cells vs.toArray T (0, 0)) := setRow_go vs [] old w hl h
end Go.Proofs.Ytpgkdpoehkdhcaa
