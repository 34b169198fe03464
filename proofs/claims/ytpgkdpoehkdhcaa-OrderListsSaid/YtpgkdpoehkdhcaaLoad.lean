/- A LOAD OF A WHOLE STRUCT, AS ONE STEP (a walk that loads many cells one by one costs the kernel too much). -/
import Derived.Test.YtpgkdpoehkdhcaaLast
import Derived.WalkKit
namespace Go.Proofs.Ytpgkdpoehkdhcaa
open Go.RowKit
set_option maxRecDepth 100000
set_option linter.unusedVariables false

theorem load_cells {P : Program} {w : World} {b : Nat} {cs : List Value} {T : TypeId} (hb : w.heap[b]? = some (.cells cs.toArray T (0, 0))) : (loadCells ⟨b, 0, none⟩ cs.length).run P w = .ok cs.toArray w :=
  run_loadCells_list w ⟨b, 0, none⟩ cs (fun j v hj => by
    have := cell_of_row w b j cs.toArray T (0, 0) hb
    have e : (if j = 0 then (⟨b, 0, none⟩ : Addr) else ⟨b, j, none⟩) = ⟨b, j, none⟩ := by split <;> simp_all
    simp only [Addr.add, Nat.zero_add]
    rw [e, this]
    simpa using hj)
theorem run_loadRow {P : Program} {w : World} {b : Nat} {cs : List Value} {t T : TypeId} (hb : w.heap[b]? = some (.cells cs.toArray T (0, 0))) (hagg : (isAgg t).run P w = .ok true w) (hsz : (sizeOf t).run P w = .ok cs.length w) :
    (Instr.loadAt t (.pointer (some ⟨b, 0, none⟩))).run P w = .ok (.agg cs.toArray) w := by
  have h := load_cells (P := P) hb
  simp [Instr.loadAt, Instr.sureAddr, loadVar, hagg, hsz, h]
theorem wpList_loadRow {P : Program} {ops : Array Oper} {rest : List Oper} {o : Oper} {a : Act} {Q : Exit → Act → World → Prop} {w : World} (hgd : o.guard = none) {t : TypeId} {x : Operand} (ho : o.op = .load t x) {b : Nat} (hx : a.eval x = .pointer (some ⟨b, 0, none⟩))
    {cs : List Value} {T : TypeId} (hb : w.heap[b]? = some (.cells cs.toArray T (0, 0))) (hagg : (isAgg t).run P w = .ok true w) (hsz : (sizeOf t).run P w = .ok cs.length w)
    (h : wpList P ops Q rest (a.put o.dst (.agg cs.toArray)) w) : wpList P ops Q (o :: rest) a w := by
  refine wpList_plain hgd fun K hK => ?_
  unfold Oper.wp execOp
  have h1 := run_loadRow (P := P) hb hagg hsz
  simp only [ho, hx, Sem.run_bind, Sem.run_pure, Result.andThen_ok, h1]
  exact hK _ _ h
/-- .. of an operation -/
theorem exec_loadRow {P : Program} {o : Oper} {a : Act} {U : World} {t T : TypeId} {x : Operand} {b : Nat} {cs : List Value} (ho : o.op = .load t x) (hx : a.eval x = .pointer (some ⟨b, 0, none⟩))
    (hb : U.heap[b]? = some (.cells cs.toArray T (0, 0))) (hagg : (isAgg t).run P U = .ok true U) (hsz : (sizeOf t).run P U = .ok cs.length U) : (execOp a.eval o).run P U = .ok (.value (.agg cs.toArray)) U := by
  have h1 := run_loadRow (P := P) hb hagg hsz
  unfold execOp
  simp only [ho, hx, Sem.run_bind, Sem.run_pure, Result.andThen_ok, h1]
/-- a load of one cell -/
theorem exec_loadCell {P : Program} {o : Oper} {a : Act} {U : World} {t : TypeId} {x : Operand} {ad : Addr} {v : Value} (ho : o.op = .load t x) (hx : a.eval x = .pointer (some ad))
    (hc : U.cell? ad = some v) (hagg : (isAgg t).run P U = .ok false U) : (execOp a.eval o).run P U = .ok (.value v) U := by
  unfold execOp
  simp [ho, hx, Instr.loadAt, Instr.sureAddr, loadVar, hagg, hc]
/-- an operation reads of its frame nothing but its operands -/
def opnd (l : List (Nat × Value)) (n : Nat) : Value := match l with
  | [] => undef
  | (k, v) :: l => if n = k then v else opnd l n
def opv (l : List (Nat × Value)) : Operand → Value
  | .tmp t => opnd l t
  | .const v => v
  | .global g => .pointer (some ⟨g, 0, none⟩)
  | .func f => .func (.func f) #[] #[]
theorem exec_small {P : Program} {o : Oper} {a : Act} {U : World} {v : Value} (ρ : Operand → Value) (h : execOp a.eval o = execOp ρ o) (h2 : (execOp ρ o).run P U = .ok (.value v) U) : (execOp a.eval o).run P U = .ok (.value v) U := by
  rw [h]; exact h2
theorem onlyN_mk {K : Act → World → Prop} {a : Act} {w : World} (h : K a w) : OnlyN K .normal a w := h
end Go.Proofs.Ytpgkdpoehkdhcaa
