/- MORE WORDS FOR MEMORY: 'append([]int{}, xs...)'. -/
import Derived.Test.YtpgkdpoehkdhcaaMem2
namespace Go.Proofs.Ytpgkdpoehkdhcaa
open Go.RowKit
set_option linter.unusedVariables false

theorem OwnI.litE (w : World) (base : Nat) (e : TypeId) (f : Nat → Int) (hb : base ≤ w.heap.size) : OwnI (w.alloc (.cells #[] e)) base e (.slice (some ⟨w.heap.size, 0, none⟩) 0 0) 0 f := by
  unfold OwnI
  exact World.ownsRow_lit w #[] 0 hb (by unfold maxLen; omega) rfl

/-- 'append([]int{}, xs...)': a copy; w: the world ahead of the literal -/
theorem wpList_copyE {P : Program} {ops : Array Oper} {rest : List Oper} {o : Oper} {a : Act} {Q : Exit → Act → World → Prop} {w : World} (hgd : o.guard = none) (s x : Operand) (t : TypeId)
    (ho : o.op = .call { callee := .builtin .append, args := #[s, x], argTypes := #[t, t] })
    (e : TypeId) (hinfo : (P.info? e).map (fun i => (i.zero, i.size, i.bytes)) = some (some (.int .i64 0), 1, 8)) (ht : P.underlying t = some (.slice e))
    (base : Nat) (hs : a.eval s = .slice (some ⟨w.heap.size, 0, none⟩) 0 0) (B : Nat) (X : Option Addr) (m d : Nat) (g : Nat → Int) (hx : a.eval x = .slice X m d) (hg : IntsAt w B X m g) (hB : B ≤ w.heap.size) (hn : m ≤ 1099511627776) (hbase : base ≤ w.heap.size)
    (h : ∀ A' cap w', OwnI w' base e (.slice A' m cap) m g → Below base w w' → wpList P ops Q rest (a.put o.dst (.slice A' m cap)) w') : wpList P ops Q (o :: rest) a (w.alloc (.cells #[] e)) := by
  refine wpList_appN hgd s x t ho e hinfo ht base _ 0 0 (fun _ => 0) hs (OwnI.litE w base e _ hbase) B X m d g hx (hg.alloc hB _) (by omega) (by simp; omega) fun A' cap w' h1 h2 => ?_
  have h1' : OwnI w' base e (.slice A' (0 + m) cap) (0 + m) g := h1.congr fun k hk => by simp [joinRow]
  have h2' := ((Below.refl base w).alloc hbase _).trans h2.below
  clear h1 h2
  rw [Nat.zero_add] at h1' ⊢
  exact h A' cap w' h1' h2'
end Go.Proofs.Ytpgkdpoehkdhcaa
