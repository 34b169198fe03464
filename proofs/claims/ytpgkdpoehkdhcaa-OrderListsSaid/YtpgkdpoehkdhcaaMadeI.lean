/- WORDS FOR MADE COMPONENTS: a slice of components that the call owns, their samples owned too, each in a block of its own. -/
import Derived.Test.YtpgkdpoehkdhcaaCpart
import Derived.Test.YtpgkdpoehkdhcaaKnown12
namespace Go.Proofs.Ytpgkdpoehkdhcaa
open Go.RowKit
set_option maxRecDepth 100000
set_option linter.unusedVariables false

structure MadeC (Xn Yn On Pn dn : Nat) (sg plain : Bool) (d : CompD) (f : Nat → Int) : Prop where
  dp : 1 ≤ d.dp ∧ d.dp ≤ 10
  dx : 1 ≤ d.dx ∧ d.dx ≤ 3
  dy : 1 ≤ d.dy ∧ d.dy ≤ 3
  sgn : d.sg = sg
  num : d.n = areaN Xn Yn On Pn d.dx.toNat d.dy.toNat
  ok : ∀ i, i < d.n → loB d.dp.toNat d.sg ≤ f i ∧ f i ≤ hiB d.dp.toNat d.sg
  pl : plain = true → d.dp = dn ∧ d.dx = 1 ∧ d.dy = 1
def dataV (d : CompD) : Value := .slice d.A d.n d.c
structure MadeI (W : World) (base : Nat) (A : Option Addr) (k c : Nat) (F : Nat → CompD) (G : Nat → Nat → Int) (PC : CompD → (Nat → Int) → Prop) : Prop where
  comps : OwnC W base 48 5 (.slice A k c) k (fun i => compL (F i))
  data : ∀ j, j < k → OwnI W base 3 (dataV (F j)) (F j).n (G j)
  sep : ∀ i j, i < j → j < k → Sep (dataV (F i)) (dataV (F j))
  good : ∀ j, j < k → PC (F j) (G j)
section
variable {W W' : World} {base base' : Nat} {A : Option Addr} {k c : Nat} {F : Nat → CompD} {G : Nat → Nat → Int} {PC : CompD → (Nat → Int) → Prop}
theorem OwnI.ne_block {w : World} {base n p : Nat} {e T : TypeId} {v : Value} {f : Nat → Int} {cs : Array Value} {fl : Nat × Nat} (h : OwnI w base e v n f) (hp : w.heap[p]? = some (.cells cs T fl)) (hne : e ≠ T) : v.ownBlock ≠ some p := by
  rcases h.2 with ⟨rfl, _⟩ | ⟨g, cap, cur, rfl, _, hh, _⟩
  · simp [Value.ownBlock]
  · intro he
    have : g = p := by simpa [Value.ownBlock] using he
    subst this
    rw [hp] at hh
    injection hh with hh
    injection hh with _ hh _
    exact hne hh.symm
theorem sep_CI {w : World} {b1 b2 n sz m : Nat} {e e' : TypeId} {v v' : Value} {f : Nat → List Value} {g : Nat → Int} (h : OwnC w b1 e sz v n f) (h' : OwnI w b2 e' v' m g) (hne : e ≠ e') : Sep v v' := by
  intro p h1 h2
  rcases h.2.2 with ⟨rfl, _⟩ | ⟨p1, cap, cur, rfl, _, hh, _⟩
  · cases h1
  · have : p1 = p := by simpa [Value.ownBlock] using h1
    subst this
    exact h'.ne_block hh hne.symm h2
theorem MadeI.below (h : MadeI W base A k c F G PC) (hb : Below W.heap.size W W') : MadeI W' base A k c F G PC :=
  ⟨h.comps.below hb, fun j hj => (h.data j hj).below hb, h.sep, h.good⟩
theorem MadeI.set_ (h : MadeI W base A k c F G PC) {p j : Nat} (hp : p < base) (u : Value) : MadeI (W.setCell ⟨p, j, none⟩ u) base A k c F G PC :=
  ⟨h.comps.other (a := ⟨p, j, none⟩) (fun he => by have := (h.comps.lt _ he).1; simp only at this; omega) u, fun i hi => (h.data i hi).other (a := ⟨p, j, none⟩) (fun he => by have := ((h.data i hi).lt _ he).1; simp only at this; omega) u, h.sep, h.good⟩
theorem MadeI.nil_ (W : World) (base : Nat) (PC : CompD → (Nat → Int) → Prop) : MadeI W base none 0 0 (fun _ => comp8) (fun _ _ => 0) PC :=
  ⟨OwnC.nil_ _ _ _ _ _ (fun _ => rfl), fun j hj => absurd hj (by omega), fun i j _ hj => absurd hj (by omega), fun j hj => absurd hj (by omega)⟩
/-- one component more, its samples in a block of their own: what is told of the world ahead of the append, and of the one behind it -/
theorem MadeI.more {W0 : World} (h : MadeI W0 base A k c F G PC) {d : CompD} {f : Nat → Int} (hd : OwnI W0 base 3 (dataV d) d.n f) (hs : ∀ j, j < k → Sep (dataV (F j)) (dataV d)) (hp : PC d f) {A' : Option Addr} {c' : Nat}
    (ho : OwnC W' base 48 5 (.slice A' (k + 1) c') (k + 1) (fun i => compL (if i = k then d else F i))) (hst : StepC W0 W' base (.slice A k c) (.slice A' (k + 1) c')) :
    MadeI W' base A' (k + 1) c' (fun i => if i = k then d else F i) (fun i => if i = k then f else G i) PC := by
  have hk : ∀ (u : Value) (m : Nat) (g : Nat → Int), OwnI W0 base 3 u m g → OwnI W' base 3 u m g := fun u m g hu => hst.keepI u m _ g hu (sep_CI h.comps hu (by decide))
  refine ⟨ho, fun j hj => ?_, fun i j hij hj => ?_, fun j hj => ?_⟩
  · skip
    by_cases hjk : j = k
    · rw [if_pos hjk, if_pos hjk]; exact hk _ _ _ hd
    · rw [if_neg hjk, if_neg hjk]; exact hk _ _ _ (h.data j (by omega))
  · skip
    rw [if_neg (show ¬ i = k by omega)]
    by_cases hjk : j = k
    · rw [if_pos hjk]; exact hs i (by omega)
    · rw [if_neg hjk]; exact h.sep i j hij (by omega)
  · skip
    by_cases hjk : j = k
    · rw [if_pos hjk, if_pos hjk]; exact hp
    · rw [if_neg hjk, if_neg hjk]; exact h.good j (by omega)
end
end Go.Proofs.Ytpgkdpoehkdhcaa
