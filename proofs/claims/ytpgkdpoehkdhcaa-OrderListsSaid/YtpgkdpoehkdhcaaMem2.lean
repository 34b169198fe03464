/- MORE WORDS FOR MEMORY: a whole slice of ints appended; make with room; one bit. -/
import Derived.Test.YtpgkdpoehkdhcaaMem
import Derived.Laws.BitsAllLaws
import Derived.Laws.BitsLemmas
namespace Go.Proofs.Ytpgkdpoehkdhcaa
open Go.RowKit
set_option linter.unusedVariables false

theorem add_plain (b off j : Nat) : (⟨b, off, none⟩ : Addr).add j = ⟨b, off + j, none⟩ := (Go.WideShapes.add_plain b off j)

def joinRow (n : Nat) (f g : Nat → Int) (k : Nat) : Int := if k < n then f k else g (k - n)
theorem range_join (n m : Nat) (f g : Nat → Int) : ((List.range n).map fun k => Value.int .i64 (f k)) ++ ((List.range m).map fun k => .int .i64 (g k)) = (List.range (n + m)).map fun k => Value.int .i64 (joinRow n f g k) := by
  rw [List.range_add, List.map_append, List.map_map]
  congr 1
  · apply List.map_congr_left
    intro k hk
    have := List.mem_range.1 hk
    simp [joinRow, this]
  · apply List.map_congr_left
    intro k hk
    simp only [joinRow, Function.comp]
    rw [if_neg (by omega), Nat.add_sub_cancel_left]

/-- 'v = append(v, xs...)', v a slice of the call's own, xs any slice of ints, nil let in: as one operation. -/
theorem wp_appN {P : Program} {o : Oper} {a : Act} {K : Act → World → Prop} {Q : Exit → Act → World → Prop} {w : World} (s x : Operand) (t : TypeId)
    (ho : o.op = .call { callee := .builtin .append, args := #[s, x], argTypes := #[t, t] })
    (e : TypeId) (hinfo : (P.info? e).map (fun i => (i.zero, i.size, i.bytes)) = some (some (.int .i64 0), 1, 8)) (ht : P.underlying t = some (.slice e))
    (base : Nat) (A : Option Addr) (n c : Nat) (f : Nat → Int) (hs : a.eval s = .slice A n c) (hown : OwnI w base e (.slice A n c) n f)
    (B : Nat) (X : Option Addr) (m d : Nat) (g : Nat → Int) (hx : a.eval x = .slice X m d) (hg : IntsAt w B X m g) (hn : n + m ≤ 1099511627776) (hbase : base ≤ w.heap.size)
    (h : ∀ A' cap w', OwnI w' base e (.slice A' (n + m) cap) (n + m) (joinRow n f g) → AppStep w w' base (.slice A n c) (.slice A' (n + m) cap) → K (a.put o.dst (.slice A' (n + m) cap)) w') : o.wp P a w K Q := by
  obtain ⟨i0, hi, hz0, hz1, hz2⟩ := info_parts hinfo
  rcases Nat.eq_zero_or_pos m with h0 | h0
  · subst h0
    have hrun : ∃ A' c' w', (Builtin.append_ #[t, t] o.type #[.slice A n c, .slice X 0 d]).run P w = .ok (.slice A' n c') w' ∧ w'.ownsRow base e 1 (.slice A' n c') n ((List.range n).map fun k => .int .i64 (f k)) ∧ w.grownBy w' (Value.ownBlock (.slice A n c)) ∧
        ((Value.ownBlock (.slice A' n c')) = (Value.ownBlock (.slice A n c)) ∨ (Value.ownBlock (.slice A' n c')) = some w.heap.size) := by
      rcases X with _ | ad
      · refine ⟨A, c, w, ?_, hown, World.grownBy.refl w _, .inl rfl⟩
        have hown' := hown
        rcases hown'.2 with ⟨e1, e2⟩ | ⟨g, cap, cur, e1, _, _, hnc, _⟩
        · injection e1 with e1 e3 e4
          subst e1 e2 e4
          simp [Builtin.append_, run_underlying ht, sizeOf, typeInfo, hi, Builtin.lenOf, Builtin.firstCells]
        · injection e1 with e1 _ e4
          subst e1 e4
          simp [Builtin.append_, run_underlying ht, sizeOf, typeInfo, hi, Builtin.lenOf, Builtin.firstCells, hnc, storeCells]
      · obtain ⟨v', w', hrun, h2, h3, _, h5⟩ := run_append_own_at (P := P) w base t o.type e i0 (.int .i64 0) 1 8 ht hi hz0 hz1 hz2 rfl (by decide) _ n _ hown ad 0 d [] rfl (fun j u hj => by simp at hj) (by simp) (by unfold maxLen; omega) (by omega) hbase
        rw [List.append_nil, Nat.add_zero] at h2
        have hf := h2
        rcases hf.2 with ⟨e1, _⟩ | ⟨g, cap, cur, e1, _⟩
        · subst e1
          have : n = 0 := by have := hf.2; rcases this with ⟨_, h⟩ | ⟨g, cap, cur, e1, _⟩; exact h; cases e1
          subst this
          exact ⟨none, 0, w', hrun, h2, h3, h5⟩
        · subst e1
          exact ⟨_, _, w', hrun, h2, h3, h5⟩
    obtain ⟨A', c', w', hr, h2, h3, h5⟩ := hrun
    unfold Oper.wp execOp
    simp only [ho, resolve, invoke, builtin, Sem.run_bind, Sem.run_pure, Result.andThen_ok, List.map_toArray, List.map_cons, List.map_nil, hs, hx, hr]
    refine h A' c' w' (OwnI.congr h2 (fun k hk => by simp only [joinRow]; rw [if_pos (by omega)])) ⟨(Below.refl base w).grown h3 hbase (fun j hj => (hown.lt j hj).1), fun u m' e' f' hu hs' => hu.kept h3 hs'.symm.row, fun u m' e' f' hu hs' => ?_, fun p T u hx' hne => hx'.grown h3 (fun e => hne e.symm), fun p hp hne => h3.cell_far p hp (fun e => hne e.symm)⟩
    intro k h6 h7
    rcases h5 with h5 | h5
    · exact hs' k (by rw [← h5]; exact h6) h7
    · have h6' : Value.ownBlock (.slice A' n c') = some k := h6
      rw [h5] at h6'
      injection h6' with h6'
      have := (hu.lt k h7).2
      omega
  · obtain ⟨b, off, rfl⟩ := hg.some_ h0
    refine wp_append_lies _ s x t ho base e i0 (.int .i64 0) 1 8 ht hi hz0 hz1 hz2 rfl (by decide) _ n _ hs hown ⟨b, off, none⟩ m d ((List.range m).map fun k => .int .i64 (g k)) hx (by simp) (fun j u hj => ?_) (by simp [Value.oneCell'])
      h0 (by unfold maxLen; omega) (by omega) hbase w.heap.size rfl ?_
    · rw [add_plain]
      by_cases hjm : j < m
      · simp [hjm] at hj
        subst hj
        exact hg.cells hjm
      · simp [hjm] at hj
    · intro g' cap w' h1 h2 h3 h4
      rw [range_join] at h1
      refine h (some ⟨g', 0, none⟩) cap w' h1 ⟨(Below.refl base w).grown h2 hbase (fun j hj => (hown.lt j hj).1), fun u m' e' f' hu hs' => hu.kept h2 hs'.symm.row, fun u m' e' f' hu hs' => Sep.app hs' hu ?_, fun p T u hx' hne => hx'.grown h2 (fun e => hne e.symm), fun p hp hne => h2.cell_far p hp (fun e => hne e.symm)⟩
      rcases h3 with h3 | h3
      · exact .inl h3
      · exact .inr (by omega)

theorem wpList_appN {P : Program} {ops : Array Oper} {rest : List Oper} {o : Oper} {a : Act} {Q : Exit → Act → World → Prop} {w : World} (hgd : o.guard = none) (s x : Operand) (t : TypeId)
    (ho : o.op = .call { callee := .builtin .append, args := #[s, x], argTypes := #[t, t] })
    (e : TypeId) (hinfo : (P.info? e).map (fun i => (i.zero, i.size, i.bytes)) = some (some (.int .i64 0), 1, 8)) (ht : P.underlying t = some (.slice e))
    (base : Nat) (A : Option Addr) (n c : Nat) (f : Nat → Int) (hs : a.eval s = .slice A n c) (hown : OwnI w base e (.slice A n c) n f)
    (B : Nat) (X : Option Addr) (m d : Nat) (g : Nat → Int) (hx : a.eval x = .slice X m d) (hg : IntsAt w B X m g) (hn : n + m ≤ 1099511627776) (hbase : base ≤ w.heap.size)
    (h : ∀ A' cap w', OwnI w' base e (.slice A' (n + m) cap) (n + m) (joinRow n f g) → AppStep w w' base (.slice A n c) (.slice A' (n + m) cap) → wpList P ops Q rest (a.put o.dst (.slice A' (n + m) cap)) w') : wpList P ops Q (o :: rest) a w :=
  wpList_plain hgd fun _ hK => wp_appN s x t ho e hinfo ht base A n c f hs hown B X m d g hx hg hn hbase fun A' cap w' h1 h2 => hK _ _ (h A' cap w' h1 h2)

/-- 'append([]int(nil), xs...)': a copy -/
theorem wpList_app0 {P : Program} {ops : Array Oper} {rest : List Oper} {o : Oper} {a : Act} {Q : Exit → Act → World → Prop} {w : World} (hgd : o.guard = none) (s x : Operand) (t : TypeId)
    (ho : o.op = .call { callee := .builtin .append, args := #[s, x], argTypes := #[t, t] })
    (e : TypeId) (hinfo : (P.info? e).map (fun i => (i.zero, i.size, i.bytes)) = some (some (.int .i64 0), 1, 8)) (ht : P.underlying t = some (.slice e))
    (base : Nat) (hs : a.eval s = .slice none 0 0) (B : Nat) (X : Option Addr) (m d : Nat) (g : Nat → Int) (hx : a.eval x = .slice X m d) (hg : IntsAt w B X m g) (hn : m ≤ 1099511627776) (hbase : base ≤ w.heap.size)
    (h : ∀ A' cap w', OwnI w' base e (.slice A' m cap) m g → Below base w w' → wpList P ops Q rest (a.put o.dst (.slice A' m cap)) w') : wpList P ops Q (o :: rest) a w := by
  refine wpList_appN hgd s x t ho e hinfo ht base none 0 0 (fun _ => 0) hs (OwnI.nil_ _ _ _ _) B X m d g hx hg (by omega) hbase fun A' cap w' h1 h2 => ?_
  have h1' : OwnI w' base e (.slice A' (0 + m) cap) (0 + m) g := h1.congr fun k hk => by simp [joinRow]
  have h2' := h2.below
  clear h1 h2
  rw [Nat.zero_add] at h1' ⊢
  exact h A' cap w' h1' h2'

/-- 'make([]int, 0, n)' -/
theorem run_make0 {P : Program} (t e : TypeId) (hinfo : (P.info? e).map (fun i => (i.zero, i.size, i.bytes)) = some (some (.int .i64 0), 1, 8)) (ht : P.underlying t = some (.slice e))
    (kl kc : IntKind) (n : Nat) (hn : n ≤ 1099511627776) (w : World) :
    (Instr.makeSlice t (.int kl 0) (.int kc (n : Int))).run P w = .ok (.slice (some ⟨w.heap.size, 0, none⟩) 0 n) (w.alloc (.cells (madeCells #[.int .i64 0] n) e)) := by
  obtain ⟨i, hi, hz0, hz1, hz2⟩ := info_parts hinfo
  have hr := run_make (P := P) w t e i (.int .i64 0) ht hi hz0 kl kc 0 n (by omega) (by omega) (by rw [hz2]; omega) (by omega)
  simpa [hz1, Value.cells] using hr
theorem OwnI.made0 (w : World) (base n : Nat) (e : TypeId) (f : Nat → Int) (hbase : base ≤ w.heap.size) (hn : n ≤ 1099511627776) : OwnI (w.alloc (.cells (madeCells #[.int .i64 0] n) e)) base e (.slice (some ⟨w.heap.size, 0, none⟩) 0 n) 0 f := by
  unfold OwnI
  exact World.ownsRow_made w _ n hbase (by unfold maxLen; omega) (by simp [size_madeCells])
/-- 'make([]int, n)' -/
theorem OwnI.made (w : World) (base n : Nat) (e : TypeId) (hbase : base ≤ w.heap.size) (hn : n ≤ 1099511627776) : OwnI (w.alloc (.cells (madeCells #[.int .i64 0] n) e)) base e (.slice (some ⟨w.heap.size, 0, none⟩) n n) n (fun _ => 0) := by
  have e1 : (List.range n).map (fun _ => Value.int .i64 0) = (madeCells #[.int .i64 0] n).toList.take n := by
    rw [toList_madeCells_one]; simp [List.map_const']
  unfold OwnI
  rw [e1]
  have := World.ownsRow_lit (base := base) (e := e) (size := 1) w (madeCells #[.int .i64 0] n) n hbase (by unfold maxLen; omega) (by simp [size_madeCells])
  rw [List.take_of_length_le (by simp [size_madeCells])]
  exact this

theorem ofInt_small (a : Nat) (ha : a < 9223372036854775808) : (BitVec.ofInt 64 (a : Int)).toNat = a := by
  rw [BitVec.ofInt_natCast, BitVec.toNat_ofNat]; exact Nat.mod_eq_of_lt (by omega)
theorem and_nat (a b : Nat) (ha : a < 9223372036854775808) (hb : b < 9223372036854775808) : bits .and .i64 (a : Int) (b : Int) = ((a &&& b : Nat) : Int) := by
  have hx : a &&& b < 2 ^ 63 := Nat.and_lt_two_pow _ (by omega)
  show IntKind.i64.wrap ((BitVec.ofInt 64 (a : Int) &&& BitVec.ofInt 64 (b : Int)).toNat : Int) = _
  rw [BitVec.toNat_and, ofInt_small a ha, ofInt_small b hb, IntKind.wrap_i64]
  omega
theorem and_one (a : Nat) (ha : a < 9223372036854775808) : bits .and .i64 (a : Int) 1 = ((a % 2 : Nat) : Int) := by
  have := and_nat a 1 ha (by omega)
  rw [Nat.and_one_is_mod] at this
  exact this
end Go.Proofs.Ytpgkdpoehkdhcaa
