/- MORE WORDS FOR BANDS: '[][]int{a, b, c}', 'append([][]int{..}, high...)'; rows that stay clear of one block. -/
import Derived.Test.YtmcdhdofgaoadaaColumns
import Derived.Test.YtmcdhdofgaoadaaBands
namespace Go.Proofs.Ytmcdhdofgaoadaa
open Go.RowKit
set_option maxHeartbeats 1000000
set_option linter.unusedVariables false

/-- V is the slice of a band, clear of block p -/
def BandX (w : World) (own : Option Nat) (p : Nat) (V : Value) (b : Nat × (Nat → Int)) : Prop :=
  ∃ A c, V = .slice A b.1 c ∧ b.1 ≤ c ∧ IntsAt w w.heap.size A b.1 b.2 ∧ (0 < b.1 → ∀ ad, A = some ad → own ≠ some ad.block ∧ ad.block ≠ p)
/-- v owns a row of bands, all clear of block p -/
def RowsX (w : World) (base p : Nat) (v : Value) (bs : List (Nat × (Nat → Int))) : Prop :=
  ∃ Vs : List Value, w.ownsRow base 24 1 v bs.length Vs ∧ Vs.length = bs.length ∧ ∀ (k : Nat) (V : Value) (b : Nat × (Nat → Int)), Vs[k]? = some V → bs[k]? = some b → BandX w v.ownBlock p V b

theorem RowsX.rows {w : World} {base p : Nat} {v : Value} {bs : List (Nat × (Nat → Int))} (h : RowsX w base p v bs) : RowsAt w base v bs := by
  obtain ⟨Vs, h1, h2, h3⟩ := h
  refine ⟨Vs, h1, h2, fun k V b hV hb => ?_⟩
  obtain ⟨A, c, e, e2, e3, e4⟩ := h3 k V b hV hb
  exact ⟨A, c, e, e2, e3, fun h0 ad hA => (e4 h0 ad hA).1⟩
theorem RowsX.nil_ (w : World) (base p : Nat) : RowsX w base p (.slice none 0 0) [] :=
  ⟨[], ⟨rfl, .inl ⟨rfl, rfl⟩⟩, rfl, fun k V b hV _ => by simp at hV⟩
theorem RowsX.lt {w : World} {base p : Nat} {v : Value} {bs : List (Nat × (Nat → Int))} (h : RowsX w base p v bs) : ∀ k, v.ownBlock = some k → base ≤ k ∧ k < w.heap.size := by
  obtain ⟨Vs, h1, _⟩ := h
  exact World.ownsRow.lt h1
theorem BandX.below {w w' : World} {own : Option Nat} {p : Nat} {V : Value} {b : Nat × (Nat → Int)} (h : BandX w own p V b) (hb : Below w.heap.size w w') : BandX w' own p V b := by
  obtain ⟨A, c, h1, h2, h3, h4⟩ := h
  exact ⟨A, c, h1, h2, (h3.below hb).more hb.size, h4⟩
theorem RowsX.below {w w' : World} {base p : Nat} {v : Value} {bs : List (Nat × (Nat → Int))} (h : RowsX w base p v bs) (hb : Below w.heap.size w w') : RowsX w' base p v bs := by
  obtain ⟨Vs, h1, h2, h3⟩ := h
  refine ⟨Vs, World.ownsRow.kept h1 (row := none) ⟨hb.os, hb.tape, hb.output, hb.size, fun k hk _ => hb.block k hk⟩ ?_, h2, fun k V b hV hB => (h3 k V b hV hB).below hb⟩
  rcases hv : v.ownBlock with _ | k
  · exact .inl rfl
  · exact .inr (by simp)
theorem RowsX.drewN {w : World} {base p : Nat} {v : Value} {bs : List (Nat × (Nat → Int))} (h : RowsX w base p v bs) (q : Nat) : RowsX (w.drewN q) base p v bs := h
theorem RowsX.set_ {w : World} {base p j : Nat} {v : Value} {bs : List (Nat × (Nat → Int))} (h : RowsX w base p v bs) (hp : p < base) (u : Value) : RowsX (w.setCell ⟨p, j, none⟩ u) base p v bs := by
  obtain ⟨Vs, h1, h2, h3⟩ := h
  have hs : (w.setCell ⟨p, j, none⟩ u).heap.size = w.heap.size := by simp
  refine ⟨Vs, ownsRow_setCell_other h1 (fun hv => by have := (World.ownsRow.lt h1 _ hv).1; simp only at this; omega) u, h2, fun k V b hV hB => ?_⟩
  · obtain ⟨A, c, e, e2, e3, e4⟩ := h3 k V b hV hB
    refine ⟨A, c, e, e2, fun h0 => ?_, e4⟩
    rw [hs]
    exact (e3.other (g := p) (fun ad hA => ((e4 h0 ad hA).2).symm) u) h0

/-- '[][]int{a, b, c}' -/
theorem RowsX.lit3 (w : World) (base p : Nat) (A1 A2 A3 : Option Addr) (n1 n2 n3 c1 c2 c3 : Nat) (f1 f2 f3 : Nat → Int) (hb : base ≤ w.heap.size) (hc1 : n1 ≤ c1) (hc2 : n2 ≤ c2) (hc3 : n3 ≤ c3)
    (h1 : IntsAt w w.heap.size A1 n1 f1) (h2 : IntsAt w w.heap.size A2 n2 f2) (h3 : IntsAt w w.heap.size A3 n3 f3) (p1 : ∀ ad, A1 = some ad → ad.block ≠ p) (p2 : ∀ ad, A2 = some ad → ad.block ≠ p) (p3 : ∀ ad, A3 = some ad → ad.block ≠ p) :
    RowsX (w.alloc (.cells #[.slice A1 n1 c1, .slice A2 n2 c2, .slice A3 n3 c3] 24)) base p (.slice (some ⟨w.heap.size, 0, none⟩) 3 3) [(n1, f1), (n2, f2), (n3, f3)] := by
  have one : ∀ (A : Option Addr) (n c : Nat) (f : Nat → Int), n ≤ c → IntsAt w w.heap.size A n f → (∀ ad, A = some ad → ad.block ≠ p) → ∀ o, BandX (w.alloc o) (some w.heap.size) p (.slice A n c) (n, f) := by
    intro A n c f hc h hp o
    refine ⟨A, c, rfl, hc, (h.alloc (Nat.le_refl _) _).more (by simp), fun h0 ad hA => ⟨?_, hp ad hA⟩⟩
    obtain ⟨b, off, e, hlt, _⟩ := h h0
    rw [e] at hA
    injection hA with hA
    subst hA
    simp only [ne_eq, Option.some.injEq]
    omega
  refine ⟨[.slice A1 n1 c1, .slice A2 n2 c2, .slice A3 n3 c3], World.ownsRow_lit w #[.slice A1 n1 c1, .slice A2 n2 c2, .slice A3 n3 c3] 3 hb (by unfold maxLen; omega) rfl, rfl, fun k V b hV hB => ?_⟩
  match k, hV, hB with
  | 0, hV, hB => simp at hV hB; subst hV hB; exact one A1 n1 c1 f1 hc1 h1 p1 _
  | 1, hV, hB => simp at hV hB; subst hV hB; exact one A2 n2 c2 f2 hc2 h2 p2 _
  | 2, hV, hB => simp at hV hB; subst hV hB; exact one A3 n3 c3 f3 hc3 h3 p3 _
  | k + 3, hV, hB => simp at hV
theorem RowsX.lit1 (w : World) (base p : Nat) (A : Option Addr) (n c : Nat) (f : Nat → Int) (hb : base ≤ w.heap.size) (hc : n ≤ c) (h : IntsAt w w.heap.size A n f) (hp : ∀ ad, A = some ad → ad.block ≠ p) :
    RowsX (w.alloc (.cells #[.slice A n c] 24)) base p (.slice (some ⟨w.heap.size, 0, none⟩) 1 1) [(n, f)] := by
  refine ⟨[.slice A n c], World.ownsRow_lit w #[.slice A n c] 1 hb (by unfold maxLen; omega) rfl, rfl, fun k V b hV hB => ?_⟩
  match k, hV, hB with
  | 0, hV, hB =>
    simp at hV hB
    subst hV hB
    refine ⟨A, c, rfl, hc, (h.alloc (Nat.le_refl _) _).more (by simp), fun h0 ad hA => ⟨?_, hp ad hA⟩⟩
    obtain ⟨b, off, e, hlt, _⟩ := h h0
    rw [e] at hA
    injection hA with hA
    subst hA
    simp only [Value.ownBlock, ne_eq, Option.some.injEq]
    omega

/-- 'append(v, v2...)': v a row newer than all of v2's -/
theorem wpList_appRs {P : Program} {ops : Array Oper} {rest : List Oper} {o : Oper} {a : Act} {Q : Exit → Act → World → Prop} {w : World} (hgd : o.guard = none) (s x : Operand) (t : TypeId)
    (ho : o.op = .call { callee := .builtin .append, args := #[s, x], argTypes := #[t, t] })
    (hinfo : (P.info? 24).map (fun i => (i.zero, i.size, i.bytes)) = some (some (.slice none 0 0), 1, 24)) (ht : P.underlying t = some (.slice 24))
    (base p : Nat) (w0 : World) (v v2 : Value) (bs cs : List (Nat × (Nat → Int))) (hs : a.eval s = v) (hown : RowsX w base p v bs) (hx : a.eval x = v2) (hown2 : RowsX w0 base p v2 cs) (hW : Below w0.heap.size w0 w) (hnew : ∀ k, v.ownBlock = some k → w0.heap.size ≤ k)
    (hn : bs.length ≤ 1048576) (hm : cs.length ≤ 1048576) (hbase : base ≤ w.heap.size) (hpb : p < base) (hnil : cs = [] → v2 = .slice none 0 0)
    (h : ∀ v' w', RowsX w' base p v' (bs ++ cs) → Below w0.heap.size w0 w' → wpList P ops Q rest (a.put o.dst v') w') : wpList P ops Q (o :: rest) a w := by
  obtain ⟨i0, hi, hz0, hz1, hz2⟩ : ∃ i, P.info? 24 = some i ∧ i.zero = some (.slice none 0 0) ∧ i.size = 1 ∧ i.bytes = 24 := by
    rcases hp : P.info? 24 with _ | i
    · rw [hp] at hinfo; cases hinfo
    · rw [hp] at hinfo
      simp only [Option.map_some, Option.some.injEq, Prod.mk.injEq] at hinfo
      exact ⟨i, rfl, hinfo.1, hinfo.2.1, hinfo.2.2⟩
  have hsz := hW.size
  rcases Nat.eq_zero_or_pos cs.length with h0 | h0
  · obtain rfl := List.eq_nil_of_length_eq_zero h0
    have hv2 := hnil rfl
    subst hv2
    refine wpList_plain hgd fun K hK => ?_
    have hh := h v w (by rw [List.append_nil]; exact hown) hW
    obtain ⟨Vs, k1, _, _⟩ := hown
    unfold Oper.wp execOp
    rcases k1.2 with ⟨e1, e2⟩ | ⟨g, cap, cur, e1, _, _, hnc, _⟩
    · rw [e1] at hh hs
      have hr : (Builtin.append_ #[t, t] o.type #[.slice none 0 0, .slice none 0 0]).run P w = .ok (.slice none 0 0) w := by
        simp [Builtin.append_, run_underlying ht, sizeOf, typeInfo, hi, Builtin.lenOf, Builtin.firstCells]
      simp only [ho, resolve, invoke, builtin, Sem.run_bind, Sem.run_pure, Result.andThen_ok, List.map_toArray, List.map_cons, List.map_nil, hs, hx, hr]
      exact hK _ _ hh
    · rw [e1] at hh hs
      have hr : (Builtin.append_ #[t, t] o.type #[.slice (some ⟨g, 0, none⟩) bs.length cap, .slice none 0 0]).run P w = .ok (.slice (some ⟨g, 0, none⟩) bs.length cap) w := by
        simp [Builtin.append_, run_underlying ht, sizeOf, typeInfo, hi, Builtin.lenOf, Builtin.firstCells, hnc, storeCells]
      simp only [ho, resolve, invoke, builtin, Sem.run_bind, Sem.run_pure, Result.andThen_ok, List.map_toArray, List.map_cons, List.map_nil, hs, hx, hr]
      exact hK _ _ hh
  · obtain ⟨Vs, k1, k2, k3⟩ := hown
    obtain ⟨Vs2, g1, g2, g3⟩ := hown2.below hW
    obtain ⟨Vs20, g01, g02, g03⟩ := hown2
    obtain ⟨g, cap, rfl, hgb, hgl⟩ := g1.form h0
    have hg0 : g < w0.heap.size := (World.ownsRow.lt g01 g rfl).2
    have e5 : Vs20 = Vs2 := by
      apply List.ext_getElem? 
      intro j
      rcases Nat.lt_or_ge j cs.length with hj | hj
      · have a1 := g1.cellAt j (by omega)
        have a2 := g01.cellAt j (by omega)
        rw [← a1, ← a2]
        exact (hW.cell (p := ⟨g, j, none⟩) hg0).symm
      · rw [List.getElem?_eq_none (by omega), List.getElem?_eq_none (by omega)]
    subst e5
    refine wpList_plain hgd fun K hK => ?_
    refine wp_append_lies _ s x t ho base 24 i0 (.slice none 0 0) 1 24 ht hi hz0 hz1 hz2 rfl (by decide) v bs.length Vs hs k1 ⟨g, 0, none⟩ cs.length cap Vs20 hx (by omega) (fun j u hj => ?_) (fun u hu => ?_)
      h0 (by unfold maxLen; omega) (by omega) hbase w.heap.size rfl ?_
    · have hjl : j < cs.length := by
        rcases Nat.lt_or_ge j cs.length with h | h
        · exact h
        · rw [List.getElem?_eq_none (by omega)] at hj; cases hj
      have := g1.cellAt j (by omega)
      rw [add_plain, Nat.zero_add, this]
      exact hj
    · obtain ⟨j, hj, rfl⟩ := List.mem_iff_getElem.1 hu
      obtain ⟨A, c, e, _⟩ := g3 j _ _ (List.getElem?_eq_getElem hj) (List.getElem?_eq_getElem (by omega))
      rw [e]
      simp [Value.oneCell']
    · intro g' cap' w' h1 h2 h3 h4
      have hlen : (bs ++ cs).length = bs.length + cs.length := by simp
      have hB : Below w0.heap.size w0 w' := hW.trans ((Below.refl w0.heap.size w).grown h2 hsz (fun j hj => hnew j hj))
      have far : ∀ q : Addr, q.block < w.heap.size → v.ownBlock ≠ some q.block → w'.cell? q = w.cell? q := fun q hq hne => h2.cell_far q hq (fun e => hne e.symm)
      have band : ∀ (A' : Option Addr) (n' c' : Nat) (f' : Nat → Int), n' ≤ c' → IntsAt w w.heap.size A' n' f' → (0 < n' → ∀ ad, A' = some ad → v.ownBlock ≠ some ad.block ∧ ad.block ≠ p) → BandX w' (some g') p (.slice A' n' c') (n', f') := by
        intro A' n' c' f' hc' hI' hne'
        refine ⟨A', c', rfl, hc', fun hp => ?_, fun hp ad hA' => ?_⟩
        · obtain ⟨b', off', e, hlt, hcc⟩ := hI' hp
          refine ⟨b', off', e, Nat.lt_of_lt_of_le hlt h2.size, fun j hj => ?_⟩
          rw [far ⟨b', off' + j, none⟩ hlt (hne' hp ⟨b', off', none⟩ e).1]
          exact hcc j hj
        · obtain ⟨b', off', e, hlt, _⟩ := hI' hp
          have hnn := hne' hp _ e
          rw [e] at hA'
          injection hA' with hA'
          subst hA'
          refine ⟨?_, hnn.2⟩
          simp only [ne_eq, Option.some.injEq]
          rcases h3 with h3 | h3
          · rintro rfl; exact hnn.1 h3
          · omega
      refine hK _ _ (h _ w' ⟨Vs ++ Vs20, by rw [hlen]; exact h1, by rw [List.length_append, hlen]; omega, fun k V b hV hBb => ?_⟩ hB)
      by_cases hk : k < bs.length
      · rw [List.getElem?_append_left (by omega)] at hV
        rw [List.getElem?_append_left hk] at hBb
        obtain ⟨A', c', e, e2, e3, e4⟩ := k3 k V b hV hBb
        subst e
        exact band A' b.1 c' b.2 e2 e3 e4
      · rw [List.getElem?_append_right (by omega), k2] at hV
        rw [List.getElem?_append_right (by omega)] at hBb
        obtain ⟨A', c', e, e2, e3, e4⟩ := g03 _ V b hV hBb
        subst e
        refine band A' b.1 c' b.2 e2 ((e3.below hW).more hsz) (fun hp ad hA => ⟨fun ho => ?_, (e4 hp ad hA).2⟩)
        obtain ⟨b', off', e, hlt, _⟩ := e3 hp
        have := hnew _ ho
        rw [e] at hA
        injection hA with hA
        subst hA
        simp only at this
        omega
end Go.Proofs.Ytmcdhdofgaoadaa
