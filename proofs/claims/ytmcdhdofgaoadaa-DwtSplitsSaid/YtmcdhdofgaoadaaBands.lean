/- WORDS FOR BANDS: a slice of slices of ints, its own row growing. -/
import Derived.Test.YtmcdhdofgaoadaaTurnRows
namespace Go.Proofs.Ytmcdhdofgaoadaa
open Go.RowKit
set_option maxHeartbeats 1000000
set_option linter.unusedVariables false

theorem sl_info : (Try.prog.info? 24).map (fun i => (i.zero, i.size, i.bytes)) = some (some (.slice none 0 0), 1, 24) := by kernel_rfl

/-- V is the slice of a band: so many ints, by f -/
def BandAt (w : World) (own : Option Nat) (V : Value) (b : Nat × (Nat → Int)) : Prop :=
  ∃ A c, V = .slice A b.1 c ∧ b.1 ≤ c ∧ IntsAt w w.heap.size A b.1 b.2 ∧ (0 < b.1 → ∀ ad, A = some ad → own ≠ some ad.block)
/-- v owns a row of bands -/
def RowsAt (w : World) (base : Nat) (v : Value) (bs : List (Nat × (Nat → Int))) : Prop :=
  ∃ Vs : List Value, w.ownsRow base 24 1 v bs.length Vs ∧ Vs.length = bs.length ∧ ∀ (k : Nat) (V : Value) (b : Nat × (Nat → Int)), Vs[k]? = some V → bs[k]? = some b → BandAt w v.ownBlock V b

theorem RowsAt.mono {w : World} {base base' : Nat} {v : Value} {bs : List (Nat × (Nat → Int))} (h : RowsAt w base v bs) (hb : base' ≤ base) : RowsAt w base' v bs := by
  obtain ⟨Vs, h1, h2, h3⟩ := h
  exact ⟨Vs, World.ownsRow.mono h1 hb, h2, h3⟩
theorem BandAt.below {w w' : World} {own : Option Nat} {V : Value} {b : Nat × (Nat → Int)} (h : BandAt w own V b) (hb : Below w.heap.size w w') : BandAt w' own V b := by
  obtain ⟨A, c, h1, h2, h3, h4⟩ := h
  exact ⟨A, c, h1, h2, (h3.below hb).more hb.size, h4⟩
theorem RowsAt.below {w w' : World} {base : Nat} {v : Value} {bs : List (Nat × (Nat → Int))} (h : RowsAt w base v bs) (hb : Below w.heap.size w w') : RowsAt w' base v bs := by
  obtain ⟨Vs, h1, h2, h3⟩ := h
  refine ⟨Vs, World.ownsRow.kept h1 (row := none) ⟨hb.os, hb.tape, hb.output, hb.size, fun k hk _ => hb.block k hk⟩ ?_, h2, fun k V b hV hB => (h3 k V b hV hB).below hb⟩
  rcases hv : v.ownBlock with _ | k
  · exact .inl rfl
  · exact .inr (by simp)
theorem RowsAt.alloc {w : World} {base : Nat} {v : Value} {bs : List (Nat × (Nat → Int))} (h : RowsAt w base v bs) (o : Obj) : RowsAt (w.alloc o) base v bs := h.below (below_alloc (Below.refl _ _) o)
theorem RowsAt.drewN {w : World} {base : Nat} {v : Value} {bs : List (Nat × (Nat → Int))} (h : RowsAt w base v bs) (q : Nat) : RowsAt (w.drewN q) base v bs := h

theorem RowsAt.lt {w : World} {base : Nat} {v : Value} {bs : List (Nat × (Nat → Int))} (h : RowsAt w base v bs) : ∀ k, v.ownBlock = some k → base ≤ k ∧ k < w.heap.size := by
  obtain ⟨Vs, h1, _⟩ := h
  exact World.ownsRow.lt h1
theorem RowsAt.form {w : World} {base : Nat} {v : Value} {bs : List (Nat × (Nat → Int))} (h : RowsAt w base v bs) (hn : 0 < bs.length) :
    ∃ g cap, v = .slice (some ⟨g, 0, none⟩) bs.length cap ∧ base ≤ g ∧ g < w.heap.size ∧ ∀ k (hk : k < bs.length), ∃ A c, w.cell? ⟨g, k, none⟩ = some (.slice A (bs[k]).1 c) ∧ (bs[k]).1 ≤ c ∧ IntsAt w w.heap.size A (bs[k]).1 (bs[k]).2 := by
  obtain ⟨Vs, h1, h2, h3⟩ := h
  obtain ⟨g, cap, rfl, hb, hlt⟩ := h1.form hn
  refine ⟨g, cap, rfl, hb, hlt, fun k hk => ?_⟩
  have hV : Vs[k]? = some (Vs[k]'(by omega)) := List.getElem?_eq_getElem _
  obtain ⟨A, c, e, h4, h5, _⟩ := h3 k _ _ hV (List.getElem?_eq_getElem hk)
  have := h1.cellAt k (by omega)
  rw [hV, e] at this
  exact ⟨A, c, this, h4, h5⟩

/-- '[][]int{xs}' -/
theorem RowsAt.lit (w : World) (base : Nat) (A : Option Addr) (n c : Nat) (f : Nat → Int) (hb : base ≤ w.heap.size) (hc : n ≤ c) (h : IntsAt w w.heap.size A n f) :
    RowsAt (w.alloc (.cells #[.slice A n c] 24)) base (.slice (some ⟨w.heap.size, 0, none⟩) 1 1) [(n, f)] := by
  refine ⟨[.slice A n c], World.ownsRow_lit w #[.slice A n c] 1 hb (by unfold maxLen; omega) rfl, rfl, fun k V b hV hB => ?_⟩
  match k, hV, hB with
  | 0, hV, hB =>
    simp at hV hB
    subst hV hB
    refine ⟨A, c, rfl, hc, (h.alloc (Nat.le_refl _) _).more (by simp), fun h0 ad hA => ?_⟩
    obtain ⟨b, off, e, hlt, _⟩ := h h0
    rw [e] at hA
    injection hA with hA
    subst hA
    simp only [Value.ownBlock, ne_eq, Option.some.injEq]
    omega

/-- 'out = append(out, xs)' -/
theorem wpList_appR {P : Program} {ops : Array Oper} {rest : List Oper} {o : Oper} {a : Act} {Q : Exit → Act → World → Prop} {w : World} (hgd : o.guard = none) (s x : Operand) (t : TypeId)
    (ho : o.op = .call { callee := .builtin .append, args := #[s, x], argTypes := #[t, t] })
    (hinfo : (P.info? 24).map (fun i => (i.zero, i.size, i.bytes)) = some (some (.slice none 0 0), 1, 24)) (ht : P.underlying t = some (.slice 24))
    (base : Nat) (w0 : World) (v : Value) (bs : List (Nat × (Nat → Int))) (hs : a.eval s = v) (hown : RowsAt w0 base v bs) (hW : Below w0.heap.size w0 w) (h0 : Nat) (hx : a.eval x = .slice (some ⟨h0, 0, none⟩) 1 1)
    (A : Option Addr) (n c : Nat) (f : Nat → Int) (hcell : w.cell? ⟨h0, 0, none⟩ = some (.slice A n c)) (hnc : n ≤ c) (hI : IntsAt w0 w0.heap.size A n f) (hne : 0 < n → ∀ ad, A = some ad → v.ownBlock ≠ some ad.block) (hn : bs.length ≤ 1048576) (hbase : base ≤ w0.heap.size)
    (h : ∀ v' w', RowsAt w' base v' (bs ++ [(n, f)]) → Below base w0 w' → wpList P ops Q rest (a.put o.dst v') w') : wpList P ops Q (o :: rest) a w := by
  obtain ⟨i0, hi, hz0, hz1, hz2⟩ : ∃ i, P.info? 24 = some i ∧ i.zero = some (.slice none 0 0) ∧ i.size = 1 ∧ i.bytes = 24 := by
    rcases hp : P.info? 24 with _ | i
    · rw [hp] at hinfo; cases hinfo
    · rw [hp] at hinfo
      simp only [Option.map_some, Option.some.injEq, Prod.mk.injEq] at hinfo
      exact ⟨i, rfl, hinfo.1, hinfo.2.1, hinfo.2.2⟩
  obtain ⟨Vs, k1, k2, k3⟩ := hown.below hW
  obtain ⟨Vs0, k01, _, k03⟩ := hown
  have hsz := hW.size
  refine wpList_plain hgd fun K hK => ?_
  refine wp_append_lies _ s x t ho base 24 i0 (.slice none 0 0) 1 24 ht hi hz0 hz1 hz2 rfl (by decide) v bs.length Vs hs k1 ⟨h0, 0, none⟩ 1 1 [.slice A n c] hx rfl (fun j u hj => ?_) (by simp [Value.oneCell'])
    (by omega) (by unfold maxLen; omega) (by omega) (by omega) w.heap.size rfl ?_
  · match j, hj with
    | 0, hj =>
      simp at hj; subst hj
      simpa [Addr.add] using hcell
  · intro g cap w' h1 h2 h3 h4
    have hlen : (bs ++ [(n, f)]).length = bs.length + 1 := by simp
    have hB : Below base w0 w' := (hW.mono hbase).trans ((Below.refl base w).grown h2 (by omega) (fun j hj => (World.ownsRow.lt k1 j hj).1))
    have far : ∀ p : Addr, p.block < w.heap.size → v.ownBlock ≠ some p.block → w'.cell? p = w.cell? p := fun p hp hne => h2.cell_far p hp (fun e => hne e.symm)
    refine hK _ _ (h _ w' ⟨Vs ++ [.slice A n c], by rw [hlen]; exact h1, by simp [k2], fun k V b hV hBb => ?_⟩ hB)
    have band : ∀ (A' : Option Addr) (n' c' : Nat) (f' : Nat → Int), n' ≤ c' → IntsAt w0 w0.heap.size A' n' f' → (0 < n' → ∀ ad, A' = some ad → v.ownBlock ≠ some ad.block) → BandAt w' (Value.ownBlock (.slice (some ⟨g, 0, none⟩) (bs.length + 1) cap)) (.slice A' n' c') (n', f') := by
      intro A' n' c' f' hc' hI' hne'
      refine ⟨A', c', rfl, hc', fun hp => ?_, fun hp ad hA' => ?_⟩
      · obtain ⟨b', off', e, hlt, hcc⟩ := hI' hp
        refine ⟨b', off', e, Nat.lt_of_lt_of_le hlt (Nat.le_trans hsz h2.size), fun j hj => ?_⟩
        rw [far ⟨b', off' + j, none⟩ (Nat.lt_of_lt_of_le hlt hsz) (hne' hp ⟨b', off', none⟩ e), hW.cell (p := ⟨b', off' + j, none⟩) hlt]
        exact hcc j hj
      · obtain ⟨b', off', e, hlt, _⟩ := hI' hp
        have hnn := hne' hp _ e
        rw [e] at hA'
        injection hA' with hA'
        subst hA'
        simp only [Value.ownBlock, ne_eq, Option.some.injEq]
        rcases h3 with h3 | h3
        · rintro rfl; exact hnn h3
        · omega
    by_cases hk : k < bs.length
    · rw [List.getElem?_append_left (by omega)] at hV
      rw [List.getElem?_append_left hk] at hBb
      have hV0 := hV
      obtain ⟨A', c', e, e2, e3, e4⟩ := k3 k V b hV hBb
      subst e
      -- the same band in the world ahead
      have : BandAt w0 v.ownBlock (.slice A' b.1 c') b := by
        have e5 : Vs0 = Vs := by
          have a1 := k01.2
          have a2 := k1.2
          rcases a1 with ⟨rfl, b0⟩ | ⟨g1, cap1, cur1, rfl, _, hg1, _, _, _, ht1⟩
          · have : Vs.length = 0 := by omega
            have hz : Vs = [] := List.eq_nil_of_length_eq_zero this
            have hz0 : Vs0.length = 0 := by rw [k01.1, b0]
            rw [hz, List.eq_nil_of_length_eq_zero hz0]
          · rcases a2 with ⟨e6, _⟩ | ⟨g2, cap2, cur2, e6, _, hg2, _, _, _, ht2⟩
            · cases e6
            · injection e6 with e6 _ _
              injection e6 with e6
              injection e6 with e6 _ _
              subst e6
              have hgl : g1 < w0.heap.size := by
                rcases Nat.lt_or_ge g1 w0.heap.size with h | h
                · exact h
                · rw [Array.getElem?_eq_none h] at hg1; cases hg1
              rw [hW.block g1 hgl, hg1] at hg2
              injection hg2 with hg2
              injection hg2 with hg2 _ _
              subst hg2
              rw [← ht1, ← ht2]
        exact k03 k _ _ (by rw [e5]; exact hV0) hBb
      obtain ⟨A2, c2, e7, e8, e9, e10⟩ := this
      injection e7 with e7 _ e7'
      subst e7 e7'
      exact band A' b.1 c' b.2 e8 e9 e10
    · have hk2 : k = bs.length := by
        rcases Nat.lt_or_ge k (bs.length + 1) with h | h
        · omega
        · rw [List.getElem?_eq_none (by rw [hlen]; omega)] at hBb; cases hBb
      subst hk2
      rw [List.getElem?_append_right (by omega), k2, Nat.sub_self] at hV
      rw [List.getElem?_append_right (by omega), Nat.sub_self] at hBb
      simp at hV hBb
      subst hV hBb
      exact band A n c f hnc hI hne
end Go.Proofs.Ytmcdhdofgaoadaa
