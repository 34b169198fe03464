/- WORDS FOR A PLANE: a made row of ints that is written in place, and copied onto. -/
import Derived.Test.YtmcdhdofgaoadaaCut
import Derived.Laws.CopyOwn
namespace Go.Proofs.Ytmcdhdofgaoadaa
open Go.RowKit
set_option maxHeartbeats 1000000
set_option linter.unusedVariables false

/-- block g is a row of N ints -/
def PInt (w : World) (g N : Nat) (f : Nat → Int) : Prop := w.rowIs g 3 N (fun k => .int .i64 (f k))
section
variable {w w' : World} {g N B : Nat} {f h : Nat → Int}
theorem PInt.congr (p : PInt w g N f) (e : ∀ k, k < N → f k = h k) : PInt w g N h := World.rowIs.congr p fun k hk => by rw [e k hk]
theorem PInt.cell (p : PInt w g N f) {k : Nat} (hk : k < N) : w.cell? ⟨g, k, none⟩ = some (.int .i64 (f k)) := World.rowIs.cell p hk
theorem PInt.frozen (p : PInt w g N f) (k : Nat) : w.frozen? ⟨g, k, none⟩ = false := World.rowIs.frozen p k
theorem PInt.lt (p : PInt w g N f) : g < w.heap.size := World.rowIs.lt p
theorem PInt.below (p : PInt w g N f) (b : Below B w w') (hB : g < B) : PInt w' g N f := World.rowIs.of_block p (b.block _ hB)
theorem PInt.drewN (p : PInt w g N f) (q : Nat) : PInt (w.drewN q) g N f := p
theorem PInt.alloc (p : PInt w g N f) (o : Obj) : PInt (w.alloc o) g N f := World.rowIs.alloc p o
theorem PInt.set_ (p : PInt w g N f) (k : Nat) (v : Int) : PInt (w.setCell ⟨g, k, none⟩ (.int .i64 v)) g N (fun j => if j = k then v else f j) := (World.rowIs.set p k (.int .i64 v)).congr fun j hj => by by_cases e : j = k <;> simp [e]
theorem PInt.other (p : PInt w g N f) {a : Addr} (ha : g ≠ a.block) (v : Value) : PInt (w.setCell a v) g N f := World.rowIs.setOther p ha v
theorem PInt.made (w : World) (N : Nat) : PInt (w.alloc (.cells (madeCells #[.int .i64 0] N) 3)) w.heap.size N (fun _ => 0) := World.rowIs_made w (.int .i64 0) N 3
theorem PInt.ints (p : PInt w g N f) (hB : g < B) : IntsAt w B (some ⟨g, 0, none⟩) N f := IntsAt.of_row p (fun _ _ => rfl) hB
theorem PInt.own (p : PInt w g N f) (hB : B ≤ g) (hN : N ≤ 1099511627776) : OwnI w B 3 (.slice (some ⟨g, 0, none⟩) N N) N f := by
  obtain ⟨c, hc, hn, he⟩ := p
  have e1 : (List.range N).map (fun k => Value.int .i64 (f k)) = c.toList.take N := by
    refine List.ext_getElem? fun i => ?_
    by_cases hi : i < N
    · simp only [List.getElem?_map, List.getElem?_range hi, Option.map_some, List.getElem?_take, hi, if_true, Array.getElem?_toList]
      exact (he i hi).symm
    · rw [List.getElem?_eq_none (by simp; omega), List.getElem?_eq_none (by simp; omega)]
  unfold OwnI
  rw [e1]
  exact ⟨by simp; omega, .inr ⟨g, N, c, rfl, hB, hc, Nat.le_refl _, by unfold maxLen; omega, by omega, by simp⟩⟩
end

def overF (off k : Nat) (h f : Nat → Int) (j : Nat) : Int := if off ≤ j ∧ j < off + k then h (j - off) else f j

theorem splice_at {L cs : List Value} {off : Nat} (hf : off + cs.length ≤ L.length) (j : Nat) : (splice L off cs)[j]? = if off ≤ j ∧ j < off + cs.length then cs[j - off]? else L[j]? := by
  unfold splice
  rw [List.getElem?_append, List.length_take, Nat.min_eq_left (by omega)]
  by_cases h1 : j < off
  · rw [if_pos h1, if_neg (by omega), List.getElem?_take, if_pos h1]
  · rw [if_neg h1, List.getElem?_append]
    by_cases h2 : j < off + cs.length
    · rw [if_pos (by omega), if_pos ⟨by omega, h2⟩]
    · rw [if_neg (by omega), if_neg (by omega), List.getElem?_drop]
      congr 1; omega

/-- 'copy(dst, src)' onto a plane -/
theorem pint_splice {w : World} {g N off k : Nat} {f h : Nat → Int} {c : Array Value} (hn : c.size = N) (hc : ∀ i, i < N → c[i]? = some (.int .i64 (f i))) (hf : off + k ≤ N)
    (hg : w.heap[g]? = some (.cells (splice c.toList off ((List.range k).map fun i => .int .i64 (h i))).toArray 3 (0, 0))) : PInt w g N (overF off k h f) := by
  have hlen : ((List.range k).map fun i => Value.int .i64 (h i)).length = k := by simp
  refine ⟨_, hg, ?_, fun i hi => ?_⟩
  · rw [List.size_toArray, length_splice _ _ _ (by rw [hlen]; simp; omega)]; simpa using hn
  · rw [List.getElem?_toArray, splice_at (by rw [hlen]; simp; omega), hlen]
    by_cases e : off ≤ i ∧ i < off + k
    · rw [if_pos e]
      simp [overF, e, show i - off < k by omega]
    · rw [if_neg e, Array.getElem?_toList, hc i hi]
      simp [overF, e]

theorem step_copyI {P : Program} {ops : Array Oper} {o : Oper} {a : Act} {w : World} {K : Act → World → Prop} {Q : Exit → Act → World → Prop} {E : Prop} (hgd : o.guard = none) (d s : Operand) (T : TypeId)
    (ho : o.op = .call { callee := .builtin .copy, args := #[d, s], argTypes := #[T, T] }) (hu : P.underlying T = some (.slice 3)) (hsz : (P.info? 3).map (·.size) = some 1)
    (dp sp : Option Addr) (dLen dCap sLen sCap : Nat) (hd : a.eval d = .slice dp dLen dCap) (hs : a.eval s = .slice sp sLen sCap)
    (g N off k : Nat) (f h : Nat → Int) (hp : PInt w g N f) (hk : k = Nat.min sLen dLen) (hdp : 0 < k → dp = some ⟨g, off, none⟩) (Bs : Nat) (hsrc : IntsAt w Bs sp sLen h) (hfit : off + k ≤ N)
    (B : Nat) (w0 : World) (hb : Below B w0 w) (hBg : B ≤ g)
    (hK : ∀ w', PInt w' g N (overF off k h f) → Below B w0 w' → K (a.put o.dst (goInt k)) w') : if Region.wanted o (yielded ops a.tmps) = true then Oper.wp P o a w K Q else E := by
  obtain ⟨c, hc, hn, he⟩ := hp
  have hlen : ((List.range k).map fun i => Value.int .i64 (h i)).length = k := by simp
  have hm : Nat.min sLen dLen ≤ sLen := Nat.min_le_left _ _
  refine step_copy_splice hgd d s T T ho 3 hu hsz dp sp dLen dCap sLen sCap hd hs g off c.toList 3 (by simpa using hc) ((List.range k).map fun i => .int .i64 (h i)) (by rw [hlen, hk]) (fun h0 => ?_) (by rw [hlen]; simp; omega) (fun v hv => ?_) B w0 hb hBg (fun w' hw hb' => ?_)
  · rw [hlen] at h0
    obtain ⟨b, o', rfl, hlt, hcell⟩ := hsrc (by omega)
    refine ⟨hdp h0, _, rfl, fun j v hj => ?_⟩
    have hjk : j < k := by
      rcases Nat.lt_or_ge j k with h | h
      · exact h
      · rw [List.getElem?_eq_none (by rw [hlen]; exact h)] at hj; cases hj
    simp [hjk] at hj
    subst hj
    rw [add_plain]
    exact hcell j (by omega)
  · simp at hv
    obtain ⟨i, _, rfl⟩ := hv
    rfl
  · have := hK w' (pint_splice hn he hfit hw) hb'
    rw [hlen]; exact this

theorem wpList_copyI {P : Program} {w : World} {ops : Array Oper} {rest : List Oper} {o : Oper} {a : Act} {Q : Exit → Act → World → Prop} (hgd : o.guard = none) (d s : Operand) (T : TypeId)
    (ho : o.op = .call { callee := .builtin .copy, args := #[d, s], argTypes := #[T, T] }) (hu : P.underlying T = some (.slice 3)) (hsz : (P.info? 3).map (·.size) = some 1)
    (dp sp : Option Addr) (dLen dCap sLen sCap : Nat) (hd : a.eval d = .slice dp dLen dCap) (hs : a.eval s = .slice sp sLen sCap)
    (g N off k : Nat) (f h : Nat → Int) (hp : PInt w g N f) (hk : k = Nat.min sLen dLen) (hdp : 0 < k → dp = some ⟨g, off, none⟩) (Bs : Nat) (hsrc : IntsAt w Bs sp sLen h) (hfit : off + k ≤ N)
    (B : Nat) (w0 : World) (hb : Below B w0 w) (hBg : B ≤ g)
    (hK : ∀ w', PInt w' g N (overF off k h f) → Below B w0 w' → wpList P ops Q rest (a.put o.dst (goInt k)) w') : wpList P ops Q (o :: rest) a w := by
  refine wpList_plain hgd fun K hKK => ?_
  have := step_copyI (P := P) (ops := ops) (o := o) (a := a) (w := w) (K := K) (Q := Q) (E := True) hgd d s T ho hu hsz dp sp dLen dCap sLen sCap hd hs g N off k f h hp hk hdp Bs hsrc hfit B w0 hb hBg (fun w' h1 h2 => hKK _ _ (hK w' h1 h2))
  rwa [if_pos (by simp [Region.wanted, hgd])] at this
end Go.Proofs.Ytmcdhdofgaoadaa
