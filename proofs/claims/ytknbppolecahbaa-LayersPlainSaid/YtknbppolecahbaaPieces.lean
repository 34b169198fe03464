/- CONTRACT of layers.pieces: an iterator over the pieces that passes are cut into. -/
import Derived.RangeFuncNested
import Derived.RangeFuncBound
import Derived.RangeFuncBox
import Derived.RangeFuncCalls
import Derived.RangeFuncLeaves
import Derived.Shelf.Abstract
import Derived.Shelf.RegionOpen
import Derived.WalkKit
import Derived.OwnWalkIn
import Derived.TacticsInMore
import Derived.LoopNIn
import Derived.LoopIn
import Derived.Maps.AppendAt
import Derived.Test.YtknbppolecahbaaMem
import Derived.Test.YtknbppolecahbaaLayersWalk
namespace Go.Proofs.Ytknbppolecahbaa
open Go.RowKit Go.Shelf
attribute [local go_sem] Oper.semAt_some
set_option maxHeartbeats 1000000
set_option linter.unusedVariables false

/-- does a piece end behind pass k? -/
def cutB (E : Nat → Bool) (to k : Nat) : Bool := E k || k + 1 == to
def stepP (E : Nat → Bool) (to : Nat) (st : List (Nat × Nat) × Nat) (k : Nat) : List (Nat × Nat) × Nat := if cutB E to k then (st.1 ++ [(st.2, k + 1)], k + 1) else st
/-- the pieces of the first n passes from one on, and where the next one begins -/
def piecesP (E : Nat → Bool) (to frm : Nat) : Nat → List (Nat × Nat) × Nat
  | 0 => ([], frm)
  | n + 1 => stepP E to (piecesP E to frm n) (frm + n)
theorem piecesP_beg (E : Nat → Bool) (to frm : Nat) : ∀ n, (piecesP E to frm n).2 ≤ frm + n
  | 0 => Nat.le_refl _
  | n + 1 => by
    have := piecesP_beg E to frm n
    unfold piecesP stepP
    split
    · exact Nat.le_refl _
    · omega
theorem piecesP_len (E : Nat → Bool) (to frm : Nat) : ∀ n, (piecesP E to frm n).1.length ≤ n
  | 0 => Nat.le_refl _
  | n + 1 => by
    have := piecesP_len E to frm n
    unfold piecesP stepP
    split
    · simp only [List.length_append, List.length_singleton]; omega
    · omega
theorem piecesP_next (E : Nat → Bool) (to frm k : Nat) (hk : frm ≤ k) : piecesP E to frm (k + 1 - frm) = stepP E to (piecesP E to frm (k - frm)) k := by
  rw [show k + 1 - frm = (k - frm) + 1 by omega]
  show stepP E to (piecesP E to frm (k - frm)) (frm + (k - frm)) = _
  rw [show frm + (k - frm) = k by omega]
abbrev Piece (to : Nat) := { x : Nat × Nat // x.1 < x.2 ∧ x.2 ≤ to }
abbrev encP (to : Nat) (x : Piece to) : Array Value := #[.int .i64 x.1.1, .int .i64 x.1.2]

/-- three blocks are as they were -/
def Keeps3 (a b c : Nat) (W W' : World) : Prop := W'.heap[a]? = W.heap[a]? ∧ W'.heap[b]? = W.heap[b]? ∧ W'.heap[c]? = W.heap[c]?
theorem Keeps3.refl (a b c : Nat) (W : World) : Keeps3 a b c W W := ⟨rfl, rfl, rfl⟩
theorem Keeps3.trans {a b c : Nat} {A B C : World} (h : Keeps3 a b c A B) (k : Keeps3 a b c B C) : Keeps3 a b c A C := ⟨k.1.trans h.1, k.2.1.trans h.2.1, k.2.2.trans h.2.2⟩
theorem Keeps3.cell1 {a b c : Nat} {W W' : World} (h : Keeps3 a b c W W') {j : Nat} : W'.cell? ⟨a, j, none⟩ = W.cell? ⟨a, j, none⟩ := World.cell?_of_block h.1
theorem Keeps3.cell2 {a b c : Nat} {W W' : World} (h : Keeps3 a b c W W') {j : Nat} : W'.cell? ⟨b, j, none⟩ = W.cell? ⟨b, j, none⟩ := World.cell?_of_block h.2.1
theorem Keeps3.cell3 {a b c : Nat} {W W' : World} (h : Keeps3 a b c W W') {j : Nat} : W'.cell? ⟨c, j, none⟩ = W.cell? ⟨c, j, none⟩ := World.cell?_of_block h.2.2

theorem Keeps3.step {a b c B r : Nat} {W W1 : World} {u : Value} (h : Below B W W1) (h1 : a < B) (h2 : b < B) (h3 : c < B) (n1 : a ≠ r) (n2 : b ≠ r) (n3 : c ≠ r) : Keeps3 a b c W (W1.setCell ⟨r, 0, none⟩ u) :=
  ⟨(Below.heap_setCell W1 _ u a n1).trans (h.block a h1), (Below.heap_setCell W1 _ u b n2).trans (h.block b h2), (Below.heap_setCell W1 _ u c n3).trans (h.block c h3)⟩
theorem Keeps3.set_ {a b c r : Nat} {W : World} {u : Value} (n1 : a ≠ r) (n2 : b ≠ r) (n3 : c ≠ r) : Keeps3 a b c W (W.setCell ⟨r, 0, none⟩ u) :=
  ⟨Below.heap_setCell W _ u a n1, Below.heap_setCell W _ u b n2, Below.heap_setCell W _ u c n3⟩

set_option maxRecDepth 100000 in
theorem pieces1_in (n : Nat) (hn : 1 ≤ n) (l bf bt bs : Nat) (s : Int) (t b : Bool) (ht : (bits .and .i64 s 4 != 0) = t) (hb : (bits .and .i64 s 1 != 0) = b) (frm to : Nat) (hto : to ≤ 1000) (hft : frm ≤ to)
    (J Jx : List (Piece to) → World → Prop)
    (hY : ∀ pre x W, J pre W → pre.length < to + 1 → YieldAt Fence.wide (n - 1) Try.prog l (encP to x) W fun e W' =>
      (e = .returned (.bool true) ∧ J (pre ++ [x]) W' ∧ Keeps3 bf bt bs W W') ∨ (e = .returned (.bool false) ∧ Jx (pre ++ [x]) W'))
    (W : World) (cf : W.cell? ⟨bf, 0, none⟩ = some (.int .i64 frm)) (ct : W.cell? ⟨bt, 0, none⟩ = some (.int .i64 to)) (cs : W.cell? ⟨bs, 0, none⟩ = some (.int .i64 s)) (h0 : J [] W) :
    CallsIn Fence.wide n Try.prog 21 #[.func (.yield l) #[] #[], .pointer (some ⟨bf, 0, none⟩), .pointer (some ⟨bt, 0, none⟩), .pointer (some ⟨bs, 0, none⟩)] W fun e W' => (∃ v, e = .returned v) ∧
      ((∃ ys, (ys.map Subtype.val = (piecesP (fun k => endsB t b k) to frm (to - frm)).1) ∧ J ys W') ∨ (∃ pre, True ∧ Jx pre W')) := by
  have ENDS := Lib.hid (fun (k : Nat) (w : World) => ends_any s k t b ht hb w)
  clear ht hb
  refine callsIn_of_wp Try.func21 rfl trivial ?_ rfl
  simp only [Try.ntmps21, List.size_toArray, List.length_cons, List.length_nil, Nat.reduceAdd, Nat.reduceSub, Array.replicate_succ, Array.replicate_zero, List.push_toArray, List.append_toArray, List.nil_append, List.cons_append]
  gi_wp2
  gi_loopw [5, 6] (fun beg i wr => ∃ (k : Nat) (pre : List (Piece to)) (st : List (Nat × Nat) × Nat), frm ≤ k ∧ k ≤ to ∧ st = piecesP (fun k => endsB t b k) to frm (k - frm) ∧ beg = .int .i64 st.2 ∧ i = .int .i64 k ∧ pre.map Subtype.val = st.1 ∧ J pre wr ∧ Keeps3 bf bt bs W wr)
    (fun _ i _ => to - (intOf i).toNat)
  case atStart => exact ⟨frm, [], ([], frm), Nat.le_refl _, hft, by rw [Nat.sub_self]; rfl, rfl, rfl, rfl, h0, Keeps3.refl _ _ _ _⟩
  case round =>
    obtain ⟨k, pre, ⟨lst, g⟩, hk1, hk2, hst, rfl, rfl, hpre, hJ, hbel⟩ := hrel
    have cf := hbel.cell1.trans cf
    have ct := hbel.cell2.trans ct
    have cs := hbel.cell3.trans cs
    have hg : g ≤ k := by have := piecesP_beg (fun k => endsB t b k) to frm (k - frm); rw [← hst] at this; simp only at this; omega
    have hl : pre.length < to + 1 := by
      have := piecesP_len (fun k => endsB t b k) to frm (k - frm)
      rw [← hst, ← hpre, List.length_map] at this
      omega
    by_cases hlt : k < to
    · have hnext := piecesP_next (fun k => endsB t b k) to frm k hk1
      rw [← hst] at hnext
      have EK := ENDS.out k
      obtain ⟨v, hv⟩ : ∃ v, endsB t b (k : Int) = v := ⟨_, rfl⟩
      rw [hv] at EK
      have EK := Lib.hid EK
      by_cases hcut : cutB (fun k => endsB t b k) to k = true
      · have hvk : v = true ∨ (v = false ∧ k + 1 = to) := by
          have h := hcut
          unfold cutB at h
          simp only [hv] at h
          cases v
          · exact .inr ⟨rfl, by simpa using h⟩
          · exact .inl rfl
        have hnx : piecesP (fun k => endsB t b k) to frm (k + 1 - frm) = (lst ++ [(g, k + 1)], k + 1) := by rw [hnext]; unfold stepP; rw [if_pos hcut]
        obtain ⟨fn, tmps, assign, body, hy, hR⟩ := hY pre ⟨(g, k + 1), by simp only; omega⟩ wr hJ hl
        have hy : (Instr.yield l #[.int .i64 (g : Int), .int .i64 ((k : Int) + 1)]).run Try.prog wr = .ok (.round l fn tmps assign body) wr := hy
        have hR := Lib.hid hR
        clear hnext hst hY hcut ENDS h0
        rcases hvk with rfl | ⟨rfl, hvk⟩
        all_goals
          gi_wp2_with (refine ⟨trivial, ?_⟩; gi_at_call 12; refine (callsIn_wide.2 (EK.out _)).mono ?_; rintro e w' ⟨rfl, rfl⟩)
          refine hR.out.mono ?_
          rintro e W3 (⟨rfl, hJ3, hk3⟩ | ⟨rfl, hJx3⟩)
          · gi_wp2
            go_roundw
            case rel => exact ⟨k + 1, _, _, by omega, by omega, hnx.symm, by go_num, by go_num, by simp [hpre], hJ3, hbel.trans hk3⟩
            case measure => simp [intOf]; omega
          · gi_wp2
            refine bodyPost_ret (results_none rfl _ _ _) rfl ?_
            exact ⟨⟨_, rfl⟩, .inr ⟨_, trivial, hJx3⟩⟩
      · have hvk : v = false ∧ k + 1 ≠ to := by
          have h := hcut
          unfold cutB at h
          simp only [hv] at h
          cases v
          · exact ⟨rfl, by simpa using h⟩
          · simp at h
        obtain ⟨rfl, hk3⟩ := hvk
        have hnx : piecesP (fun k => endsB t b k) to frm (k + 1 - frm) = (lst, g) := by rw [hnext]; unfold stepP; rw [if_neg hcut]
        clear hnext hst hY hcut ENDS h0
        gi_wp2_with (refine ⟨trivial, ?_⟩; gi_at_call 12; refine (callsIn_wide.2 (EK.out _)).mono ?_; rintro e w' ⟨rfl, rfl⟩)
        go_roundw
        case rel => exact ⟨k + 1, pre, _, by omega, by omega, hnx.symm, rfl, by go_num, hpre, hJ, hbel⟩
        case measure => simp [intOf]; omega
    · obtain rfl : k = to := by omega
      gi_wp2
      go_end0
      exact ⟨⟨_, rfl⟩, .inl ⟨pre, by rw [hpre, ← hst], hJ⟩⟩
end Go.Proofs.Ytknbppolecahbaa
