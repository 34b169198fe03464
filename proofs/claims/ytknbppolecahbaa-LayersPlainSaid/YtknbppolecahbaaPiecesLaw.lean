/- PLAIN LAW of pieces: they lie one behind the other, each ends where a segment does or at the end. -/
import Derived.Test.YtknbppolecahbaaSegs
namespace Go.Proofs.Ytknbppolecahbaa
open Go.RowKit
set_option maxHeartbeats 1000000
set_option linter.unusedVariables false

def endAt (l : List (Nat × Nat)) (frm i : Nat) : Nat := if i = 0 then frm else (l.getD (i - 1) (0, 0)).2
structure PInv (E : Nat → Bool) (to frm n : Nat) (l : List (Nat × Nat)) (g : Nat) : Prop where
  row : ∀ i, i < l.length → (l.getD i (0, 0)).1 = endAt l frm i ∧ (l.getD i (0, 0)).1 < (l.getD i (0, 0)).2 ∧ (l.getD i (0, 0)).2 ≤ frm + n ∧ frm ≤ (l.getD i (0, 0)).1 ∧ cutB E to ((l.getD i (0, 0)).2 - 1) = true ∧ ∀ x, (l.getD i (0, 0)).1 ≤ x → x + 1 < (l.getD i (0, 0)).2 → cutB E to x = false
  beg : g = endAt l frm l.length
  le : g ≤ frm + n
  ge : frm ≤ g
  rest : ∀ x, g ≤ x → x < frm + n → cutB E to x = false
theorem endAt_snoc_lt {l : List (Nat × Nat)} {x : Nat × Nat} {frm i : Nat} (h : i ≤ l.length) : endAt (l ++ [x]) frm i = endAt l frm i := by
  unfold endAt
  split
  · rfl
  · rw [getD_snoc_lt l x (by omega)]
theorem pieces_inv (E : Nat → Bool) (to frm : Nat) : ∀ n, PInv E to frm n (piecesP E to frm n).1 (piecesP E to frm n).2
  | 0 => PInv.mk (fun i hi => absurd hi (Nat.not_lt_zero _)) rfl (Nat.le_refl _) (Nat.le_refl _) (fun x h1 h2 => absurd (show x < frm from h2) (Nat.not_lt.2 h1))
  | n + 1 => by
    have ih := pieces_inv E to frm n
    obtain ⟨l, g, hl⟩ : ∃ l g, piecesP E to frm n = (l, g) := ⟨_, _, rfl⟩
    have e : piecesP E to frm (n + 1) = stepP E to (l, g) (frm + n) := by rw [← hl]; rfl
    rw [hl] at ih
    simp only at ih
    by_cases hc : cutB E to (frm + n) = true
    · have e2 : piecesP E to frm (n + 1) = (l ++ [(g, frm + n + 1)], frm + n + 1) := by rw [e]; unfold stepP; rw [if_pos hc]
      rw [e2]
      have hlen : (l ++ [(g, frm + n + 1)]).length = l.length + 1 := by simp
      refine ⟨fun i hi => ?_, ?_, by show frm + n + 1 ≤ _; omega, by show frm ≤ frm + n + 1; omega, fun x h1 h2 => by simp only at h1; omega⟩
      · simp only at hi ⊢
        rw [hlen] at hi
        rw [endAt_snoc_lt (by omega)]
        by_cases h : i < l.length
        · rw [getD_snoc_lt l _ h]
          obtain ⟨a, b, c, c', d, f⟩ := ih.row i h
          exact ⟨a, b, by omega, c', d, f⟩
        · obtain rfl : i = l.length := by omega
          rw [getD_snoc]
          have := ih.le
          exact ⟨ih.beg, by simp only; omega, by simp only; omega, ih.ge, hc, fun x h1 h2 => ih.rest x h1 (by simp only at h2; omega)⟩
      · simp only
        unfold endAt
        rw [hlen, if_neg (by omega), Nat.add_sub_cancel, getD_snoc]
    · have e2 : piecesP E to frm (n + 1) = (l, g) := by rw [e]; unfold stepP; rw [if_neg hc]
      rw [e2]
      refine ⟨fun i hi => ?_, ih.beg, by have := ih.le; simp only; omega, ih.ge, fun x h1 h2 => ?_⟩
      · obtain ⟨a, b, c, c', d, f⟩ := ih.row i hi
        exact ⟨a, b, (by show (l.getD i (0, 0)).2 ≤ _; omega), c', d, f⟩
      · rcases Nat.lt_or_ge x (frm + n) with h | h
        · exact ih.rest x h1 h
        · obtain rfl : x = frm + n := by omega
          simpa using hc
theorem pieces_whole (E : Nat → Bool) {to frm : Nat} (h : frm ≤ to) : (piecesP E to frm (to - frm)).2 = to := by
  have ih := pieces_inv E to frm (to - frm)
  have := ih.le
  rcases Nat.eq_or_lt_of_le h with h0 | h0
  · have := ih.ge; omega
  · rcases Nat.lt_or_ge (piecesP E to frm (to - frm)).2 to with h1 | h1
    · have h2 := ih.rest (to - 1) (by omega) (by omega)
      rw [cutB, show to - 1 + 1 = to by omega] at h2
      simp at h2
    · omega
theorem byteF_at (f : Nat → Int) (frm : Nat) (l : List (Nat × Nat)) (i : Nat) : byteF f frm l i = valE f (endAt l frm (i + 1)) - valE f (endAt l frm i) := by
  unfold byteF endAt
  rw [if_neg (Nat.succ_ne_zero i), Nat.add_sub_cancel]
  split <;> rfl

/-- no segment ends: one piece -/
theorem pieces_one {E : Nat → Bool} (hE : ∀ k, E k = false) {to frm : Nat} (h : frm < to) : (piecesP E to frm (to - frm)).1 = [(frm, to)] := by
  have key : ∀ n, n < to - frm → piecesP E to frm n = ([], frm) := by
    intro n
    induction n with
    | zero => intro _; rfl
    | succ n ih =>
      intro hn
      show stepP E to (piecesP E to frm n) (frm + n) = _
      rw [ih (by omega)]
      unfold stepP cutB
      rw [hE, if_neg (by simp; omega)]
  obtain ⟨n, hn⟩ : ∃ n, to - frm = n + 1 := ⟨to - frm - 1, by omega⟩
  rw [hn]
  show (stepP E to (piecesP E to frm n) (frm + n)).1 = _
  rw [key n (by omega)]
  unfold stepP cutB
  rw [if_pos (by simp; omega)]
  simp; omega
/-- each pass ends a segment: a piece each -/
theorem pieces_each {E : Nat → Bool} (hE : ∀ k, E k = true) (to frm : Nat) : ∀ n, (piecesP E to frm n).2 = frm + n ∧ (piecesP E to frm n).1.length = n ∧ ∀ i, i < n → (piecesP E to frm n).1.getD i (0, 0) = (frm + i, frm + i + 1)
  | 0 => ⟨rfl, rfl, fun i hi => by omega⟩
  | n + 1 => by
    obtain ⟨a, b, c⟩ := pieces_each hE to frm n
    have e : piecesP E to frm (n + 1) = ((piecesP E to frm n).1 ++ [(frm + n, frm + n + 1)], frm + n + 1) := by
      show stepP E to (piecesP E to frm n) (frm + n) = _
      unfold stepP cutB
      rw [hE, if_pos (by simp), a]
    rw [e]
    refine ⟨by simp only; omega, by simp [b], fun i hi => ?_⟩
    simp only
    by_cases h : i < n
    · rw [getD_snoc_lt _ _ (by omega)]; exact c i h
    · obtain rfl : i = (piecesP E to frm n).1.length := by omega
      rw [getD_snoc, b]
end Go.Proofs.Ytknbppolecahbaa
