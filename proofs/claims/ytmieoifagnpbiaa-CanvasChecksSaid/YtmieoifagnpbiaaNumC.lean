/- CONTRACT of waveletref12.numbers, joined. -/
import Derived.Test.YtmieoifagnpbiaaNumA2
import Derived.Test.YtmieoifagnpbiaaNumB
import Derived.Test.YtmieoifagnpbiaaNumD
namespace Go.Proofs.Ytmieoifagnpbiaa
open Go.RowKit
set_option maxHeartbeats 4000000
set_option linter.unusedVariables false
set_option linter.unusedSimpArgs false

/-- what is wrong with how it is coded -/
def numE (X Y Ox Oy : Int) (n : Nat) (F : Nat → CompD) (tx ty lv cw ch pr st od ly : Int) (rct : Bool) : Int :=
  if inB tx (Ox + 1) 65536 then
    if inB ty (Oy + 1) 65536 then
      if 16 < byN X.toNat tx.toNat * byN Y.toNat ty.toNat then 14 else
      if waysB lv cw ch pr st od ly then
        if rct then (if alikeB n F then 0 else 3) else 0
      else 1
    else 1
  else 1
theorem frame_num (X Y Ox Oy : Int) (n : Nat) (F : Nat → CompD) (tx ty lv cw ch pr st od ly : Int) (rct : Bool) : frameE X Y Ox Oy n F tx ty lv cw ch pr st od ly rct = if pictureE X Y Ox Oy n F = 0 then numE X Y Ox Oy n F tx ty lv cw ch pr st od ly rct else pictureE X Y Ox Oy n F := rfl
theorem ways_bad {lv cw ch pr st od ly : Int} (h : lv < 0 ∨ 5 < lv ∨ cw < 2 ∨ 6 < cw ∨ ch < 2 ∨ 6 < ch ∨ pr < 1 ∨ 15 < pr ∨ st < 0 ∨ 63 < st ∨ od < 0 ∨ 4 < od ∨ ly < 1 ∨ 8 < ly) : waysB lv cw ch pr st od ly = false := by
  rcases hw : waysB lv cw ch pr st od ly with _ | _
  · rfl
  · unfold waysB inB at hw
    simp only [Bool.and_eq_true, decide_eq_true_eq] at hw
    omega
theorem ways_good {lv cw ch pr st od ly : Int} (h : ¬ (lv < 0 ∨ 5 < lv ∨ cw < 2 ∨ 6 < cw ∨ ch < 2 ∨ 6 < ch ∨ pr < 1 ∨ 15 < pr ∨ st < 0 ∨ 63 < st ∨ od < 0 ∨ 4 < od ∨ ly < 1 ∨ 8 < ly)) : waysB lv cw ch pr st od ly = true := by
  unfold waysB inB
  simp only [Bool.and_eq_true, decide_eq_true_eq]
  omega
theorem num_any (X Y Ox Oy : Int) (A : Option Addr) (n c : Nat) (tx ty lv cw ch pr st od ly : Int) (rct sop eph : Bool) (w : World) (F : Nat → CompD) (hO : 0 ≤ Ox ∧ 0 ≤ Oy) (hX : Ox < X ∧ X ≤ 64) (hY : Oy < Y ∧ Y ≤ 64) (hn : n ≤ 4) (ha : CompsAt w w.heap.size A n F) :
    Calls Try.prog 43 #[imgV X Y Ox Oy A n c, parV tx ty lv cw ch pr st od ly rct sop eph] w fun e w' => e = .returned (.int .i64 (numE X Y Ox Oy n F tx ty lv cw ch pr st od ly rct)) ∧ Below w.heap.size w w' := by
  obtain ⟨E, hE⟩ : ∃ E, numE X Y Ox Oy n F tx ty lv cw ch pr st od ly rct = E := ⟨_, rfl⟩
  rw [hE]
  unfold numE at hE
  by_cases h0 : tx ≤ Ox
  · rw [inB_false.2 (by omega)] at hE
    subst hE
    exact num_t0 X Y Ox Oy A n c tx ty lv cw ch pr st od ly rct sop eph w h0
  by_cases h1 : 65536 < tx
  · rw [inB_false.2 (by omega)] at hE
    subst hE
    exact num_t1 X Y Ox Oy A n c tx ty lv cw ch pr st od ly rct sop eph w h0 h1
  rw [inB_true.2 (by omega), if_pos rfl] at hE
  by_cases h2 : ty ≤ Oy
  · rw [inB_false.2 (by omega)] at hE
    subst hE
    exact num_t2 X Y Ox Oy A n c tx ty lv cw ch pr st od ly rct sop eph w h0 h1 h2
  by_cases h3 : 65536 < ty
  · rw [inB_false.2 (by omega)] at hE
    subst hE
    exact num_t3 X Y Ox Oy A n c tx ty lv cw ch pr st od ly rct sop eph w h0 h1 h2 h3
  rw [inB_true.2 (by omega), if_pos rfl] at hE
  obtain ⟨Xn, eX⟩ := Int.eq_ofNat_of_zero_le (show 0 ≤ X by omega)
  obtain ⟨Yn, eY⟩ := Int.eq_ofNat_of_zero_le (show 0 ≤ Y by omega)
  obtain ⟨txn, etx⟩ := Int.eq_ofNat_of_zero_le (show 0 ≤ tx by omega)
  obtain ⟨tyn, ety⟩ := Int.eq_ofNat_of_zero_le (show 0 ≤ ty by omega)
  have hc' : byN X.toNat tx.toNat * byN Y.toNat ty.toNat = byN Xn txn * byN Yn tyn := by rw [eX, eY, etx, ety]; rfl
  rw [hc'] at hE
  by_cases hc : 16 < byN Xn txn * byN Yn tyn
  · rw [if_pos hc] at hE
    subst hE
    exact num_many X Y Ox Oy A n c tx ty lv cw ch pr st od ly rct sop eph w Xn Yn txn tyn eX eY etx ety (by omega) (by omega) (by omega) (by omega) h0 h2 hc
  rw [if_neg hc] at hE
  by_cases g0 : lv < 0
  · rw [ways_bad (.inl g0)] at hE
    subst hE
    exact num_b0 X Y Ox Oy A n c tx ty lv cw ch pr st od ly rct sop eph w Xn Yn txn tyn eX eY etx ety (by omega) (by omega) (by omega) (by omega) h0 h2 hc g0
  by_cases g1 : 5 < lv
  · rw [ways_bad (.inr (.inl g1))] at hE
    subst hE
    exact num_b1 X Y Ox Oy A n c tx ty lv cw ch pr st od ly rct sop eph w Xn Yn txn tyn eX eY etx ety (by omega) (by omega) (by omega) (by omega) h0 h2 hc g0 g1
  by_cases g2 : cw < 2
  · rw [ways_bad (.inr (.inr (.inl g2)))] at hE
    subst hE
    exact num_b2 X Y Ox Oy A n c tx ty lv cw ch pr st od ly rct sop eph w Xn Yn txn tyn eX eY etx ety (by omega) (by omega) (by omega) (by omega) h0 h2 hc g0 g1 g2
  by_cases g3 : 6 < cw
  · rw [ways_bad (.inr (.inr (.inr (.inl g3))))] at hE
    subst hE
    exact num_b3 X Y Ox Oy A n c tx ty lv cw ch pr st od ly rct sop eph w Xn Yn txn tyn eX eY etx ety (by omega) (by omega) (by omega) (by omega) h0 h2 hc g0 g1 g2 g3
  by_cases g4 : ch < 2
  · rw [ways_bad (.inr (.inr (.inr (.inr (.inl g4)))))] at hE
    subst hE
    exact num_b4 X Y Ox Oy A n c tx ty lv cw ch pr st od ly rct sop eph w Xn Yn txn tyn eX eY etx ety (by omega) (by omega) (by omega) (by omega) h0 h2 hc g0 g1 g2 g3 g4
  by_cases g5 : 6 < ch
  · rw [ways_bad (.inr (.inr (.inr (.inr (.inr (.inl g5))))))] at hE
    subst hE
    exact num_b5 X Y Ox Oy A n c tx ty lv cw ch pr st od ly rct sop eph w Xn Yn txn tyn eX eY etx ety (by omega) (by omega) (by omega) (by omega) h0 h2 hc g0 g1 g2 g3 g4 g5
  by_cases g6 : pr < 1
  · rw [ways_bad (.inr (.inr (.inr (.inr (.inr (.inr (.inl g6)))))))] at hE
    subst hE
    exact num_b6 X Y Ox Oy A n c tx ty lv cw ch pr st od ly rct sop eph w Xn Yn txn tyn eX eY etx ety (by omega) (by omega) (by omega) (by omega) h0 h2 hc g0 g1 g2 g3 g4 g5 g6
  by_cases g7 : 15 < pr
  · rw [ways_bad (.inr (.inr (.inr (.inr (.inr (.inr (.inr (.inl g7))))))))] at hE
    subst hE
    exact num_b7 X Y Ox Oy A n c tx ty lv cw ch pr st od ly rct sop eph w Xn Yn txn tyn eX eY etx ety (by omega) (by omega) (by omega) (by omega) h0 h2 hc g0 g1 g2 g3 g4 g5 g6 g7
  by_cases g8 : st < 0
  · rw [ways_bad (.inr (.inr (.inr (.inr (.inr (.inr (.inr (.inr (.inl g8)))))))))] at hE
    subst hE
    exact num_b8 X Y Ox Oy A n c tx ty lv cw ch pr st od ly rct sop eph w Xn Yn txn tyn eX eY etx ety (by omega) (by omega) (by omega) (by omega) h0 h2 hc g0 g1 g2 g3 g4 g5 g6 g7 g8
  by_cases g9 : 63 < st
  · rw [ways_bad (.inr (.inr (.inr (.inr (.inr (.inr (.inr (.inr (.inr (.inl g9))))))))))] at hE
    subst hE
    exact num_b9 X Y Ox Oy A n c tx ty lv cw ch pr st od ly rct sop eph w Xn Yn txn tyn eX eY etx ety (by omega) (by omega) (by omega) (by omega) h0 h2 hc g0 g1 g2 g3 g4 g5 g6 g7 g8 g9
  by_cases g10 : od < 0
  · rw [ways_bad (.inr (.inr (.inr (.inr (.inr (.inr (.inr (.inr (.inr (.inr (.inl g10)))))))))))] at hE
    subst hE
    exact num_b10 X Y Ox Oy A n c tx ty lv cw ch pr st od ly rct sop eph w Xn Yn txn tyn eX eY etx ety (by omega) (by omega) (by omega) (by omega) h0 h2 hc g0 g1 g2 g3 g4 g5 g6 g7 g8 g9 g10
  by_cases g11 : 4 < od
  · rw [ways_bad (.inr (.inr (.inr (.inr (.inr (.inr (.inr (.inr (.inr (.inr (.inr (.inl g11))))))))))))] at hE
    subst hE
    exact num_b11 X Y Ox Oy A n c tx ty lv cw ch pr st od ly rct sop eph w Xn Yn txn tyn eX eY etx ety (by omega) (by omega) (by omega) (by omega) h0 h2 hc g0 g1 g2 g3 g4 g5 g6 g7 g8 g9 g10 g11
  by_cases g12 : ly < 1
  · rw [ways_bad (.inr (.inr (.inr (.inr (.inr (.inr (.inr (.inr (.inr (.inr (.inr (.inr (.inl g12)))))))))))))] at hE
    subst hE
    exact num_b12 X Y Ox Oy A n c tx ty lv cw ch pr st od ly rct sop eph w Xn Yn txn tyn eX eY etx ety (by omega) (by omega) (by omega) (by omega) h0 h2 hc g0 g1 g2 g3 g4 g5 g6 g7 g8 g9 g10 g11 g12
  by_cases g13 : 8 < ly
  · rw [ways_bad (.inr (.inr (.inr (.inr (.inr (.inr (.inr (.inr (.inr (.inr (.inr (.inr (.inr g13)))))))))))))] at hE
    subst hE
    exact num_b13 X Y Ox Oy A n c tx ty lv cw ch pr st od ly rct sop eph w Xn Yn txn tyn eX eY etx ety (by omega) (by omega) (by omega) (by omega) h0 h2 hc g0 g1 g2 g3 g4 g5 g6 g7 g8 g9 g10 g11 g12 g13
  rw [ways_good (by omega), if_pos rfl] at hE
  cases rct
  · have hE : (0 : Int) = E := hE
    subst hE
    exact num_plain X Y Ox Oy A n c tx ty lv cw ch pr st od ly false sop eph w Xn Yn txn tyn eX eY etx ety (by omega) (by omega) (by omega) (by omega) h0 h2 hc g0 g1 g2 g3 g4 g5 g6 g7 g8 g9 g10 g11 g12 g13 rfl
  · rw [if_pos rfl] at hE
    by_cases h5 : n < 3
    · have : alikeB n F = false := by unfold alikeB; rw [decide_eq_false (by omega)]; rfl
      rw [this] at hE
      have hE : (3 : Int) = E := hE
      subst hE
      exact num_few X Y Ox Oy A n c tx ty lv cw ch pr st od ly true sop eph w Xn Yn txn tyn eX eY etx ety (by omega) (by omega) (by omega) (by omega) h0 h2 hc g0 g1 g2 g3 g4 g5 g6 g7 g8 g9 g10 g11 g12 g13 rfl h5
    · exact num_comps X Y Ox Oy A n c tx ty lv cw ch pr st od ly true sop eph w Xn Yn txn tyn eX eY etx ety (by omega) (by omega) (by omega) (by omega) h0 h2 hc g0 g1 g2 g3 g4 g5 g6 g7 g8 g9 g10 g11 g12 g13 rfl F (by omega) hn ha E hE
end Go.Proofs.Ytmieoifagnpbiaa
