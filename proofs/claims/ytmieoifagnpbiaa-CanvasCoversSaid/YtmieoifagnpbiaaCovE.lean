/- LAWS for CanvasCovers: what the loop over a resolution's bands asks of their blocks. -/
import Derived.Test.YtmieoifagnpbiaaCovC
import Derived.Test.YtmieoifagnpbiaaBlkLaw
namespace Go.Proofs.Ytmieoifagnpbiaa
open Go.RowKit
set_option maxHeartbeats 1000000
set_option linter.unusedVariables false
set_option linter.unusedSimpArgs false

def cNB (fb : Nat → Rc) (Z : Rc) (pr sd mw mh : Nat) (en k : Nat) : Nat := blksN (partR (fb en) Z pr sd k) mw mh
def cWB (fb : Nat → Rc) (Z : Rc) (pr sd mw : Nat) (en k : Nat) : Nat := blksW (partR (fb en) Z pr sd k) mw
def cBlk (fb : Nat → Rc) (Z : Rc) (pr sd mw mh : Nat) (en k i : Nat) : Rc := blkR (partR (fb en) Z pr sd k) mw mh (gridAt (blksW (partR (fb en) Z pr sd k) mw) i)
def cK (fb : Nat → Rc) (Z : Rc) (pr sd PW : Nat) (en p : Nat) : Nat := kkB Z pr sd PW (pX (fb en) (((fb en).x1 - (fb en).x0).toNat) p) (pY (fb en) (((fb en).x1 - (fb en).x0).toNat) p)
def cJ (fb : Nat → Rc) (Z : Rc) (pr sd mw mh PW : Nat) (en p : Nat) : Nat := iiB (partR (fb en) Z pr sd (cK fb Z pr sd PW en p)) mw mh (pX (fb en) (((fb en).x1 - (fb en).x0).toNat) p) (pY (fb en) (((fb en).x1 - (fb en).x0).toNat) p)
section
variable {fb : Nat → Rc} {Z : Rc} {pr sd mw mh PW PH en : Nat}
theorem cov_nb (hs : smallR (fb en)) (hmw : mw ≤ 15) (hmh : mh ≤ 15) (k : Nat) : cNB fb Z pr sd mw mh en k ≤ 1048576 := blksN_le hs (by omega) (by omega)
theorem cov_ne (hs : smallR (fb en)) (hmw : mw ≤ 15) (hmh : mh ≤ 15) {k i : Nat} (hi : i < cNB fb Z pr sd mw mh en k) :
    (cBlk fb Z pr sd mw mh en k i).x0 < (cBlk fb Z pr sd mw mh en k i).x1 ∧ (cBlk fb Z pr sd mw mh en k i).y0 < (cBlk fb Z pr sd mw mh en k i).y1 := by
  unfold cNB at hi
  unfold cBlk
  have hE : emptyB (partR (fb en) Z pr sd k) = false := by
    rcases h : emptyB (partR (fb en) Z pr sd k) with _ | _
    · rfl
    · unfold blksN at hi; rw [h] at hi; simp at hi
  have hf : fullR (partR (fb en) Z pr sd k) := part_bd hs hE
  generalize partR (fb en) Z pr sd k = a at *
  have eN : blksN a mw mh = bW a mw * bH a mh := by unfold blksN; rw [hE]; rfl
  have eW : blksW a mw = bW a mw := by unfold blksW; rw [hE]; rfl
  rw [eN] at hi
  rw [eW]
  have := blk_law hf hmw hmh rfl hi
  exact ⟨this.2.1, this.2.2.2.2.1⟩
theorem cov_a (hW : preW Z pr = PW) (hH : preH Z pr = PH) (hord : (fb en).x0 ≤ (fb en).x1 ∧ (fb en).y0 ≤ (fb en).y1) {k i : Nat} (hk : k < PW * PH) (x y : Int)
    (hin : inR (cBlk fb Z pr sd mw mh en k i) x y) : inR (fb en) x y ∧ cK fb Z pr sd PW en (pN (fb en) (((fb en).x1 - (fb en).x0).toNat) x y) = k ∧ cJ fb Z pr sd mw mh PW en (pN (fb en) (((fb en).x1 - (fb en).x0).toNat) x y) = i := by
  obtain ⟨h1, h2, h3⟩ := blk_a hW hH hk hin
  have hl := pN_law (d := fb en) (W := ((fb en).x1 - (fb en).x0).toNat) (H := ((fb en).y1 - (fb en).y0).toNat) (by omega) (by omega) h1
  have e1 : cK fb Z pr sd PW en (pN (fb en) (((fb en).x1 - (fb en).x0).toNat) x y) = k := by unfold cK; rw [hl.2.2.1, hl.2.2.2, h2]
  refine ⟨h1, e1, ?_⟩
  unfold cJ
  rw [e1, hl.2.2.1, hl.2.2.2, h3]
theorem cov_b (hW : preW Z pr = PW) (hH : preH Z pr = PH) (ho : ofRes (fb en) Z pr sd) (hord : (fb en).x0 ≤ (fb en).x1 ∧ (fb en).y0 ≤ (fb en).y1) {p : Nat} (hp : p < areaR (fb en)) :
    cK fb Z pr sd PW en p < PW * PH ∧ cJ fb Z pr sd mw mh PW en p < cNB fb Z pr sd mw mh en (cK fb Z pr sd PW en p) ∧ inR (cBlk fb Z pr sd mw mh en (cK fb Z pr sd PW en p) (cJ fb Z pr sd mw mh PW en p)) (pX (fb en) (((fb en).x1 - (fb en).x0).toNat) p) (pY (fb en) (((fb en).x1 - (fb en).x0).toNat) p) := by
  have hin := pXY_in (d := fb en) (W := ((fb en).x1 - (fb en).x0).toNat) (H := ((fb en).y1 - (fb en).y0).toNat) (by omega) (by omega) (p := p) hp
  exact blk_b hW hH ho hin
end
theorem ce_mono {a b : Int} (k : Nat) (h : a ≤ b) : ceI a k ≤ ceI b k := by
  unfold ceI
  exact Int.ediv_le_ediv (pow_pos_i k) (by omega)
theorem band_all {Q0 Q1 Q2 Q3 lv r : Nat} (j : Nat) (h : Q0 ≤ 64 ∧ Q1 ≤ 64 ∧ Q2 ≤ 64 ∧ Q3 ≤ 64) (ho : Q0 ≤ Q2 ∧ Q1 ≤ Q3) (hr : r ≤ lv) (hk : lv ≤ 20) :
    ((0 ≤ (bandA ⟨(Q0 : Int), (Q1 : Int), (Q2 : Int), (Q3 : Int)⟩ lv r j).x0 ∧ (bandA ⟨(Q0 : Int), (Q1 : Int), (Q2 : Int), (Q3 : Int)⟩ lv r j).x0 ≤ 64) ∧ (0 ≤ (bandA ⟨(Q0 : Int), (Q1 : Int), (Q2 : Int), (Q3 : Int)⟩ lv r j).y0 ∧ (bandA ⟨(Q0 : Int), (Q1 : Int), (Q2 : Int), (Q3 : Int)⟩ lv r j).y0 ≤ 64) ∧ (0 ≤ (bandA ⟨(Q0 : Int), (Q1 : Int), (Q2 : Int), (Q3 : Int)⟩ lv r j).x1 ∧ (bandA ⟨(Q0 : Int), (Q1 : Int), (Q2 : Int), (Q3 : Int)⟩ lv r j).x1 ≤ 64) ∧ (0 ≤ (bandA ⟨(Q0 : Int), (Q1 : Int), (Q2 : Int), (Q3 : Int)⟩ lv r j).y1 ∧ (bandA ⟨(Q0 : Int), (Q1 : Int), (Q2 : Int), (Q3 : Int)⟩ lv r j).y1 ≤ 64)) ∧
      (bandA ⟨(Q0 : Int), (Q1 : Int), (Q2 : Int), (Q3 : Int)⟩ lv r j).x0 ≤ (bandA ⟨(Q0 : Int), (Q1 : Int), (Q2 : Int), (Q3 : Int)⟩ lv r j).x1 ∧ (bandA ⟨(Q0 : Int), (Q1 : Int), (Q2 : Int), (Q3 : Int)⟩ lv r j).y0 ≤ (bandA ⟨(Q0 : Int), (Q1 : Int), (Q2 : Int), (Q3 : Int)⟩ lv r j).y1 := by
  unfold bandA
  split
  · have a0 := ce_bd (x := Q0) (k := lv) (by omega) (by omega)
    have a1 := ce_bd (x := Q1) (k := lv) (by omega) (by omega)
    have a2 := ce_bd (x := Q2) (k := lv) (by omega) (by omega)
    have a3 := ce_bd (x := Q3) (k := lv) (by omega) (by omega)
    have m1 := ce_mono (a := (Q0 : Int)) (b := (Q2 : Int)) lv (by omega)
    have m2 := ce_mono (a := (Q1 : Int)) (b := (Q3 : Int)) lv (by omega)
    unfold resR
    simp only
    omega
  · unfold bandR
    generalize (((j : Int) + 1) != 2) = ox
    generalize (((j : Int) + 1) != 1) = oy
    have a0 := hf_bd (x := Q0) (n := lv - r + 1) (odd := ox) (by omega) (by omega) (by omega)
    have a1 := hf_bd (x := Q1) (n := lv - r + 1) (odd := oy) (by omega) (by omega) (by omega)
    have a2 := hf_bd (x := Q2) (n := lv - r + 1) (odd := ox) (by omega) (by omega) (by omega)
    have a3 := hf_bd (x := Q3) (n := lv - r + 1) (odd := oy) (by omega) (by omega) (by omega)
    have m1 : hfI (Q0 : Int) (lv - r + 1) ox ≤ hfI (Q2 : Int) (lv - r + 1) ox := by unfold hfI; exact ce_mono _ (by omega)
    have m2 : hfI (Q1 : Int) (lv - r + 1) oy ≤ hfI (Q3 : Int) (lv - r + 1) oy := by unfold hfI; exact ce_mono _ (by omega)
    simp only
    omega
end Go.Proofs.Ytmieoifagnpbiaa
