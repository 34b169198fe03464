/- PLAIN LAWS: what Make makes is valid; the first tile; how blocks stand in a precinct's part. -/
import Derived.Test.YtpgkdpoehkdhcaaMkHead
import Derived.Test.YtpgkdpoehkdhcaaCPart12
namespace Go.Proofs.Ytpgkdpoehkdhcaa
open Go.RowKit
set_option maxRecDepth 100000
set_option linter.unusedVariables false
set_option linter.unusedSimpArgs false
set_option maxHeartbeats 1000000

/-- within 1024 -/
def smallB (r : Rc) : Prop := 0 ≤ r.x0 ∧ 0 ≤ r.y0 ∧ r.x1 ≤ 1024 ∧ r.y1 ≤ 1024
theorem inT {n l m : Int} (h : l ≤ n ∧ n ≤ m) : inB n l m = true := inB_true.2 h
section
variable {side : Nat} {fC fS : Int} {Xn Yn On Pn tx ty lv cw ch pr st od ly n dn : Nat} {rct PL sg : Bool} {F : Nat → CompD} {G : Nat → Nat → Int}
theorem made_ways (h : MadeP side fC fS Xn Yn On Pn tx ty lv cw ch pr st od ly n dn rct PL) : waysB lv cw ch pr st od ly = true := by
  obtain ⟨a1, a2, a3, a4, a5, a6, a7, a8, a9, a10, a11⟩ := h.bds
  unfold waysB
  rw [inT (by omega), inT (by omega), inT (by omega), inT (by omega), inT (by omega), inT (by omega), inT (by omega)]
  rfl
theorem made_allOk (hM : ∀ j, j < n → MadeC Xn Yn On Pn dn sg PL (F j) (G j)) : allOk n F = true := by
  unfold allOk
  rw [List.all_eq_true]
  intro k hk
  have h := hM k (List.mem_range.1 hk)
  have h1 := h.dp
  have h2 := h.dx
  have h3 := h.dy
  unfold compOk
  rw [inT (by omega), inT (by omega), inT (by omega)]
  rfl
theorem made_alike (hM : ∀ j, j < n → MadeC Xn Yn On Pn dn sg PL (F j) (G j)) (h3 : 3 ≤ n) (hP : PL = true) : alikeB n F = true := by
  have h0 := hM 0 (by omega)
  have h1 := hM 1 (by omega)
  have h2 := hM 2 (by omega)
  obtain ⟨p1, p2, p3⟩ := h0.pl hP
  obtain ⟨q1, q2, q3⟩ := h1.pl hP
  obtain ⟨r1, r2, r3⟩ := h2.pl hP
  unfold alikeB
  rw [sameC_good (by rw [q1, p1]) (by rw [h1.sgn, h0.sgn]) (by rw [q2, p2]) (by rw [q3, p3]), sameC_good (by rw [r1, p1]) (by rw [h2.sgn, h0.sgn]) (by rw [r2, p2]) (by rw [r3, p3])]
  simp [h3]
theorem made_frame (h : MadeP side fC fS Xn Yn On Pn tx ty lv cw ch pr st od ly n dn rct PL) (hs : side ≤ 32) (hM : ∀ j, j < n → MadeC Xn Yn On Pn dn sg PL (F j) (G j)) : frameE Xn Yn On Pn n F tx ty lv cw ch pr st od ly rct = 0 := by
  obtain ⟨o1, o2⟩ := h.on
  obtain ⟨x1, x2, x3, x4⟩ := h.xs
  obtain ⟨t1, t2, t3, t4⟩ := h.ts
  obtain ⟨m1, m2, m3⟩ := h.num
  have ht := h.tiles
  have hp : pictureE Xn Yn On Pn n F = 0 := by
    unfold pictureE
    rw [if_neg (by omega), if_neg (by omega), if_pos (inT (by omega)), if_pos (made_allOk hM)]
  unfold frameE
  rw [if_pos hp, if_pos (inT (by omega)), if_pos (inT (by omega)), if_neg (by simp only [Int.toNat_natCast]; omega), if_pos (made_ways h)]
  cases hr : rct
  · rfl
  · have := h.rc hr
    rw [if_pos (made_alike hM this.1 this.2)]
    rfl
theorem made_check (h : MadeP side fC fS Xn Yn On Pn tx ty lv cw ch pr st od ly n dn rct PL) (hs : side ≤ 32) (hM : ∀ j, j < n → MadeC Xn Yn On Pn dn sg PL (F j) (G j)) : checkE Xn Yn On Pn n F G tx ty lv cw ch pr st od ly rct = 0 := by
  unfold checkE
  rw [if_pos (made_frame h hs hM)]
  simp only [Int.toNat_natCast]
  have hk : ∀ k, k ≤ n → firstE (fun k => compE Xn Yn On Pn (F k) (G k)) k = 0 := by
    intro k
    induction k with
    | zero => intro _; rfl
    | succ k ih =>
      intro hk
      refine firstE_next (ih (by omega)) ?_
      have hc := hM k (by omega)
      unfold compE
      have hb : sampOk (loB (F k).dp.toNat (F k).sg) (hiB (F k).dp.toNat (F k).sg) (F k).n (G k) = true := by
        unfold sampOk
        rw [List.all_eq_true]
        intro i hi
        exact inT (hc.ok i (List.mem_range.1 hi))
      rw [if_pos hc.num, if_pos hb]
  exact hk n (Nat.le_refl _)
end
theorem MadeI.compsAt {W : World} {base : Nat} {A : Option Addr} {k c : Nat} {F : Nat → CompD} {G : Nat → Nat → Int} {PC : CompD → (Nat → Int) → Prop} (h : MadeI W base A k c F G PC) : CompsAt W W.heap.size A k F ∧ k ≤ c := by
  obtain ⟨A', c', e, h1, _, h2, _⟩ := h.comps.form
  injection e with e1 _ e2
  subst e1 e2
  exact ⟨comps_of_cells h2, h1⟩
/-- the first tile -/
theorem tile0 {Xn Yn On Pn tx ty : Nat} (hx : On < Xn ∧ On < tx) (hy : Pn < Yn ∧ Pn < ty) : tileR Xn Yn On Pn tx ty (0, 0) = ⟨(On : Nat), (Pn : Nat), (min Xn tx : Nat), (min Yn ty : Nat)⟩ := by
  unfold tileR bothR mxI mnI
  simp only [show ((0 : Nat) : Int) = 0 from rfl, Int.zero_mul, Int.zero_add, Int.one_mul]
  congr 1
  all_goals split <;> omega

/-- one way of a block: where it begins, where it ends -/
def loI (a0 : Int) (k : Nat) (c : Int) : Int := mxI a0 ((c + flI a0 k) * 2 ^ k)
def hiI (a0 a1 : Int) (k : Nat) (c : Int) : Int := mnI a1 ((c + flI a0 k + 1) * 2 ^ k)
theorem block_way {a0 a1 : Int} {k : Nat} (hk : k ≤ 15) (h0 : 0 ≤ a0) (h1 : a0 < a1) (h2 : a1 ≤ 1024) {c : Int} (hc0 : 0 ≤ c) (hc : c < ceI a1 k - flI a0 k) :
    0 ≤ loI a0 k c ∧ loI a0 k c < hiI a0 a1 k c ∧ hiI a0 a1 k c ≤ a1 ∧ a0 ≤ loI a0 k c ∧ loI a0 k c / 2 ^ k = c + flI a0 k ∧ (hiI a0 a1 k c - 1) / 2 ^ k = c + flI a0 k ∧ (1 ≤ c → loI a0 k c = hiI a0 a1 k (c - 1)) := by
  obtain ⟨p1, p2⟩ := pow_bd15 hk
  unfold loI hiI ceI flI at *
  generalize (2 : Int) ^ k = d at *
  have e1 := Int.mul_ediv_add_emod a0 d
  have e2 := Int.emod_nonneg a0 (show d ≠ 0 by omega)
  have e3 := Int.emod_lt_of_pos a0 (show (0 : Int) < d by omega)
  have f1 := Int.mul_ediv_add_emod (a1 + d - 1) d
  have f2 := Int.emod_nonneg (a1 + d - 1) (show d ≠ 0 by omega)
  have f3 := Int.emod_lt_of_pos (a1 + d - 1) (show (0 : Int) < d by omega)
  generalize a0 / d = q at *
  generalize (a1 + d - 1) / d = p at *
  generalize a0 % d = r at *
  generalize (a1 + d - 1) % d = s at *
  obtain ⟨m, hm⟩ : ∃ m, c + q = m := ⟨_, rfl⟩
  have hm1 : m + 1 ≤ p := by omega
  have g1 : (m + 1) * d ≤ p * d := Int.mul_le_mul_of_nonneg_right hm1 (by omega)
  have g2 : q * d ≤ m * d := Int.mul_le_mul_of_nonneg_right (by omega) (by omega)
  have g3 : (m + 1) * d = m * d + d := by rw [Int.add_mul, Int.one_mul]
  have g4 : d * q = q * d := Int.mul_comm _ _
  have g5 : d * p = p * d := Int.mul_comm _ _
  have g6 : c - 1 + q + 1 = m := by omega
  rw [hm, g6]
  have hdiv : ∀ z : Int, m * d ≤ z → z < m * d + d → z / d = m := fun z h1 h2 => by
    have := Int.mul_ediv_add_emod z d
    have h3 := Int.emod_nonneg z (show d ≠ 0 by omega)
    have h4 := Int.emod_lt_of_pos z (show (0 : Int) < d by omega)
    rcases Int.lt_trichotomy (z / d) m with h | h | h
    · have : (z / d + 1) * d ≤ m * d := Int.mul_le_mul_of_nonneg_right (by omega) (by omega)
      have h5 : (z / d + 1) * d = z / d * d + d := by rw [Int.add_mul, Int.one_mul]
      have h6 : d * (z / d) = z / d * d := Int.mul_comm _ _
      omega
    · exact h
    · have : (m + 1) * d ≤ z / d * d := Int.mul_le_mul_of_nonneg_right (by omega) (by omega)
      have h6 : d * (z / d) = z / d * d := Int.mul_comm _ _
      omega
  rw [g3]
  have lt1 : m * d < a1 := by omega
  have lt2 : a0 < m * d + d := by omega
  refine ⟨?_, ?_, ?_, ?_, hdiv _ ?_ ?_, hdiv _ ?_ ?_, ?_⟩
  · unfold mxI; split <;> omega
  · unfold mxI mnI; split <;> split <;> omega
  · unfold mnI; split <;> omega
  · unfold mxI; split <;> omega
  · unfold mxI; split <;> omega
  · unfold mxI; split <;> omega
  · unfold mnI; split <;> omega
  · unfold mnI; split <;> omega
  · intro hc1
    have g7 : (q + 1) * d ≤ m * d := Int.mul_le_mul_of_nonneg_right (by omega) (by omega)
    have g8 : (q + 1) * d = q * d + d := by rw [Int.add_mul, Int.one_mul]
    unfold mxI mnI
    rw [if_pos (by omega), if_pos (by omega)]
theorem ce_bd {x : Nat} {k : Nat} (hx : x ≤ 64) (hk : k ≤ 40) : 0 ≤ ceI x k ∧ ceI x k ≤ 64 := by
  obtain ⟨p1, p2⟩ := pow_bd hk
  unfold ceI
  generalize (2 : Int) ^ k = d at *
  refine ⟨Int.ediv_nonneg (by omega) (by omega), ?_⟩
  apply Int.le_of_lt_add_one
  apply Int.ediv_lt_of_lt_mul (by omega)
  have : (64 + 1) * d = 64 * d + d := by rw [Int.add_mul, Int.one_mul]
  have h4 : 64 * 1 ≤ 64 * d := Int.mul_le_mul_of_nonneg_left p1 (by omega)
  omega
theorem hf_bd {x : Nat} {n : Nat} {odd : Bool} (hx : x ≤ 64) (h1 : 1 ≤ n) (hk : n ≤ 40) : 0 ≤ hfI x n odd ∧ hfI x n odd ≤ 64 := by
  unfold hfI
  cases odd
  · simpa using ce_bd hx hk
  · simp only [if_true]
    obtain ⟨m, rfl⟩ : ∃ m, n = m + 1 := ⟨n - 1, by omega⟩
    have e1 : (2 : Int) ^ (m + 1) = 2 * ((2 ^ m : Nat) : Int) := by rw [Int.pow_succ]; simp; omega
    have p1 : 1 ≤ 2 ^ m := Nat.one_le_two_pow
    unfold ceI
    rw [e1, Nat.add_sub_cancel]
    generalize 2 ^ m = d at *
    refine ⟨Int.ediv_nonneg (by omega) (by omega), ?_⟩
    apply Int.le_of_lt_add_one
    apply Int.ediv_lt_of_lt_mul (by omega)
    omega
/-- bounds of a resolution, of bands -/
theorem res_bd {Q0 Q1 Q2 Q3 k : Nat} (h : Q0 ≤ 64 ∧ Q1 ≤ 64 ∧ Q2 ≤ 64 ∧ Q3 ≤ 64) (hk : k ≤ 40) :
    okR (resR ⟨(Q0 : Int), (Q1 : Int), (Q2 : Int), (Q3 : Int)⟩ k) ∧ placeR (resR ⟨(Q0 : Int), (Q1 : Int), (Q2 : Int), (Q3 : Int)⟩ k) := by
  have a0 := ce_bd (x := Q0) (k := k) (by omega) hk
  have a1 := ce_bd (x := Q1) (k := k) (by omega) hk
  have a2 := ce_bd (x := Q2) (k := k) (by omega) hk
  have a3 := ce_bd (x := Q3) (k := k) (by omega) hk
  unfold okR placeR resR
  simp only
  omega
theorem band_bd {Q0 Q1 Q2 Q3 lv r : Nat} (j : Nat) (h : Q0 ≤ 64 ∧ Q1 ≤ 64 ∧ Q2 ≤ 64 ∧ Q3 ≤ 64) (hr : r ≤ lv) (hk : lv ≤ 20) :
    okR (bandA ⟨(Q0 : Int), (Q1 : Int), (Q2 : Int), (Q3 : Int)⟩ lv r j) ∧ smallB (bandA ⟨(Q0 : Int), (Q1 : Int), (Q2 : Int), (Q3 : Int)⟩ lv r j) := by
  unfold bandA
  split
  · have a0 := ce_bd (x := Q0) (k := lv) (by omega) (by omega)
    have a1 := ce_bd (x := Q1) (k := lv) (by omega) (by omega)
    have a2 := ce_bd (x := Q2) (k := lv) (by omega) (by omega)
    have a3 := ce_bd (x := Q3) (k := lv) (by omega) (by omega)
    unfold okR smallB resR
    simp only
    omega
  · unfold okR smallB bandR
    generalize (((j : Int) + 1) != 2) = ox
    generalize (((j : Int) + 1) != 1) = oy
    have a0 := hf_bd (x := Q0) (n := lv - r + 1) (odd := ox) (by omega) (by omega) (by omega)
    have a1 := hf_bd (x := Q1) (n := lv - r + 1) (odd := oy) (by omega) (by omega) (by omega)
    have a2 := hf_bd (x := Q2) (n := lv - r + 1) (odd := ox) (by omega) (by omega) (by omega)
    have a3 := hf_bd (x := Q3) (n := lv - r + 1) (odd := oy) (by omega) (by omega) (by omega)
    simp only
    omega
end Go.Proofs.Ytpgkdpoehkdhcaa
