/- CONTRACT of (waveletlaw12.Form).Make. -/
import Derived.Test.YtpgkdpoehkdhcaaRTiles
import Derived.Test.YtpgkdpoehkdhcaaTake
import Derived.Deep.LoopGhost
import Derived.Deep.CutBlock
namespace Go.Proofs.Ytpgkdpoehkdhcaa
open Go.RowKit
set_option maxHeartbeats 4000000
set_option linter.unusedVariables false
set_option linter.unusedSimpArgs false
set_option maxRecDepth 100000

theorem tiles12_any (Xn Yn On Pn txn tyn : Nat) (A : Option Addr) (n c : Nat) (lv cw ch pr st od ly : Int) (rct sop eph : Bool) (hX : Xn ≤ 1024) (hY : Yn ≤ 1024) (hO : On ≤ 1024) (hP : Pn ≤ 1024) (h1 : 1 ≤ txn) (h2 : txn ≤ 1048576) (h3 : 1 ≤ tyn) (h4 : tyn ≤ 1048576) (w : World) :
    Calls Try.prog 21 #[imgV Xn Yn On Pn A n c, parV txn tyn lv cw ch pr st od ly rct sop eph] w fun e w' => e = .returned (.int .i64 ((byN Xn txn * byN Yn tyn : Nat) : Int)) ∧ Below w.heap.size w w' := by
  have H := Lib.hid (fun v => rtiles_any Xn Yn On Pn txn tyn A n c lv cw ch pr st od ly rct sop eph hX hY hO hP h1 h2 h3 h4 v _ _ rfl rfl)
  generalize byN Xn txn * byN Yn tyn = N at *
  unfold imgV parV at *
  go_enter Try.func21, Try.ntmps21
  go_wp2_with fail
  generalize hw2 : World.alloc (World.alloc w _) _ = w2
  have bb : Below w.heap.size w w2 := by rw [← hw2]; exact below_alloc (below_alloc (Below.refl _ _) _) _
  clear hw2
  refine (H.out w2).mono ?_
  rintro e w3 ⟨A', c', rfl, _, hb3⟩
  go_wp2_with fail
  go_ret
  exact ⟨rfl, below_trans bb hb3⟩
/-- what is known of the numbers that Make makes -/
structure MadeP (side : Nat) (fC fS : Int) (Xn Yn On Pn tx ty lv cw ch pr st od ly n dn : Nat) (rct PL : Bool) : Prop where
  on : On < 6 ∧ Pn < 6
  xs : On < Xn ∧ Xn ≤ On + side ∧ Pn < Yn ∧ Yn ≤ Pn + side
  ts : On < tx ∧ tx ≤ 4096 ∧ Pn < ty ∧ ty ≤ 4096
  tiles : byN Xn tx * byN Yn ty ≤ 6
  bds : lv ≤ 5 ∧ 2 ≤ cw ∧ cw ≤ 4 ∧ 2 ≤ ch ∧ ch ≤ 4 ∧ 1 ≤ pr ∧ pr ≤ 15 ∧ st ≤ 63 ∧ od ≤ 4 ∧ 1 ≤ ly ∧ ly ≤ 4
  num : 1 ≤ n ∧ n ≤ 4 ∧ (n : Int) = 1 + fC % 4
  rc : rct = true → 3 ≤ n ∧ PL = true
  pl : PL = !decide (fS.tmod 5 = 1)
  dn : 1 ≤ dn ∧ dn ≤ 10
theorem madeP_mk {side : Nat} {fC fS : Int} {frct : Bool} {On Pn vX vY lv vcw vch st od vly vTx vTy vD vC O1 P1 Xn Yn cwn chn lyn tx0 ty0 dn nc k pr tx ty TN j : Nat} {rb PL : Bool}
    (h1 : On < 6) (h2 : Pn < 6) (h3 : vX < side) (h4 : vY < side) (h5 : lv < 6) (h6 : vcw < 3) (h7 : vch < 3) (h8 : st < 64) (h9 : od < 5) (h10 : vly < 4) (h11 : vD < 10) (h12 : vC < 4)
    (e1 : O1 = On + 1) (e2 : P1 = Pn + 1) (e3 : Xn = O1 + vX) (e4 : Yn = P1 + vY) (e5 : cwn = 2 + vcw) (e6 : chn = 2 + vch) (e7 : lyn = 1 + vly) (e8 : tx0 = O1 + vTx) (e9 : ty0 = P1 + vTy) (e10 : dn = 1 + vD) (e11 : nc = 1 + vC)
    (hk : k = nc) (hC : fC % 4 = vC) (p1 : 1 ≤ pr) (p2 : pr ≤ 15) (hPL : PL = !decide (fS.tmod 5 = 1)) (hrb : rb = (frct && (decide (3 ≤ nc) && !decide (fS.tmod 5 = 1))))
    (t1 : 1 ≤ tx ∧ tx ≤ 64 * 64) (t2 : 1 ≤ ty ∧ ty ≤ 64 * 64) (t3 : TN ≤ 6) (t4 : byN Xn tx * byN Yn ty = TN) (t5 : tx = tx0 * 2 ^ j) (t6 : ty = ty0 * 2 ^ j) (t7 : 1 ≤ 2 ^ j) :
    MadeP side fC fS Xn Yn On Pn tx ty lv cwn chn pr st od lyn k dn rb PL := by
  have g1 : tx0 ≤ tx := by rw [t5]; exact Nat.le_mul_of_pos_right _ t7
  have g2 : ty0 ≤ ty := by rw [t6]; exact Nat.le_mul_of_pos_right _ t7
  clear t5 t6
  refine ⟨⟨h1, h2⟩, by omega, by omega, by rw [t4]; exact t3, by omega, by omega, ?_, hPL, by omega⟩
  intro hr
  rw [hrb] at hr
  rw [hPL]
  simp only [Bool.and_eq_true, decide_eq_true_eq] at hr
  exact ⟨by omega, hr.2.2⟩
theorem MadeI.mono {W : World} {base base' : Nat} {A : Option Addr} {k c : Nat} {F : Nat → CompD} {G : Nat → Nat → Int} {PC : CompD → (Nat → Int) → Prop} (h : MadeI W base A k c F G PC) (hb : base' ≤ base) : MadeI W base' A k c F G PC :=
  ⟨⟨h.comps.1, World.ownsRow.mono h.comps.2 hb⟩, fun j hj => World.ownsRow.mono (h.data j hj) hb, h.sep, h.good⟩
theorem mk_lt1 (q : Nat) : q + 1 < q + 5 := by omega
theorem mk_lt2 (q : Nat) : q + 1 + 1 < q + 5 := by omega
theorem mk_ge1 (q : Nat) : q ≤ q + 1 := by omega
theorem mk_ge2 (q : Nat) : q ≤ q + 1 + 1 := by omega
theorem mk_ne31 (q : Nat) : q + 3 ≠ q + 1 := by omega
theorem mk_ne41 (q : Nat) : q + 4 ≠ q + 1 := by omega
theorem mk_ne32 (q : Nat) : q + 3 ≠ q + 1 + 1 := by omega
theorem mk_ne42 (q : Nat) : q + 4 ≠ q + 1 + 1 := by omega
theorem mk_ne21 (q : Nat) : q + 1 + 1 ≠ q + 1 := by omega
theorem mk_ne12 (q : Nat) : q + 1 ≠ q + 1 + 1 := by omega
theorem int_infoM : (Try.prog.info? 3).map (fun i => (i.zero, i.size, i.bytes)) = some (some (.int .i64 0), 1, 8) := by kernel_rfl
theorem lohi {dp : Nat} (sg : Bool) (h : 1 ≤ dp ∧ dp ≤ 10) : ∃ M : Nat, 1 ≤ M ∧ M ≤ 1024 ∧ hiB dp sg = loB dp sg + M - 1 ∧ -1024 ≤ loB dp sg ∧ loB dp sg ≤ 0 := by
  obtain ⟨m, e1, e2, e3, e4⟩ : ∃ m : Nat, 2 ^ dp = 2 * m ∧ 2 ^ (dp - 1) = m ∧ 1 ≤ m ∧ m ≤ 512 := by
    obtain ⟨k, rfl⟩ : ∃ k, dp = k + 1 := ⟨dp - 1, by omega⟩
    refine ⟨2 ^ k, by rw [Nat.pow_succ, Nat.mul_comm], rfl, Nat.one_le_two_pow, ?_⟩
    calc 2 ^ k ≤ 2 ^ 9 := Nat.pow_le_pow_right (by omega) (by omega)
      _ = 512 := rfl
  have f1 : loB dp sg = if sg then -(m : Int) else 0 := by unfold loB; rw [e2]
  have f2 : hiB dp sg = if sg then (m : Int) - 1 else 2 * (m : Int) - 1 := by unfold hiB; rw [e1, e2]; simp
  clear e1 e2
  rw [f1, f2]
  clear f1 f2
  refine ⟨2 * m, by omega, by omega, ?_, ?_, ?_⟩
  all_goals
    cases sg
    all_goals simp
    all_goals omega
theorem tdiv_bd {a : Int} (n : Nat) (hn : n = 5 ∨ n = 15) (h : -9223372036854775808 ≤ a ∧ a ≤ 9223372036854775807) : -4611686018427387904 ≤ a.tdiv n ∧ a.tdiv n ≤ 4611686018427387904 := by
  rcases Int.le_total 0 a with h0 | h0
  · rw [Int.tdiv_eq_ediv_of_nonneg h0]
    rcases hn with rfl | rfl <;> omega
  · have e : a.tdiv n = -((-a) / n) := by
      have := Int.neg_tdiv (-a) n
      rw [Int.neg_neg] at this
      rw [this, Int.tdiv_eq_ediv_of_nonneg (by omega)]
    rw [e]
    rcases hn with rfl | rfl <;> omega
/-- the values of a within, as a natural number -/
theorem within12v (a : Int) (n : Nat) (m : Int) (hm : m = (n : Int)) (h1 : 1 ≤ n) (h2 : n ≤ 4611686018427387904) : ∃ v : Nat, v < n ∧ a % m = v ∧ ∀ w, Calls Try.prog 20 #[.int .i64 a, .int .i64 m] w fun e w' => e = .returned (.int .i64 (v : Int)) ∧ w = w' := by
  subst hm
  obtain ⟨v, hv⟩ := Int.eq_ofNat_of_zero_le (Int.emod_nonneg a (show (n : Int) ≠ 0 by omega))
  refine ⟨v, ?_, hv, fun w => ?_⟩
  · have := Int.emod_lt_of_pos a (show (0 : Int) < n by omega); omega
  · have := within12 a n (by omega) (by omega) w; rw [hv] at this; exact this

end Go.Proofs.Ytpgkdpoehkdhcaa
