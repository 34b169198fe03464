/- WALK of the law ScanOnce: each place of a code-block comes once, in the order of P602. No condition. -/
import Derived.Test.YtmghnfblmoibhaaScanWalk2
import Derived.Deep.OwnRows
import Derived.Deep.LoopGhost
import Derived.OwnWalk
namespace Go.Proofs.Ytmghnfblmoibhaa
open Go.RowKit
set_option maxHeartbeats 8000000
set_option maxRecDepth 100000

def Prev (W H : Int) (K : Nat) (PX PY : Int) : Prop := (K = 0 → PX = 0 ∧ PY = -1) ∧ (0 < K → PX = (atM W H ((K : Int) - 1)).1 ∧ PY = (atM W H ((K : Int) - 1)).2)
def seenF (W H : Int) (K : Nat) (j : Nat) : Value := .bool (decide (numM W H ((j : Int) % W) ((j : Int) / W) < (K : Int)))

theorem place {W H : Int} {K : Nat} (hw : 1 ≤ W) (hh : 1 ≤ H) (hk : (K : Int) < W * H) :
    ∃ J : Nat, (atM W H K).2 * W + (atM W H K).1 = (J : Int) ∧ (J : Int) < W * H ∧ seenF W H K J = .bool false ∧
      ∀ j : Nat, (j : Int) < W * H → (if j = J then .bool true else seenF W H K j) = seenF W H (K + 1) j := by
  obtain ⟨x0, x1, y0, y1, hn⟩ := at_num hw hh (by omega) hk
  generalize (atM W H K).1 = X at *
  generalize (atM W H K).2 = Y at *
  have m0 : 0 ≤ Y * W := Int.mul_nonneg y0 (by omega)
  have m1 : Y * W ≤ (H - 1) * W := Int.mul_le_mul_of_nonneg_right (by omega) (by omega)
  have m2 : (H - 1) * W = W * H - W := by rw [Int.sub_mul, Int.mul_comm H]; omega
  obtain ⟨J, hJ⟩ := Int.eq_ofNat_of_zero_le (show 0 ≤ Y * W + X by omega)
  have hd := div_of (x := Y) (t := X) (r := W) x0 x1
  refine ⟨J, hJ, by omega, ?_, fun j hj => ?_⟩
  · unfold seenF
    rw [← hJ, hd.1, hd.2, hn]
    simp
  · unfold seenF
    have hx0 := Int.emod_nonneg (j : Int) (b := W) (by omega)
    have hx1 := Int.emod_lt_of_pos (j : Int) (b := W) (by omega)
    have hy0 : 0 ≤ (j : Int) / W := Int.ediv_nonneg (by omega) (by omega)
    have hy1 : (j : Int) / W < H := Int.ediv_lt_of_lt_mul (by omega) (by rw [Int.mul_comm]; exact hj)
    have hdj := Int.mul_ediv_add_emod (j : Int) W
    by_cases e : j = J
    · subst e
      rw [if_pos rfl, ← hJ, hd.1, hd.2, hn]
      simp; omega
    · rw [if_neg e]
      have hne : numM W H ((j : Int) % W) ((j : Int) / W) ≠ K := by
        intro he
        apply e
        have h1 := at_of (w := W) (h := H) (s := (j : Int) / W / 4) (x := (j : Int) % W) (t := (j : Int) / W % 4) (by omega) (by omega) hx0 hx1 (by omega) (by omega)
        have h2 := at_of (w := W) (h := H) (s := Y / 4) (x := X) (t := Y % 4) (by omega) (by omega) x0 x1 (by omega) (by omega)
        unfold numM at he hn
        rw [he] at h1
        rw [hn] at h2
        rw [h1] at h2
        simp only [Prod.mk.injEq] at h2
        have e3 : (j : Int) / W = Y := by omega
        rw [e3, h2.1, Int.mul_comm] at hdj
        omega
      congr 1
      rw [decide_eq_decide]
      omega

theorem steps {W H : Int} {K : Nat} {PX PY : Int} (hw : 1 ≤ W) (hh : 1 ≤ H) (hk : (K : Int) < W * H) (hp : Prev W H K PX PY) :
    (K = 0 ∧ PX = 0 ∧ PY = -1 ∧ (atM W H K).1 = 0 ∧ (atM W H K).2 = 0) ∨
    (1 ≤ K ∧ 0 ≤ PX ∧ PX < W ∧ 0 ≤ PY ∧ PY < H ∧
      (((atM W H K).1 = PX ∧ (atM W H K).2 = PY + 1 ∧ 0 < (PY + 1) % 4) ∨
       ((atM W H K).1 = PX + 1 ∧ (atM W H K).2 = PY / 4 * 4 ∧ (PY % 4 = 3 ∨ PY = H - 1)) ∨
       ((atM W H K).1 = 0 ∧ PX = W - 1 ∧ (atM W H K).2 = PY / 4 * 4 + 4))) := by
  rcases Nat.eq_zero_or_pos K with e | e
  · left
    subst e
    obtain ⟨rfl, rfl⟩ := hp.1 rfl
    have := at_first hw hh
    simp [this]
  · right
    obtain ⟨rfl, rfl⟩ := hp.2 e
    obtain ⟨x0, x1, y0, y1, _⟩ := at_num (k := (K : Int) - 1) hw hh (by omega) (by omega)
    refine ⟨e, x0, x1, y0, y1, ?_⟩
    rcases at_next (k := (K : Int)) hw hh (by omega) hk with ⟨h1, h2, h3⟩ | ⟨h1, h2, h3, h4⟩ | ⟨h1, h2, h3, h4⟩
    · exact .inl ⟨h1, h2, by rw [← h2]; exact h3⟩
    · exact .inr (.inl ⟨h1, h3, h4⟩)
    · exact .inr (.inr ⟨h1, h2, h4⟩)

theorem bool_info : (Try.prog.info? 4).map (fun i => (i.zero, i.size, i.bytes)) = some (some (.bool false), 1, 1) := by kernel_rfl

theorem scanOnce_walk (a b : Int) (w : World) :
    Calls Try.prog 4 #[.int .i64 a, .int .i64 b] w fun e w' => e = .returned (.bool true) ∧ Below w.heap.size w w' := by
  go_enter Try.func4, Try.ntmps4
  go_wp2_with fail
  refine (known6 _).mono ?_
  rintro e w' ⟨rfl, n, rfl⟩
  go_wp2_with fail
  refine (within6e _ _ (by omega) (by omega) _).mono ?_
  rintro e w' ⟨W, hW0, hW1, rfl, rfl⟩
  go_wp2_with fail
  refine (within6e _ _ (by omega) (by omega) _).mono ?_
  rintro e w' ⟨H, hH0, hH1, rfl, rfl⟩
  have p1 : 1 ≤ (1 + W) * (1 + H) := Int.mul_pos (by omega) (by omega)
  have p2 : (1 + W) * (1 + H) ≤ 20 * 20 := Int.mul_le_mul (by omega) (by omega) (by omega) (by omega)
  obtain ⟨N, hN⟩ := Int.eq_ofNat_of_zero_le (show 0 ≤ (1 + W) * (1 + H) by omega)
  rw [hN] at p1 p2
  have hmk := fun u => run_make_row' (P := Try.prog) 27 4 (.bool false) 1 Try.underlying27 bool_info rfl .i64 .i64 N (by omega) (by omega) u
  go_wp2_with fail
  clear hmk
  obtain ⟨B, hB⟩ : ∃ B, B = w.heap.size := ⟨_, rfl⟩
  have b0 : Below B w ((w.drewN n).alloc (.cells (madeCells #[.bool false] N) 4)) := (below_drewN (Below.refl _ _) n).alloc (by simp [hB]) _
  go_loopw [6, 7, 8] (fun px py k wr => ∃ (K : Nat) (PX PY : Int), K ≤ N ∧ k = .int .i64 K ∧ px = .int .i64 PX ∧ py = .int .i64 PY ∧ Prev (1 + W) (1 + H) K PX PY ∧
      wr.rowIs w.heap.size 4 N (seenF (1 + W) (1 + H) K) ∧ Below w.heap.size w wr)
    (fun _ _ k _ => N - (intOf k).toNat)
  case atStart =>
    refine ⟨0, 0, -1, by omega, rfl, rfl, rfl, ⟨fun _ => ⟨rfl, rfl⟩, fun h => absurd h (by omega)⟩, ?_, by rw [← hB]; exact b0⟩
    refine World.rowIs.congr (World.rowIs_made (w.drewN n) (.bool false) N 4) fun i hi => ?_
    unfold seenF numM
    have h1 : 0 ≤ (i : Int) / (1 + W) := Int.ediv_nonneg (by omega) (by omega)
    have h2 := Int.emod_nonneg (i : Int) (b := 1 + W) (by omega)
    have h3 : 0 ≤ 4 * ((i : Int) / (1 + W) / 4) * (1 + W) := Int.mul_nonneg (by omega) (by omega)
    have h5 : (i : Int) / (1 + W) < 1 + H := Int.ediv_lt_of_lt_mul (by omega) (by rw [Int.mul_comm, hN]; omega)
    have h4 : 0 ≤ (i : Int) % (1 + W) * min 4 (1 + H - 4 * ((i : Int) / (1 + W) / 4)) := Int.mul_nonneg h2 (by omega)
    congr 1
    symm
    rw [decide_eq_false_iff_not]
    omega
  case round =>
    obtain ⟨K, PX, PY, hK, rfl, rfl, rfl, hp, hrow, hbel⟩ := hrel
    by_cases hlt : K < N
    · have hk : (K : Int) < (1 + W) * (1 + H) := by rw [hN]; omega
      obtain ⟨J, hJ, hJN, hJc, hJs⟩ := place (by omega) (by omega) hk
      have hst := steps (by omega) (by omega) hk hp
      obtain ⟨x0, x1, y0, y1, _⟩ := at_num (w := 1 + W) (h := 1 + H) (k := K) (by omega) (by omega) (by omega) hk
      have hq : Prev (1 + W) (1 + H) (K + 1) (atM (1 + W) (1 + H) K).1 (atM (1 + W) (1 + H) K).2 := by
        refine ⟨fun h => absurd h (by omega), fun _ => ?_⟩
        have : ((K + 1 : Nat) : Int) - 1 = K := by omega
        rw [this]; exact ⟨rfl, rfl⟩
      have HQ := Lib.hid hq
      clear hq hp hk
      go_wp2_with fail
      refine (at_any _ _ _ (by omega) (by omega) _).mono ?_
      rintro e w1 ⟨rfl, hdr⟩
      have hrow1 : w1.rowIs w.heap.size 4 N (seenF (1 + W) (1 + H) K) := by obtain ⟨n', rfl⟩ := hdr; exact hrow
      have hbel1 : Below w.heap.size w w1 := by obtain ⟨n', rfl⟩ := hdr; exact below_drewN hbel _
      have hcell := hrow1.cell (i := J) (by omega)
      have hfr := hrow1.frozen J
      rw [hJc] at hcell
      have HN := Lib.hid ((hrow1.set J (.bool true)).congr (g := seenF (1 + W) (1 + H) (K + 1)) (fun i hi => hJs i (by rw [hN]; omega)))
      have HB := Lib.hid (hbel1.setCell (p := ⟨w.heap.size, J, none⟩) (Nat.le_refl _) (.bool true))
      clear hdr hrow hbel hrow1 hbel1 hJs hJc
      generalize (atM (1 + W) (1 + H) K).1 = X at *
      generalize (atM (1 + W) (1 + H) K).2 = Y at *
      have hJ0 : X = 0 → Y = 0 → J = 0 := by rintro rfl rfl; simp at hJ; omega
      rcases hst with ⟨h1, h2, h3, h4, h5⟩ | ⟨k1, px0, px1, py0, py1, ⟨h1, h2, g⟩ | ⟨h1, h2, g⟩ | ⟨h1, h2, h3⟩⟩
      · subst h1 h2 h3 h4 h5
        obtain rfl := hJ0 rfl rfl
        clear hJ hJ0
        cases tj : ((0 : Int) == 1 + W - 1)
        all_goals
          go_wp2
          go_roundw
          case rel => exact ⟨1, 0, 0, by omega, rfl, rfl, rfl, HQ.out, HN.out, HB.out⟩
          case measure => simp [intOf]; omega
      · clear hJ0
        have g' : 0 < Y % 4 := by rw [h2]; exact g
        have ta : (X == PX) = true := by rw [beq_iff_eq]; omega
        have tb : (Y == PY + 1) = true := by rw [beq_iff_eq]; omega
        have td : (X == PX + 1) = false := by rw [beq_eq_false_iff_ne]; omega
        have te : (Y % 4 == 0) = false := by rw [beq_eq_false_iff_ne]; omega
        clear h1 h2 g
        cases ti : (X == 0)
        all_goals cases tj : (PX == 1 + W - 1)
        all_goals
          go_wp2
          go_roundw
          case rel => exact ⟨K + 1, _, _, by omega, by go_num, rfl, rfl, HQ.out, HN.out, HB.out⟩
          case measure => simp [intOf]; omega
      · clear hJ0
        have g' : 3 ≤ PY % 4 ∨ H ≤ PY ∧ PY % 4 ≤ 2 := by omega
        have ta : (X == PX) = false := by rw [beq_eq_false_iff_ne]; omega
        have td : (X == PX + 1) = true := by rw [beq_iff_eq]; omega
        have te : (Y % 4 == 0) = true := by rw [beq_iff_eq]; omega
        have tf : (Y == PY / 4 * 4) = true := by rw [beq_iff_eq]; omega
        have ti : (X == 0) = false := by rw [beq_eq_false_iff_ne]; omega
        clear h1 h2 g
        rcases g' with g' | ⟨g', g''⟩
        · have tg : (PY % 4 == 3) = true := by rw [beq_iff_eq]; omega
          go_wp2
          go_roundw
          case rel => exact ⟨K + 1, _, _, by omega, by go_num, rfl, rfl, HQ.out, HN.out, HB.out⟩
          case measure => simp [intOf]; omega
        · have tg : (PY % 4 == 3) = false := by rw [beq_eq_false_iff_ne]; omega
          have th : (PY == 1 + H - 1) = true := by rw [beq_iff_eq]; omega
          go_wp2
          go_roundw
          case rel => exact ⟨K + 1, _, _, by omega, by go_num, rfl, rfl, HQ.out, HN.out, HB.out⟩
          case measure => simp [intOf]; omega
      · clear hJ0
        have g' : PY % 4 ≤ 2 → Y ≠ PY + 1 := by omega
        have g'' : ¬ 0 < Y % 4 := by omega
        have td : (X == PX + 1) = false := by rw [beq_eq_false_iff_ne]; omega
        have ti : (X == 0) = true := by rw [beq_iff_eq]; omega
        have tj : (PX == 1 + W - 1) = true := by rw [beq_iff_eq]; omega
        have te : (Y % 4 == 0) = true := by rw [beq_iff_eq]; omega
        have tk : (Y == PY / 4 * 4 + 4) = true := by rw [beq_iff_eq]; omega
        clear h1 h2 h3 g'
        cases ta : (X == PX)
        all_goals cases tb : (Y == PY + 1)
        all_goals
          go_wp2
          go_roundw
          case rel => exact ⟨K + 1, _, _, by omega, by go_num, rfl, rfl, HQ.out, HN.out, HB.out⟩
          case measure => simp [intOf]; omega
    · obtain rfl : K = N := by omega
      have e1 := Lib.hid (at_beyond (w := 1 + W) (h := 1 + H) (k := (K : Int)) (by omega) (by omega) (by omega))
      have e2 := Lib.hid (at_none (w := 1 + W) (h := 1 + H) (k := -1) (by omega))
      go_wp2_with fail
      refine (at_any _ _ _ (by omega) (by omega) _).mono ?_
      rintro e w1 ⟨rfl, hdr⟩
      have hbel1 : Below w.heap.size w w1 := by obtain ⟨n', rfl⟩ := hdr; exact below_drewN hbel _
      clear hdr hbel hrow
      rw [e1.out]
      go_wp2_with fail
      refine (at_any _ _ _ (by omega) (by omega) _).mono ?_
      rintro e w2 ⟨rfl, hdr⟩
      have hbel2 : Below w.heap.size w w2 := by obtain ⟨n', rfl⟩ := hdr; exact below_drewN hbel1 _
      clear hdr hbel1
      rw [e2.out]
      go_wp2
      go_ret
      exact ⟨rfl, hbel2⟩
end Go.Proofs.Ytmghnfblmoibhaa
