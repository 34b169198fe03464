/- CONTRACT of canvas.part. -/
import Derived.Test.YtmieoifagnpbiaaBands12
namespace Go.Proofs.Ytmieoifagnpbiaa
open Go.RowKit
set_option maxHeartbeats 4000000
set_option linter.unusedVariables false
set_option linter.unusedSimpArgs false
set_option maxRecDepth 100000

/-- a precinct's part of a band -/
def cutR (x y : Int) (sd : Nat) : Rc := ⟨x * 2 ^ sd, y * 2 ^ sd, (x + 1) * 2 ^ sd, (y + 1) * 2 ^ sd⟩
def partR (band res : Rc) (pr sd k : Nat) : Rc :=
  if preW res pr * preH res pr ≤ k then ⟨0, 0, 0, 0⟩ else bothR band (cutR (flI res.x0 pr + (k : Int) % preW res pr) (flI res.y0 pr + (k : Int) / preW res pr) sd)
theorem mul_bd {a b A B : Int} (h1 : 0 ≤ a) (h2 : a ≤ A) (h3 : 0 ≤ b) (h4 : b ≤ B) : 0 ≤ a * b ∧ a * b ≤ A * B := ⟨Int.mul_nonneg h1 h3, Int.mul_le_mul h2 h4 h3 (Int.le_trans h1 h2)⟩
theorem pow_bd15 {k : Nat} (hk : k ≤ 15) : (1 : Int) ≤ 2 ^ k ∧ (2 : Int) ^ k ≤ 32768 := by
  have h1 : 1 ≤ 2 ^ k := Nat.one_le_two_pow
  have h2 : 2 ^ k ≤ 2 ^ 15 := Nat.pow_le_pow_right (by omega) hk
  have h3 : (2 : Int) ^ k = ((2 ^ k : Nat) : Int) := by simp
  rw [h3]
  generalize 2 ^ k = d at *
  omega
theorem flI_nn {a : Int} {k : Nat} (h0 : 0 ≤ a) (h1 : a ≤ 1048576) (hk : k ≤ 40) : 0 ≤ flI a k ∧ flI a k ≤ 1048576 := by
  obtain ⟨p1, p2⟩ := pow_bd hk
  unfold flI
  generalize (2 : Int) ^ k = d at *
  refine ⟨Int.ediv_nonneg h0 (by omega), ?_⟩
  apply Int.le_of_lt_add_one
  apply Int.ediv_lt_of_lt_mul (by omega)
  have h4 : (1048576 + 1) * 1 ≤ (1048576 + 1) * d := Int.mul_le_mul_of_nonneg_left p1 (by omega)
  omega
theorem pre_bd {R : Rc} {pr : Nat} (hp : pr ≤ 40) (hR : okR R) (hP : placeR R) : 0 ≤ preW R pr ∧ preW R pr ≤ 1048576 ∧ 0 ≤ preH R pr ∧ preH R pr ≤ 1048576 := by
  obtain ⟨x0, y0, x1, y1⟩ := R
  obtain ⟨h0, h1, h2, h3⟩ := hR
  obtain ⟨g0, g1, g2, g3⟩ := hP
  simp only at h0 h1 h2 h3 g0 g1 g2 g3
  unfold preW preH
  rcases he : emptyB ⟨x0, y0, x1, y1⟩ with _ | _
  · simp only [Bool.false_eq_true, if_false]
    unfold emptyB at he
    simp only [Bool.or_eq_false_iff, decide_eq_false_iff_not] at he
    obtain ⟨p1, p2⟩ := pow_bd hp
    unfold ceI flI
    generalize (2 : Int) ^ pr = d at *
    have k : ∀ a b : Int, 0 ≤ a → a < b → b ≤ 1048576 → 0 ≤ (b + d - 1) / d - a / d ∧ (b + d - 1) / d - a / d ≤ 1048576 := fun a b ha hab hb => by
      have k1 : a / d ≤ (b + d - 1) / d := Int.ediv_le_ediv (by omega) (by omega)
      have k2 : 0 ≤ a / d := Int.ediv_nonneg ha (by omega)
      have k3 : (b + d - 1) / d ≤ b := by
        apply Int.le_of_lt_add_one
        apply Int.ediv_lt_of_lt_mul (by omega)
        have : (b + 1) * d = b * d + d := by rw [Int.add_mul, Int.one_mul]
        have h4 : b * 1 ≤ b * d := Int.mul_le_mul_of_nonneg_left p1 (by omega)
        omega
      omega
    have a1 := k x0 x1 g0 (by omega) g2
    have a2 := k y0 y1 g1 (by omega) g3
    omega
  · simp
theorem pre_pos {R : Rc} {pr k : Nat} (h : ¬ preW R pr * preH R pr ≤ k) : emptyB R = false := by
  rcases he : emptyB R with _ | _
  · rfl
  · unfold preW preH at h; rw [he] at h; simp at h
theorem cpart_any (band res : Rc) (pr sd k : Nat) (hB : okR band) (hR : okR res) (hP : placeR res) (hp : pr ≤ 15) (hs : sd ≤ 15) (hk : k ≤ 1099511627776) (w : World) :
    Calls Try.prog 60 #[rcV band, rcV res, .int .i64 pr, .int .i64 sd, .int .i64 k] w fun e w' => e = .returned (rcV (partR band res pr sd k)) ∧ Below w.heap.size w w' := by
  have HP := Lib.hid (precincts_any res pr (by omega) hR)
  obtain ⟨q1, q2, q3, q4⟩ := pre_bd (by omega : pr ≤ 40) hR hP
  have hne : ¬ preW res pr * preH res pr ≤ k → emptyB res = false := pre_pos
  have F0 := floor_any res.x0 pr (by have := hR.1; omega) (by omega)
  have F1 := floor_any res.y0 pr (by have := hR.2.1; omega) (by omega)
  have hWH := mul_bd q1 q2 q3 q4
  unfold partR
  obtain ⟨W, hW⟩ : ∃ W, preW res pr = W := ⟨_, rfl⟩
  obtain ⟨H, hH⟩ : ∃ H, preH res pr = H := ⟨_, rfl⟩
  rw [hW, hH] at HP hne hWH ⊢
  rw [hW] at q1 q2
  rw [hH] at q3 q4
  obtain ⟨WH, hm⟩ : ∃ z, W * H = z := ⟨_, rfl⟩
  have m1 : IntKind.i64.wrap (W * H) = WH := by rw [hm]; exact wr (by omega)
  have kz : ¬ ((k : Int) < 0) := by omega
  by_cases hge : W * H ≤ k
  · rw [if_pos hge]
    rw [hm] at hge
    obtain ⟨a0, a1, a2, a3⟩ := res
    obtain ⟨b0, b1, b2, b3⟩ := band
    unfold rcV at *
    simp only at HP ⊢
    clear hW hH hne F0 F1 hWH hB hR hP hm
    go_enter Try.func60, Try.ntmps60
    go_wp2_with fail
    generalize hv1 : World.alloc (World.alloc (World.alloc w _) _) _ = V1
    have g2 : V1.heap[w.heap.size + 2]? = some (.cells #[.int .i64 0, .int .i64 0, .int .i64 0, .int .i64 0] 53 (0, 0)) := by rw [← hv1]; have := heap_alloc_new ((w.alloc (.cells #[.int .i64 b0, .int .i64 b1, .int .i64 b2, .int .i64 b3] 53)).alloc (.cells #[.int .i64 a0, .int .i64 a1, .int .i64 a2, .int .i64 a3] 53)) (.cells #[.int .i64 0, .int .i64 0, .int .i64 0, .int .i64 0] 53); rwa [World.size_alloc, World.size_alloc] at this
    have s1 : V1.heap.size = w.heap.size + 3 := by rw [← hv1]; simp
    have bb : Below w.heap.size w V1 := by rw [← hv1]; exact below_alloc (below_alloc (below_alloc (Below.refl _ _) _) _) _
    clear hv1
    refine (HP.out _).mono ?_
    rintro e V2 ⟨rfl, hb2⟩
    have g2 := (hb2.block (w.heap.size + 2) (by omega)).trans g2
    have bb := below_trans bb hb2
    have d : ∀ i, V2.cell? ⟨w.heap.size + 1 + 1, i, none⟩ = (#[.int .i64 0, .int .i64 0, .int .i64 0, .int .i64 0] : Array Value)[i]? := fun i => cell_of_row _ _ i _ _ (0, 0) g2
    have d0 := d 0
    have d1 := d 1
    have d2 := d 2
    have d3 := d 3
    have dz : ∀ i, V2.frozen? ⟨w.heap.size + 1 + 1, i, none⟩ = false := fun i => frozen_of_row _ _ i _ _ g2
    have bz := setRow_below (b := w.heap.size + 1 + 1) (by omega) [.int .i64 0, .int .i64 0, .int .i64 0, .int .i64 0] 0 _ bb
    clear d hb2
    go_wp2_with fail
    refine bodyPost_ret (v := .agg #[.int .i64 0, .int .i64 0, .int .i64 0, .int .i64 0]) (by simp [results, Try.results60, go_sem, d0, d1, d2, d3]) rfl ⟨rfl, bz⟩
  · rw [if_neg hge]
    have hemp := hne hge
    rw [hm] at hge
    obtain ⟨a0, a1, a2, a3⟩ := res
    obtain ⟨b0, b1, b2, b3⟩ := band
    simp only at F0 F1 ⊢
    have hxy : 0 ≤ a0 ∧ a0 < a2 ∧ a2 ≤ 1048576 ∧ 0 ≤ a1 ∧ a1 < a3 ∧ a3 ≤ 1048576 := by
      unfold emptyB at hemp
      obtain ⟨g0, g1, g2, g3⟩ := hP
      simp only [Bool.or_eq_false_iff, decide_eq_false_iff_not] at hemp g0 g1 g2 g3
      omega
    have hWp : 1 ≤ W := by
      rcases Int.lt_or_le 0 W with h | h
      · omega
      · obtain rfl : W = 0 := by omega
        rw [Int.zero_mul] at hm; omega
    have f0 := flI_nn (k := pr) hxy.1 (by omega : a0 ≤ 1048576) (by omega)
    have f1 := flI_nn (k := pr) hxy.2.2.2.1 (by omega : a1 ≤ 1048576) (by omega)
    generalize flI a0 pr = X0 at *
    generalize flI a1 pr = Y0 at *
    have r0 := Int.emod_nonneg (k : Int) (show W ≠ 0 by omega)
    have r1 := Int.emod_lt_of_pos (k : Int) (show 0 < W by omega)
    have u0 := Int.ediv_nonneg (a := (k : Int)) (b := W) (by omega) (by omega)
    have u1 : (k : Int) / W ≤ 1048576 := by
      apply Int.le_of_lt_add_one
      apply Int.ediv_lt_of_lt_mul (by omega)
      have h5 : H * W ≤ 1048576 * W := Int.mul_le_mul_of_nonneg_right q4 q1
      have h6 : (1048576 + 1) * W = 1048576 * W + W := by rw [Int.add_mul, Int.one_mul]
      rw [Int.mul_comm] at hm
      omega
    have t0 : (k : Int).tmod W = (k : Int) % W := Int.tmod_eq_emod_of_nonneg (by omega)
    have t1 : (k : Int).tdiv W = (k : Int) / W := Int.tdiv_eq_ediv_of_nonneg (by omega)
    generalize (k : Int) % W = kx at *
    generalize (k : Int) / W = ky at *
    obtain ⟨x, hx⟩ : ∃ x, X0 + kx = x := ⟨_, rfl⟩
    obtain ⟨y, hy⟩ : ∃ y, Y0 + ky = y := ⟨_, rfl⟩
    rw [hx, hy]
    have hxb : 0 ≤ x ∧ x ≤ 2097152 := by omega
    have hyb : 0 ≤ y ∧ y ≤ 2097152 := by omega
    have z1 : IntKind.i64.wrap kx = kx := wr (by omega)
    have z2 : IntKind.i64.wrap ky = ky := wr (by omega)
    have z3 : IntKind.i64.wrap (X0 + kx) = x := by rw [hx]; exact wr (by omega)
    have z4 : IntKind.i64.wrap (Y0 + ky) = y := by rw [hy]; exact wr (by omega)
    have n1 : (W = 0) = False := eq_false (by omega)
    have n2 : ¬ (WH ≤ (k : Int)) := hge
    have G0 := Lib.hid F0
    have G1 := Lib.hid F1
    have HB := Lib.hid (fun v => both_any ⟨b0, b1, b2, b3⟩ (cutR x y sd) v)
    obtain ⟨R, hRR⟩ : ∃ R : Rc, R = bothR ⟨b0, b1, b2, b3⟩ (cutR x y sd) := ⟨_, rfl⟩
    rw [← hRR] at HB ⊢
    obtain ⟨p1, p2⟩ := pow_bd15 hs
    have hsh : ∀ z : Int, 0 ≤ z → z ≤ 2097153 → IntKind.i64.wrap (z * 2 ^ sd) = z * 2 ^ sd := fun z hz hz2 => by
      have := mul_bd hz hz2 (by omega : (0 : Int) ≤ 2 ^ sd) p2
      exact wr (by omega)
    obtain ⟨sx0, ex0⟩ : ∃ z, x * 2 ^ sd = z := ⟨_, rfl⟩
    obtain ⟨sy0, ey0⟩ : ∃ z, y * 2 ^ sd = z := ⟨_, rfl⟩
    obtain ⟨sx1, ex1⟩ : ∃ z, (x + 1) * 2 ^ sd = z := ⟨_, rfl⟩
    obtain ⟨sy1, ey1⟩ : ∃ z, (y + 1) * 2 ^ sd = z := ⟨_, rfl⟩
    unfold cutR at HB
    rw [ex0, ey0, ex1, ey1] at HB
    have Z1 := Lib.hid (show IntKind.i64.wrap (x * 2 ^ sd) = sx0 by rw [hsh x (by omega) (by omega), ex0])
    have Z2 := Lib.hid (show IntKind.i64.wrap (y * 2 ^ sd) = sy0 by rw [hsh y (by omega) (by omega), ey0])
    have Z3 := Lib.hid (show IntKind.i64.wrap ((x + 1) * 2 ^ sd) = sx1 by rw [hsh (x + 1) (by omega) (by omega), ex1])
    have Z4 := Lib.hid (show IntKind.i64.wrap ((y + 1) * 2 ^ sd) = sy1 by rw [hsh (y + 1) (by omega) (by omega), ey1])
    have Z5 := Lib.hid (show IntKind.i64.wrap (x + 1) = x + 1 from wr (by omega))
    have Z6 := Lib.hid (show IntKind.i64.wrap (y + 1) = y + 1 from wr (by omega))
    obtain ⟨c0, c1, c2, c3⟩ := R
    unfold rcV at *
    simp only at HP HB ⊢
    clear hW hH hne F0 F1 hWH hB hR hP hm hRR hsh ex0 ey0 ex1 ey1 p1 p2 hx hy hxb hyb r0 r1 u0 u1 f0 f1 hxy hemp hge
    go_enter Try.func60, Try.ntmps60
    go_wp2_with fail
    obtain ⟨q, hq⟩ : ∃ q, w.heap.size = q := ⟨_, rfl⟩
    rw [hq]
    generalize hv1 : World.alloc (World.alloc (World.alloc w _) _) _ = V1
    have g0 : V1.heap[q]? = some (.cells #[.int .i64 b0, .int .i64 b1, .int .i64 b2, .int .i64 b3] 53 (0, 0)) := by rw [← hv1, ← hq]; exact (Below.heap_alloc _ _ _ (by simp; omega)).trans ((Below.heap_alloc _ _ _ (by simp)).trans (heap_alloc_new w _))
    have g1 : V1.heap[q + 1]? = some (.cells #[.int .i64 a0, .int .i64 a1, .int .i64 a2, .int .i64 a3] 53 (0, 0)) := by rw [← hv1, ← hq]; exact (Below.heap_alloc _ _ _ (by simp)).trans (heap_alloc_new3 w _ _)
    have g2 : V1.heap[q + 2]? = some (.cells #[.int .i64 0, .int .i64 0, .int .i64 0, .int .i64 0] 53 (0, 0)) := by rw [← hv1, ← hq]; have := heap_alloc_new ((w.alloc (.cells #[.int .i64 b0, .int .i64 b1, .int .i64 b2, .int .i64 b3] 53)).alloc (.cells #[.int .i64 a0, .int .i64 a1, .int .i64 a2, .int .i64 a3] 53)) (.cells #[.int .i64 0, .int .i64 0, .int .i64 0, .int .i64 0] 53); rwa [World.size_alloc, World.size_alloc] at this
    have s1 : V1.heap.size = q + 3 := by rw [← hv1, ← hq]; simp
    have bb : Below q w V1 := by rw [← hv1, ← hq]; exact below_alloc (below_alloc (below_alloc (Below.refl _ _) _) _) _
    clear hv1
    refine (HP.out _).mono ?_
    rintro e V2 ⟨rfl, hb2⟩
    have g0 := (hb2.block q (by omega)).trans g0
    have g1 := (hb2.block (q + 1) (by omega)).trans g1
    have g2 := (hb2.block (q + 2) (by omega)).trans g2
    have bb := bb.trans (hb2.mono (by omega))
    have hsz2 : q + 3 ≤ V2.heap.size := by have := hb2.size; omega
    have k0 : V2.cell? ⟨q + 1, 0, none⟩ = some (.int .i64 a0) := cell_of_row _ _ 0 _ _ (0, 0) g1
    have k1 : V2.cell? ⟨q + 1, 1, none⟩ = some (.int .i64 a1) := cell_of_row _ _ 1 _ _ (0, 0) g1
    clear hb2 s1
    go_wp2_with fail
    go_quiet (first | (go_at_call 58; first | (with_reducible exact Calls.quiet_of_same (G0.out _)) | (with_reducible exact Calls.quiet_of_same (G1.out _))))
    go_wp2_with fail
    obtain ⟨V3, hV3⟩ : ∃ V3, V3 = V2.drewN nq := ⟨_, rfl⟩
    rw [← hV3]
    have g0 := (show V3.heap[q]? = V2.heap[q]? by rw [hV3]; rfl).trans g0
    have g2 := (show V3.heap[q + 2]? = V2.heap[q + 2]? by rw [hV3]; rfl).trans g2
    have bb : Below q w V3 := by rw [hV3]; exact below_drewN bb _
    have hsz : q + 3 ≤ V3.heap.size := by rw [hV3]; exact hsz2
    clear hV3 k0 k1 hsz2
    refine last_cut (by kernel_rfl) (fun U => U.cell? ⟨q, 0, none⟩ = some (.int .i64 b0) ∧ U.cell? ⟨q, 1, none⟩ = some (.int .i64 b1) ∧ U.cell? ⟨q, 2, none⟩ = some (.int .i64 b2) ∧ U.cell? ⟨q, 3, none⟩ = some (.int .i64 b3)) (fun aF a' W' => a' = (((((((((((((((((aF.put (some 47) (.agg #[.int .i64 b0, .int .i64 b1, .int .i64 b2, .int .i64 b3])).put (some 48) (.int .i64 x)).put (some 49) (.int .i64 sd)).put (some 50) (.int .i64 sx0)).put (some 51) (.int .i64 y)).put (some 52) (.int .i64 sd)).put (some 53) (.int .i64 sy0)).put (some 54) (.int .i64 x)).put (some 55) (.int .i64 (x + 1))).put (some 56) (.int .i64 sd)).put (some 57) (.int .i64 sx1)).put (some 58) (.int .i64 y)).put (some 59) (.int .i64 (y + 1))).put (some 60) (.int .i64 sd)).put (some 61) (.int .i64 sy1)).put (some 62) (.agg #[.int .i64 sx0, .int .i64 sy0, .int .i64 sx1, .int .i64 sy1])).put (some 63) (.agg #[.int .i64 c0, .int .i64 c1, .int .i64 c2, .int .i64 c3])) ∧ W'.heap[q + 1 + 1]? = some (.cells #[.int .i64 c0, .int .i64 c1, .int .i64 c2, .int .i64 c3] 53 (0, 0)) ∧ Below (q + 2) V3 W') ⟨cell_of_row _ _ 0 _ _ (0, 0) g0, cell_of_row _ _ 1 _ _ (0, 0) g0, cell_of_row _ _ 2 _ _ (0, 0) g0, cell_of_row _ _ 3 _ _ (0, 0) g0⟩ (fun hS => ?_) ?_
    · skip
      have hSB : ∀ U : World, Below (q + 3) V3 U → U.cell? ⟨q, 0, none⟩ = some (.int .i64 b0) ∧ U.cell? ⟨q, 1, none⟩ = some (.int .i64 b1) ∧ U.cell? ⟨q, 2, none⟩ = some (.int .i64 b2) ∧ U.cell? ⟨q, 3, none⟩ = some (.int .i64 b3) := fun U h => ⟨(h.cell (p := ⟨q, 0, none⟩) (by simp only; omega)).trans (cell_of_row _ _ 0 _ _ (0, 0) g0), (h.cell (p := ⟨q, 1, none⟩) (by simp only; omega)).trans (cell_of_row _ _ 1 _ _ (0, 0) g0), (h.cell (p := ⟨q, 2, none⟩) (by simp only; omega)).trans (cell_of_row _ _ 2 _ _ (0, 0) g0), (h.cell (p := ⟨q, 3, none⟩) (by simp only; omega)).trans (cell_of_row _ _ 3 _ _ (0, 0) g0)⟩
      have bV : Below V3.heap.size V3 V3.drew := (Below.refl _ _).drew
      generalize V3.drew = V0 at *
      refine wpAnyL_take (i := 0) (v := .agg #[.int .i64 b0, .int .i64 b1, .int .i64 b2, .int .i64 b3]) rfl (by kernel_rfl) (by kernel_rfl) (by kernel_rfl) (fun _ _ _ h => h) (Or.inl ⟨by rfl, ?_⟩) hS ?_
      · intro U hU
        obtain ⟨s0, s1, s2, s3⟩ := hU
        go_simp
      simp only [Act.put, List.setIfInBounds_toArray, List.set_cons_zero, List.set_cons_succ]
      refine wpAnyL_take (i := 1) (v := .int .i64 x) rfl (by kernel_rfl) (by kernel_rfl) (by kernel_rfl) (fun _ _ _ h => h) (Or.inl ⟨by rfl, ?_⟩) hS ?_
      · intro U hU
        obtain ⟨s0, s1, s2, s3⟩ := hU
        go_simp
      simp only [Act.put, List.setIfInBounds_toArray, List.set_cons_zero, List.set_cons_succ]
      refine wpAnyL_take (i := 2) (v := .int .i64 sd) rfl (by kernel_rfl) (by kernel_rfl) (by kernel_rfl) (fun _ _ _ h => h) (Or.inl ⟨by rfl, ?_⟩) hS ?_
      · intro U hU
        obtain ⟨s0, s1, s2, s3⟩ := hU
        go_simp
      simp only [Act.put, List.setIfInBounds_toArray, List.set_cons_zero, List.set_cons_succ]
      refine wpAnyL_take (i := 3) (v := .int .i64 sx0) rfl (by kernel_rfl) (by kernel_rfl) (by kernel_rfl) (fun _ _ _ h => h) (Or.inl ⟨by rfl, ?_⟩) hS ?_
      · intro U hU
        obtain ⟨s0, s1, s2, s3⟩ := hU
        have hz := Z1.out
        go_simp
      simp only [Act.put, List.setIfInBounds_toArray, List.set_cons_zero, List.set_cons_succ]
      refine wpAnyL_take (i := 4) (v := .int .i64 y) rfl (by kernel_rfl) (by kernel_rfl) (by kernel_rfl) (fun _ _ _ h => h) (Or.inl ⟨by rfl, ?_⟩) hS ?_
      · intro U hU
        obtain ⟨s0, s1, s2, s3⟩ := hU
        go_simp
      simp only [Act.put, List.setIfInBounds_toArray, List.set_cons_zero, List.set_cons_succ]
      refine wpAnyL_take (i := 5) (v := .int .i64 sd) rfl (by kernel_rfl) (by kernel_rfl) (by kernel_rfl) (fun _ _ _ h => h) (Or.inl ⟨by rfl, ?_⟩) hS ?_
      · intro U hU
        obtain ⟨s0, s1, s2, s3⟩ := hU
        go_simp
      simp only [Act.put, List.setIfInBounds_toArray, List.set_cons_zero, List.set_cons_succ]
      refine wpAnyL_take (i := 6) (v := .int .i64 sy0) rfl (by kernel_rfl) (by kernel_rfl) (by kernel_rfl) (fun _ _ _ h => h) (Or.inl ⟨by rfl, ?_⟩) hS ?_
      · intro U hU
        obtain ⟨s0, s1, s2, s3⟩ := hU
        have hz := Z2.out
        go_simp
      simp only [Act.put, List.setIfInBounds_toArray, List.set_cons_zero, List.set_cons_succ]
      refine wpAnyL_take (i := 7) (v := .int .i64 x) rfl (by kernel_rfl) (by kernel_rfl) (by kernel_rfl) (fun _ _ _ h => h) (Or.inl ⟨by rfl, ?_⟩) hS ?_
      · intro U hU
        obtain ⟨s0, s1, s2, s3⟩ := hU
        go_simp
      simp only [Act.put, List.setIfInBounds_toArray, List.set_cons_zero, List.set_cons_succ]
      refine wpAnyL_take (i := 8) (v := .int .i64 (x + 1)) rfl (by kernel_rfl) (by kernel_rfl) (by kernel_rfl) (fun _ _ _ h => h) (Or.inl ⟨by rfl, ?_⟩) hS ?_
      · intro U hU
        obtain ⟨s0, s1, s2, s3⟩ := hU
        have hz := Z5.out
        go_simp
      simp only [Act.put, List.setIfInBounds_toArray, List.set_cons_zero, List.set_cons_succ]
      refine wpAnyL_take (i := 9) (v := .int .i64 sd) rfl (by kernel_rfl) (by kernel_rfl) (by kernel_rfl) (fun _ _ _ h => h) (Or.inl ⟨by rfl, ?_⟩) hS ?_
      · intro U hU
        obtain ⟨s0, s1, s2, s3⟩ := hU
        go_simp
      simp only [Act.put, List.setIfInBounds_toArray, List.set_cons_zero, List.set_cons_succ]
      refine wpAnyL_take (i := 10) (v := .int .i64 sx1) rfl (by kernel_rfl) (by kernel_rfl) (by kernel_rfl) (fun _ _ _ h => h) (Or.inl ⟨by rfl, ?_⟩) hS ?_
      · intro U hU
        obtain ⟨s0, s1, s2, s3⟩ := hU
        have hz := Z3.out
        go_simp
      simp only [Act.put, List.setIfInBounds_toArray, List.set_cons_zero, List.set_cons_succ]
      refine wpAnyL_take (i := 11) (v := .int .i64 y) rfl (by kernel_rfl) (by kernel_rfl) (by kernel_rfl) (fun _ _ _ h => h) (Or.inl ⟨by rfl, ?_⟩) hS ?_
      · intro U hU
        obtain ⟨s0, s1, s2, s3⟩ := hU
        go_simp
      simp only [Act.put, List.setIfInBounds_toArray, List.set_cons_zero, List.set_cons_succ]
      refine wpAnyL_take (i := 12) (v := .int .i64 (y + 1)) rfl (by kernel_rfl) (by kernel_rfl) (by kernel_rfl) (fun _ _ _ h => h) (Or.inl ⟨by rfl, ?_⟩) hS ?_
      · intro U hU
        obtain ⟨s0, s1, s2, s3⟩ := hU
        have hz := Z6.out
        go_simp
      simp only [Act.put, List.setIfInBounds_toArray, List.set_cons_zero, List.set_cons_succ]
      refine wpAnyL_take (i := 13) (v := .int .i64 sd) rfl (by kernel_rfl) (by kernel_rfl) (by kernel_rfl) (fun _ _ _ h => h) (Or.inl ⟨by rfl, ?_⟩) hS ?_
      · intro U hU
        obtain ⟨s0, s1, s2, s3⟩ := hU
        go_simp
      simp only [Act.put, List.setIfInBounds_toArray, List.set_cons_zero, List.set_cons_succ]
      refine wpAnyL_take (i := 14) (v := .int .i64 sy1) rfl (by kernel_rfl) (by kernel_rfl) (by kernel_rfl) (fun _ _ _ h => h) (Or.inl ⟨by rfl, ?_⟩) hS ?_
      · intro U hU
        obtain ⟨s0, s1, s2, s3⟩ := hU
        have hz := Z4.out
        go_simp
      simp only [Act.put, List.setIfInBounds_toArray, List.set_cons_zero, List.set_cons_succ]
      refine wpAnyL_take (i := 15) (v := .agg #[.int .i64 sx0, .int .i64 sy0, .int .i64 sx1, .int .i64 sy1]) rfl (by kernel_rfl) (by kernel_rfl) (by kernel_rfl) (fun _ _ _ h => h) (Or.inl ⟨by rfl, ?_⟩) hS ?_
      · intro U hU
        obtain ⟨s0, s1, s2, s3⟩ := hU
        go_simp
      simp only [Act.put, List.setIfInBounds_toArray, List.set_cons_zero, List.set_cons_succ]
      refine wpAnyL_ready (rs := [16]) (by kernel_rfl) (by simp) ?_
      refine AllReadyL.cons (by simp only [List.getElem?_toArray, List.getElem?_cons_succ, List.getElem?_cons_zero]; rfl) (fun K' hK' => ?_) AllReadyL.nil
      go_simp
      go_at_call 47
      refine (HB.out _).mono ?_
      rintro e U1 ⟨rfl, hb1⟩
      have b1 := below_trans bV hb1
      have hS := hSB _ (b1.mono (show q + 3 ≤ V3.heap.size from hsz))
      dsimp only
      refine hK'.out _ _ hS (fun _ => ?_)
      clear hK' K'
      try simp only [Act.put, List.setIfInBounds_toArray, List.set_cons_zero, List.set_cons_succ]
      refine wpAnyL_ready (rs := [17]) (by kernel_rfl) (by simp) ?_
      refine AllReadyL.last (by simp only [List.getElem?_toArray, List.getElem?_cons_succ, List.getElem?_cons_zero]; rfl) (by kernel_rfl) (fun K' hK' => ?_)
      have gz := (b1.block (q + 2) (by omega)).trans g2
      have d0 : U1.cell? ⟨q + 1 + 1, 0, none⟩ = some (.int .i64 0) := cell_of_row _ _ 0 _ _ (0, 0) gz
      have d1 : U1.cell? ⟨q + 1 + 1, 1, none⟩ = some (.int .i64 0) := cell_of_row _ _ 1 _ _ (0, 0) gz
      have d2 : U1.cell? ⟨q + 1 + 1, 2, none⟩ = some (.int .i64 0) := cell_of_row _ _ 2 _ _ (0, 0) gz
      have d3 : U1.cell? ⟨q + 1 + 1, 3, none⟩ = some (.int .i64 0) := cell_of_row _ _ 3 _ _ (0, 0) gz
      have dz : ∀ i, U1.frozen? ⟨q + 1 + 1, i, none⟩ = false := fun i => frozen_of_row _ _ i _ _ gz
      go_simp
      obtain ⟨U2, hV, g9, b9⟩ : ∃ V, ((((U1.setCell ⟨q + 1 + 1, 0, none⟩ (.int .i64 c0)).setCell ⟨q + 1 + 1, 1, none⟩ (.int .i64 c1)).setCell ⟨q + 1 + 1, 2, none⟩ (.int .i64 c2)).setCell ⟨q + 1 + 1, 3, none⟩ (.int .i64 c3)) = V ∧ V.heap[q + 1 + 1]? = some (.cells #[.int .i64 c0, .int .i64 c1, .int .i64 c2, .int .i64 c3] 53 (0, 0)) ∧ Below (q + 2) V3 V := ⟨_, rfl, setRow_at (old := [.int .i64 0, .int .i64 0, .int .i64 0, .int .i64 0]) [.int .i64 c0, .int .i64 c1, .int .i64 c2, .int .i64 c3] rfl gz, setRow_below (Nat.le_refl _) [.int .i64 c0, .int .i64 c1, .int .i64 c2, .int .i64 c3] 0 _ (b1.mono (by omega))⟩
      rw [hV]
      clear hV
      refine hK'.out _ _ (?_)
      clear d0 d1 d2 d3 dz
      clear hK' K'
      try simp only [Act.put, List.setIfInBounds_toArray, List.set_cons_zero, List.set_cons_succ]
      refine wpAnyL_done (by kernel_rfl) ?_ _
      simp only [OnlyN]
      refine ⟨?_, g9, b9⟩
      first | trivial | rfl
    rintro a' V4 ⟨rfl, gz, hb4⟩
    simp only [Act.put, List.setIfInBounds_toArray, List.set_cons_zero, List.set_cons_succ]
    have d0 : V4.cell? ⟨q + 1 + 1, 0, none⟩ = some (.int .i64 c0) := cell_of_row _ _ 0 _ _ (0, 0) gz
    have d1 : V4.cell? ⟨q + 1 + 1, 1, none⟩ = some (.int .i64 c1) := cell_of_row _ _ 1 _ _ (0, 0) gz
    have d2 : V4.cell? ⟨q + 1 + 1, 2, none⟩ = some (.int .i64 c2) := cell_of_row _ _ 2 _ _ (0, 0) gz
    have d3 : V4.cell? ⟨q + 1 + 1, 3, none⟩ = some (.int .i64 c3) := cell_of_row _ _ 3 _ _ (0, 0) gz
    go_wp2_with fail
    refine bodyPost_ret (v := .agg #[.int .i64 c0, .int .i64 c1, .int .i64 c2, .int .i64 c3]) (by simp [results, Try.results60, go_sem, d0, d1, d2, d3]) rfl ⟨rfl, ?_⟩
    rw [hq]
    exact bb.trans (hb4.mono (by omega))
end Go.Proofs.Ytmieoifagnpbiaa
