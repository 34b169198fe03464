/- CONTRACTS of waveletref12.Resolution, Precincts, meet. -/
import Derived.Test.YtpgkdpoehkdhcaaPlaLaw
import Derived.Test.YtpgkdpoehkdhcaaRef12b
namespace Go.Proofs.Ytpgkdpoehkdhcaa
open Go.RowKit
set_option maxHeartbeats 4000000
set_option linter.unusedVariables false
set_option linter.unusedSimpArgs false
set_option maxRecDepth 100000

theorem resolutionR_any (R : Rc) (lv r k : Nat) (hl : lv = r + k) (hk : k ≤ 20) (hr : r ≤ 1024) (hR : okR R) (w : World) :
    Calls Try.prog 18 #[rcV R, .int .i64 lv, .int .i64 r] w fun e w' => e = .returned (rcV (resR R k)) ∧ Below w.heap.size w w' := by
  obtain ⟨m, hm, m1, m2⟩ : ∃ m : Nat, 2 ^ k = m ∧ 1 ≤ m ∧ m ≤ 1048576 := ⟨_, rfl, Nat.one_le_two_pow, Nat.pow_le_pow_right (by omega) hk⟩
  have H := Lib.hid (fun v => by
    have := over12_any R m m 0 0 hR.1 hR.2.1 hR.2.2.1 hR.2.2.2 (by omega) (by omega) (by omega) (by omega) v
    simp only [Int.sub_zero] at this
    rw [show (⟨clI R.x0 m, clI R.y0 m, clI R.x1 m, clI R.y1 m⟩ : Rc) = resR R k by rw [← hm]; simp only [clI_ce]; rfl] at this
    exact this)
  have u1 : (lv : Int) - r = (k : Int) := by omega
  have q1 : wrap64 (2 ^ k) = (m : Int) := by
    rw [show (2 : Int) ^ k = ((2 ^ k : Nat) : Int) by simp, hm]; exact IntWalk.wrap64_in _ (by omega)
  have hd1 : ¬ ((k : Int) < 0) := by omega
  have hk2 : k ≤ 20 := hk
  clear hl hR hm
  obtain ⟨Z, hZ⟩ : ∃ Z, resR R k = Z := ⟨_, rfl⟩
  rw [hZ] at H ⊢
  clear hZ
  obtain ⟨x0, y0, x1, y1⟩ := R
  obtain ⟨a0, b0, a1, b1⟩ := Z
  unfold rcV at *
  simp only at *
  go_enter Try.func18, Try.ntmps18
  go_wp2_with fail
  generalize hw2 : World.alloc (World.alloc w _) _ = w2
  have d0 : w2.cell? ⟨w.heap.size + 1, 0, none⟩ = some (.int .i64 0) := by rw [← hw2]; simp [go_sem]
  have d1 : w2.cell? ⟨w.heap.size + 1, 1, none⟩ = some (.int .i64 0) := by rw [← hw2]; simp [go_sem]
  have d2 : w2.cell? ⟨w.heap.size + 1, 2, none⟩ = some (.int .i64 0) := by rw [← hw2]; simp [go_sem]
  have d3 : w2.cell? ⟨w.heap.size + 1, 3, none⟩ = some (.int .i64 0) := by rw [← hw2]; simp [go_sem]
  have lt : w.heap.size + 1 < w2.heap.size := by rw [← hw2]; simp
  have dz : ∀ k, w2.frozen? ⟨w.heap.size + 1, k, none⟩ = false := fun k => by rw [← hw2]; simp [go_sem]
  have bb : Below w.heap.size w w2 := by rw [← hw2]; exact below_alloc (below_alloc (Below.refl _ _) _) _
  clear hw2
  refine (H.out w2).mono ?_
  rintro e w3 ⟨rfl, hb3⟩
  have d0 := (hb3.cell (p := ⟨w.heap.size + 1, 0, none⟩) lt).trans d0
  have d1 := (hb3.cell (p := ⟨w.heap.size + 1, 1, none⟩) lt).trans d1
  have d2 := (hb3.cell (p := ⟨w.heap.size + 1, 2, none⟩) lt).trans d2
  have d3 := (hb3.cell (p := ⟨w.heap.size + 1, 3, none⟩) lt).trans d3
  have dz := fun k => (hb3.frozen (p := ⟨w.heap.size + 1, k, none⟩) lt).trans (dz k)
  have bb := below_trans bb hb3
  have bz := (((bb.setCell (p := ⟨w.heap.size + 1, 0, none⟩) (by simp only; omega) (.int .i64 a0)).setCell (p := ⟨w.heap.size + 1, 1, none⟩) (by simp only; omega) (.int .i64 b0)).setCell (p := ⟨w.heap.size + 1, 2, none⟩) (by simp only; omega) (.int .i64 a1)).setCell (p := ⟨w.heap.size + 1, 3, none⟩) (by simp only; omega) (.int .i64 b1)
  clear hb3 bb
  go_wp2_with fail
  refine bodyPost_ret (v := .agg #[.int .i64 a0, .int .i64 b0, .int .i64 a1, .int .i64 b1]) (by simp [results, Try.results18, go_sem, d0, d1, d2, d3]) rfl ⟨rfl, bz⟩

/-- a rectangle within a million -/
def midR (r : Rc) : Prop := (-1048576 ≤ r.x0 ∧ r.x0 ≤ 1048576) ∧ (-1048576 ≤ r.y0 ∧ r.y0 ≤ 1048576) ∧ (-1048576 ≤ r.x1 ∧ r.x1 ≤ 1048576) ∧ (-1048576 ≤ r.y1 ∧ r.y1 ≤ 1048576)
theorem tdiv_fl {a : Int} {k : Nat} {m : Nat} (h : 2 ^ k = m) (ha : 0 ≤ a) : a.tdiv (m : Int) = flI a k := by
  unfold flI
  rw [Int.tdiv_eq_ediv_of_nonneg ha, ← h, pow_cast]
theorem precinctsR_any (R : Rc) (pr : Nat) (hp : pr ≤ 20) (hR : okR R) (hP : placeR R) (hM : midR R) (w : World) :
    Calls Try.prog 17 #[rcV R, .int .i64 pr] w fun e w' => e = .returned (.tuple #[.int .i64 (preW R pr), .int .i64 (preH R pr)]) ∧ Below w.heap.size w w' := by
  obtain ⟨m, hm, m1, m2⟩ : ∃ m : Nat, 2 ^ pr = m ∧ 1 ≤ m ∧ m ≤ 1048576 := ⟨_, rfl, Nat.one_le_two_pow, Nat.pow_le_pow_right (by omega) hp⟩
  have hE := Lib.hid (areaR_any R hM.1 hM.2.1 hM.2.2.1 hM.2.2.2)
  have hA0 := area0 R
  obtain ⟨x0, y0, x1, y1⟩ := R
  obtain ⟨h0, h1, h2, h3⟩ := hR
  obtain ⟨g0, g1, g2, g3⟩ := hP
  simp only at h0 h1 h2 h3 g0 g1 g2 g3
  have b0 := flI_bd h0 (k := pr) (by omega)
  have b1 := flI_bd h1 (k := pr) (by omega)
  have b2 := ceI_bd h2 (k := pr) (by omega)
  have b3 := ceI_bd h3 (k := pr) (by omega)
  have t0 := tdiv_fl hm g0
  have t1 := tdiv_fl hm g1
  have C2 := fun v => ceil12_any x1 m (by omega) (by omega) v
  have C3 := fun v => ceil12_any y1 m (by omega) (by omega) v
  rw [show clI x1 m = ceI x1 pr by rw [← hm]; exact clI_ce _ _] at C2
  rw [show clI y1 m = ceI y1 pr by rw [← hm]; exact clI_ce _ _] at C3
  have q1 : wrap64 (2 ^ pr) = (m : Int) := by
    rw [show (2 : Int) ^ pr = ((2 ^ pr : Nat) : Int) by simp, hm]; exact IntWalk.wrap64_in _ (by omega)
  have hd1 : ¬ ((pr : Int) < 0) := by omega
  have hz : ((m : Int) = 0) = False := eq_false (Int.ne_of_gt (Int.ofNat_lt.2 m1))
  unfold preW preH
  simp only
  generalize flI x0 pr = f0 at *
  generalize flI y0 pr = f1 at *
  generalize ceI x1 pr = c2 at *
  generalize ceI y1 pr = c3 at *
  generalize emptyB ⟨x0, y0, x1, y1⟩ = em at *
  generalize areaR ⟨x0, y0, x1, y1⟩ = ar at *
  obtain ⟨dx, hdx⟩ : ∃ z : Int, c2 - f0 = z := ⟨_, rfl⟩
  obtain ⟨dy, hdy⟩ : ∃ z : Int, c3 - f1 = z := ⟨_, rfl⟩
  have e1 : IntKind.i64.wrap (c2 - f0) = dx := by rw [hdx]; exact wr (by omega)
  have e2 : IntKind.i64.wrap (c3 - f1) = dy := by rw [hdy]; exact wr (by omega)
  have z0 : IntKind.i64.wrap f0 = f0 := wr (by omega)
  have z1 : IntKind.i64.wrap f1 = f1 := wr (by omega)
  rw [hdx, hdy]
  have G2 := Lib.hid C2
  have G3 := Lib.hid C3
  clear C2 C3 b0 b1 b2 b3 h0 h1 h2 h3 hdx hdy hm g0 g1 g2 g3 hM
  unfold rcV at *
  simp only at hE ⊢
  go_enter Try.func17, Try.ntmps17
  go_wp2_with fail
  obtain ⟨w1, hw1⟩ : ∃ w1, w1 = w.alloc (.cells #[.int .i64 x0, .int .i64 y0, .int .i64 x1, .int .i64 y1] 38) := ⟨_, rfl⟩
  have hg : w1.heap[w.heap.size]? = some (.cells #[.int .i64 x0, .int .i64 y0, .int .i64 x1, .int .i64 y1] 38 (0, 0)) := by rw [hw1]; exact heap_alloc_new w _
  have hb1 : Below w.heap.size w w1 := by rw [hw1]; exact below_alloc (Below.refl _ w) _
  have hs1 : w1.heap.size = w.heap.size + 1 := by rw [hw1]; simp
  rw [← hw1]
  clear hw1
  refine (hE.out w1).mono ?_
  rintro e w2 ⟨rfl, hb2⟩
  have hg2 := (hb2.block w.heap.size (by omega)).trans hg
  have k0 : w2.cell? ⟨w.heap.size, 0, none⟩ = some (.int .i64 x0) := cell_of_row _ _ 0 _ _ (0, 0) hg2
  have k1 : w2.cell? ⟨w.heap.size, 1, none⟩ = some (.int .i64 y0) := cell_of_row _ _ 1 _ _ (0, 0) hg2
  have k2 : w2.cell? ⟨w.heap.size, 2, none⟩ = some (.int .i64 x1) := cell_of_row _ _ 2 _ _ (0, 0) hg2
  have k3 : w2.cell? ⟨w.heap.size, 3, none⟩ = some (.int .i64 y1) := cell_of_row _ _ 3 _ _ (0, 0) hg2
  have hbb := below_trans hb1 hb2
  clear hg hb1 hs1 hb2 hg2
  cases em
  · have hne : ¬ ar = 0 := by simpa using hA0
    clear hA0
    go_wp2_with fail
    go_quiet (first | (go_at_call 24; first | (with_reducible exact Calls.quiet_of_same (G2.out _)) | (with_reducible exact Calls.quiet_of_same (G3.out _))))
    go_wp2_with fail
    refine bodyPost_ret (v := .tuple #[.int .i64 dx, .int .i64 dy]) (by simp [results, Try.results17, go_sem]) rfl ⟨rfl, below_drewN hbb _⟩
  · obtain rfl : ar = 0 := by simpa using hA0
    clear hA0
    go_wp2_with fail
    refine bodyPost_ret (v := .tuple #[.int .i64 0, .int .i64 0]) (by simp [results, Try.results17, go_sem]) rfl ⟨rfl, hbb⟩
end Go.Proofs.Ytpgkdpoehkdhcaa
