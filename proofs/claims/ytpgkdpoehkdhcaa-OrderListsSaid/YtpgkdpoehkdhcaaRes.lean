/- CONTRACTS of canvas.Resolution, known, Precincts. -/
import Derived.Test.YtpgkdpoehkdhcaaPart12
import Derived.Test.YtpgkdpoehkdhcaaTake
import Derived.BigQuiet
namespace Go.Proofs.Ytpgkdpoehkdhcaa
open Go.RowKit
set_option maxRecDepth 100000
set_option maxHeartbeats 2000000
set_option linter.unusedVariables false
set_option linter.unusedSimpArgs false

theorem each_res (x0 y0 x1 y1 : Int) (a0 b0 a1 b1 : Int) (p q : Value) (w : World)
    (h0 : ∀ V, Below w.heap.size w V → Calls Try.prog 50 #[.int .i64 x0, p, q] V fun e w' => e = .returned (.int .i64 a0) ∧ w' = V)
    (h1 : ∀ V, Below w.heap.size w V → Calls Try.prog 50 #[.int .i64 y0, p, q] V fun e w' => e = .returned (.int .i64 b0) ∧ w' = V)
    (h2 : ∀ V, Below w.heap.size w V → Calls Try.prog 50 #[.int .i64 x1, p, q] V fun e w' => e = .returned (.int .i64 a1) ∧ w' = V)
    (h3 : ∀ V, Below w.heap.size w V → Calls Try.prog 50 #[.int .i64 y1, p, q] V fun e w' => e = .returned (.int .i64 b1) ∧ w' = V) :
    Calls Try.prog 52 #[.agg #[.int .i64 x0, .int .i64 y0, .int .i64 x1, .int .i64 y1], .func (.func 50) #[] #[p, q], .func (.func 50) #[] #[p, q]] w fun e w' => e = .returned (.agg #[.int .i64 a0, .int .i64 b0, .int .i64 a1, .int .i64 b1]) ∧ Below w.heap.size w w' := by
  have H0 := Lib.hid h0
  have H1 := Lib.hid h1
  have H2 := Lib.hid h2
  have H3 := Lib.hid h3
  clear h0 h1 h2 h3
  go_enter Try.func52, Try.ntmps52
  go_wp2_with fail
  generalize hw2 : World.alloc (World.alloc w _) _ = w2
  have c0 : w2.drew.cell? ⟨w.heap.size, 0, none⟩ = some (.int .i64 x0) := by rw [← hw2]; simp [go_sem]
  have c1 : w2.drew.cell? ⟨w.heap.size, 1, none⟩ = some (.int .i64 y0) := by rw [← hw2]; simp [go_sem]
  have c2 : w2.drew.cell? ⟨w.heap.size, 2, none⟩ = some (.int .i64 x1) := by rw [← hw2]; simp [go_sem]
  have c3 : w2.drew.cell? ⟨w.heap.size, 3, none⟩ = some (.int .i64 y1) := by rw [← hw2]; simp [go_sem]
  refine wp_region_still_tail 17 (by kernel_rfl) (by kernel_rfl) ?_
  simp only [List.take_succ_cons, List.take_zero, List.drop_succ_cons, List.drop_zero]
  change wpStill _ _ w2.drew (fun a' => wpList _ _ _ _ a' w2.drew) _ _
  have rr : ∃ u0 u1 u2 u3, w2.drew.heap[w.heap.size + 1]? = some (.cells #[u0, u1, u2, u3] 38 (0, 0)) := ⟨_, _, _, _, by rw [← hw2]; exact heap_alloc_new3 w _ _⟩
  have bb : Below w.heap.size w w2.drew := by rw [← hw2]; exact (below_alloc (below_alloc (Below.refl _ _) _) _).drew
  clear hw2
  generalize World.drew w2 = w3 at *
  obtain ⟨u0, u1, u2, u3, rr⟩ := rr
  have d0 : w3.cell? ⟨w.heap.size + 1, 0, none⟩ = some u0 := by simp [World.cell?, rr]
  have d1 : w3.cell? ⟨w.heap.size + 1, 1, none⟩ = some u1 := by simp [World.cell?, rr]
  have d2 : w3.cell? ⟨w.heap.size + 1, 2, none⟩ = some u2 := by simp [World.cell?, rr]
  have d3 : w3.cell? ⟨w.heap.size + 1, 3, none⟩ = some u3 := by simp [World.cell?, rr]
  have dz : ∀ k, w3.frozen? ⟨w.heap.size + 1, k, none⟩ = false := fun k => by simp [World.frozen?, rr]
  have bz := (((bb.setCell (p := ⟨w.heap.size + 1, 0, none⟩) (Nat.le_succ _) (.int .i64 a0)).setCell (p := ⟨w.heap.size + 1, 1, none⟩) (Nat.le_succ _) (.int .i64 b0)).setCell (p := ⟨w.heap.size + 1, 2, none⟩) (Nat.le_succ _) (.int .i64 a1)).setCell (p := ⟨w.heap.size + 1, 3, none⟩) (Nat.le_succ _) (.int .i64 b1)
  have BB := Lib.hid bb
  clear bb rr
  repeat (first | still_step | (refine wpStill_step (fun K hK => ?_); go_simp; (first | (with_reducible refine ⟨_, H0.out _ BB.out, hK _ ?_⟩) | (with_reducible refine ⟨_, H1.out _ BB.out, hK _ ?_⟩) | (with_reducible refine ⟨_, H2.out _ BB.out, hK _ ?_⟩) | (with_reducible refine ⟨_, H3.out _ BB.out, hK _ ?_⟩)); clear hK K))
  try refine wpStill_nil ?_
  go_wp2_with fail
  refine bodyPost_ret (v := .agg #[.int .i64 a0, .int .i64 b0, .int .i64 a1, .int .i64 b1]) (by simp [results, Try.results52, go_sem, d0, d1, d2, d3]) rfl ⟨rfl, bz⟩

def okR (r : Rc) : Prop := (-1073741824 ≤ r.x0 ∧ r.x0 ≤ 1073741824) ∧ (-1073741824 ≤ r.y0 ∧ r.y0 ≤ 1073741824) ∧ (-1073741824 ≤ r.x1 ∧ r.x1 ≤ 1073741824) ∧ (-1073741824 ≤ r.y1 ∧ r.y1 ≤ 1073741824)
def resR (c : Rc) (k : Nat) : Rc := ⟨ceI c.x0 k, ceI c.y0 k, ceI c.x1 k, ceI c.y1 k⟩
theorem res1_any (x : Int) (lv r k : Nat) (hl : lv = r + k) (hk : k ≤ 40) (hr : r ≤ 1024) (hx : -1073741824 ≤ x ∧ x ≤ 1073741824) (b c : Nat) (w : World) (hb : w.cell? ⟨b, 0, none⟩ = some (.int .i64 lv)) (hc : w.cell? ⟨c, 0, none⟩ = some (.int .i64 r)) :
    Calls Try.prog 50 #[.int .i64 x, .pointer (some ⟨b, 0, none⟩), .pointer (some ⟨c, 0, none⟩)] w fun e w' => e = .returned (.int .i64 (ceI x k)) ∧ w' = w := by
  have J := Lib.hid (ceil_any x k (by omega) hk)
  have e1 : IntKind.i64.wrap ((lv : Int) - r) = (k : Int) := by rw [show (lv : Int) - r = k by omega]; exact wr (by omega)
  clear hl
  go_enter Try.func50, Try.ntmps50
  go_wp2_with (go_at_call 51; refine (J.out _).mono ?_; rintro e w' ⟨rfl, rfl⟩; dsimp only)
  go_ret
  exact ⟨rfl, rfl⟩
theorem resolution_any (R : Rc) (lv r k : Nat) (hl : lv = r + k) (hk : k ≤ 40) (hr : r ≤ 1024) (hR : okR R) (w : World) :
    Calls Try.prog 43 #[rcV R, .int .i64 lv, .int .i64 r] w fun e w' => e = .returned (rcV (resR R k)) ∧ Below w.heap.size w w' := by
  obtain ⟨x0, y0, x1, y1⟩ := R
  obtain ⟨h0, h1, h2, h3⟩ := hR
  simp only at h0 h1 h2 h3
  unfold rcV resR
  simp only
  have E := fun (V : World) (q : Nat) (hq : V.heap.size = q + 4) (c1 : V.cell? ⟨q + 1, 0, none⟩ = some (.int .i64 lv)) (c2 : V.cell? ⟨q + 1 + 1, 0, none⟩ = some (.int .i64 r)) =>
    each_res x0 y0 x1 y1 (ceI x0 k) (ceI y0 k) (ceI x1 k) (ceI y1 k) (.pointer (some ⟨q + 1, 0, none⟩)) (.pointer (some ⟨q + 1 + 1, 0, none⟩)) V
      (fun U hU => res1_any x0 lv r k hl hk hr h0 _ _ U ((hU.cell (p := ⟨q + 1, 0, none⟩) (by simp only; omega)).trans c1) ((hU.cell (p := ⟨q + 1 + 1, 0, none⟩) (by simp only; omega)).trans c2))
      (fun U hU => res1_any y0 lv r k hl hk hr h1 _ _ U ((hU.cell (p := ⟨q + 1, 0, none⟩) (by simp only; omega)).trans c1) ((hU.cell (p := ⟨q + 1 + 1, 0, none⟩) (by simp only; omega)).trans c2))
      (fun U hU => res1_any x1 lv r k hl hk hr h2 _ _ U ((hU.cell (p := ⟨q + 1, 0, none⟩) (by simp only; omega)).trans c1) ((hU.cell (p := ⟨q + 1 + 1, 0, none⟩) (by simp only; omega)).trans c2))
      (fun U hU => res1_any y1 lv r k hl hk hr h3 _ _ U ((hU.cell (p := ⟨q + 1, 0, none⟩) (by simp only; omega)).trans c1) ((hU.cell (p := ⟨q + 1 + 1, 0, none⟩) (by simp only; omega)).trans c2))
  have E := Lib.hid E
  generalize ceI x0 k = a0 at *
  generalize ceI y0 k = b0 at *
  generalize ceI x1 k = a1 at *
  generalize ceI y1 k = b1 at *
  clear hl
  go_enter Try.func43, Try.ntmps43
  go_wp2_with fail
  generalize hw2 : World.alloc (World.alloc (World.alloc (World.alloc w _) _) _) _ = w2
  have c1 : w2.cell? ⟨w.heap.size + 1, 0, none⟩ = some (.int .i64 lv) := by rw [← hw2]; simp [go_sem]
  have c2 : w2.cell? ⟨w.heap.size + 1 + 1, 0, none⟩ = some (.int .i64 r) := by rw [← hw2]; simp [go_sem]
  have d0 : w2.cell? ⟨w.heap.size + 1 + 1 + 1, 0, none⟩ = some (.int .i64 0) := by rw [← hw2]; simp [go_sem]
  have d1 : w2.cell? ⟨w.heap.size + 1 + 1 + 1, 1, none⟩ = some (.int .i64 0) := by rw [← hw2]; simp [go_sem]
  have d2 : w2.cell? ⟨w.heap.size + 1 + 1 + 1, 2, none⟩ = some (.int .i64 0) := by rw [← hw2]; simp [go_sem]
  have d3 : w2.cell? ⟨w.heap.size + 1 + 1 + 1, 3, none⟩ = some (.int .i64 0) := by rw [← hw2]; simp [go_sem]
  have hs : w2.heap.size = w.heap.size + 4 := by rw [← hw2]; simp
  have dz : ∀ k, w2.frozen? ⟨w.heap.size + 1 + 1 + 1, k, none⟩ = false := fun k => by rw [← hw2]; simp [go_sem]
  have bb : Below w.heap.size w w2 := by rw [← hw2]; exact below_alloc (below_alloc (below_alloc (below_alloc (Below.refl _ _) _) _) _) _
  clear hw2
  refine (E.out w2 _ hs c1 c2).mono ?_
  rintro e w3 ⟨rfl, hb3⟩
  have lt : w.heap.size + 1 + 1 + 1 < w2.heap.size := by omega
  have d0 := (hb3.cell (p := ⟨w.heap.size + 1 + 1 + 1, 0, none⟩) lt).trans d0
  have d1 := (hb3.cell (p := ⟨w.heap.size + 1 + 1 + 1, 1, none⟩) lt).trans d1
  have d2 := (hb3.cell (p := ⟨w.heap.size + 1 + 1 + 1, 2, none⟩) lt).trans d2
  have d3 := (hb3.cell (p := ⟨w.heap.size + 1 + 1 + 1, 3, none⟩) lt).trans d3
  have dz := fun k => (hb3.frozen (p := ⟨w.heap.size + 1 + 1 + 1, k, none⟩) lt).trans (dz k)
  have bb := below_trans bb hb3
  have bz := (((bb.setCell (p := ⟨w.heap.size + 1 + 1 + 1, 0, none⟩) (by simp only; omega) (.int .i64 a0)).setCell (p := ⟨w.heap.size + 1 + 1 + 1, 1, none⟩) (by simp only; omega) (.int .i64 b0)).setCell (p := ⟨w.heap.size + 1 + 1 + 1, 2, none⟩) (by simp only; omega) (.int .i64 a1)).setCell (p := ⟨w.heap.size + 1 + 1 + 1, 3, none⟩) (by simp only; omega) (.int .i64 b1)
  clear hb3 bb c1 c2
  go_wp2_with fail
  refine bodyPost_ret (v := .agg #[.int .i64 a0, .int .i64 b0, .int .i64 a1, .int .i64 b1]) (by simp [results, Try.results43, go_sem, d0, d1, d2, d3]) rfl ⟨rfl, bz⟩

/-- a rectangle that may come of a picture -/
def placeR (r : Rc) : Prop := 0 ≤ r.x0 ∧ 0 ≤ r.y0 ∧ r.x1 ≤ 1048576 ∧ r.y1 ≤ 1048576
/-- how many precincts there are beside one another, and above -/
def preW (r : Rc) (pr : Nat) : Int := if emptyB r then 0 else ceI r.x1 pr - flI r.x0 pr
def preH (r : Rc) (pr : Nat) : Int := if emptyB r then 0 else ceI r.y1 pr - flI r.y0 pr
theorem ceI_bd {n : Int} {k : Nat} (h : -1073741824 ≤ n ∧ n ≤ 1073741824) (hk : k ≤ 40) : -1073741824 ≤ ceI n k ∧ ceI n k ≤ 1073741824 := by
  obtain ⟨p1, p2⟩ := pow_bd hk
  unfold ceI
  generalize (2 : Int) ^ k = d at *
  constructor
  · apply Int.le_ediv_of_mul_le (by omega)
    have : -1073741824 * d ≤ -1073741824 * 1 := Int.mul_le_mul_of_nonpos_left (by omega) p1
    omega
  · apply Int.le_of_lt_add_one
    apply Int.ediv_lt_of_lt_mul (by omega)
    have : (1073741824 + 1) * d = 1073741824 * d + d := by rw [Int.add_mul, Int.one_mul]
    have h4 : 1073741824 * 1 ≤ 1073741824 * d := Int.mul_le_mul_of_nonneg_left p1 (by omega)
    omega
theorem flI_bd {n : Int} {k : Nat} (h : -1073741824 ≤ n ∧ n ≤ 1073741824) (hk : k ≤ 40) : -1073741824 ≤ flI n k ∧ flI n k ≤ 1073741824 := by
  obtain ⟨p1, p2⟩ := pow_bd hk
  unfold flI
  generalize (2 : Int) ^ k = d at *
  constructor
  · apply Int.le_ediv_of_mul_le (by omega)
    have : -1073741824 * d ≤ -1073741824 * 1 := Int.mul_le_mul_of_nonpos_left (by omega) p1
    omega
  · apply Int.le_of_lt_add_one
    apply Int.ediv_lt_of_lt_mul (by omega)
    have h4 : (1073741824 + 1) * 1 ≤ (1073741824 + 1) * d := Int.mul_le_mul_of_nonneg_left p1 (by omega)
    omega
theorem precincts_any (R : Rc) (pr : Nat) (hp : pr ≤ 40) (hR : okR R) (w : World) :
    Calls Try.prog 45 #[rcV R, .int .i64 pr] w fun e w' => e = .returned (.tuple #[.int .i64 (preW R pr), .int .i64 (preH R pr)]) ∧ Below w.heap.size w w' := by
  have hE := Lib.hid (empty_any R)
  obtain ⟨x0, y0, x1, y1⟩ := R
  obtain ⟨h0, h1, h2, h3⟩ := hR
  simp only at h0 h1 h2 h3
  have b0 := flI_bd h0 hp
  have b1 := flI_bd h1 hp
  have b2 := ceI_bd h2 hp
  have b3 := ceI_bd h3 hp
  have F0 := floor_any x0 pr (by omega) hp
  have F1 := floor_any y0 pr (by omega) hp
  have C2 := ceil_any x1 pr (by omega) hp
  have C3 := ceil_any y1 pr (by omega) hp
  unfold preW preH
  simp only
  generalize flI x0 pr = f0 at *
  generalize flI y0 pr = f1 at *
  generalize ceI x1 pr = c2 at *
  generalize ceI y1 pr = c3 at *
  generalize emptyB ⟨x0, y0, x1, y1⟩ = em at *
  obtain ⟨dx, hdx⟩ : ∃ z : Int, c2 - f0 = z := ⟨_, rfl⟩
  obtain ⟨dy, hdy⟩ : ∃ z : Int, c3 - f1 = z := ⟨_, rfl⟩
  have e1 : IntKind.i64.wrap (c2 - f0) = dx := by rw [hdx]; exact wr (by omega)
  have e2 : IntKind.i64.wrap (c3 - f1) = dy := by rw [hdy]; exact wr (by omega)
  rw [hdx, hdy]
  have G0 := Lib.hid F0
  have G1 := Lib.hid F1
  have G2 := Lib.hid C2
  have G3 := Lib.hid C3
  clear F0 F1 C2 C3 b0 b1 b2 b3 h0 h1 h2 h3 hdx hdy
  unfold rcV at *
  simp only at hE ⊢
  go_enter Try.func45, Try.ntmps45
  go_wp2_with fail
  obtain ⟨w1, hw1⟩ : ∃ w1, w1 = w.alloc (.cells #[.int .i64 x0, .int .i64 y0, .int .i64 x1, .int .i64 y1] 38) := ⟨_, rfl⟩
  have hg : w1.heap[w.heap.size]? = some (.cells #[.int .i64 x0, .int .i64 y0, .int .i64 x1, .int .i64 y1] 38 (0, 0)) := by rw [hw1]; exact heap_alloc_new w _
  have hb1 : Below w.heap.size w w1 := by rw [hw1]; exact below_alloc (Below.refl _ w) _
  have hs1 : w1.heap.size = w.heap.size + 1 := by rw [hw1]; simp
  rw [← hw1]
  clear hw1
  refine (hE.out w1).mono ?_
  rintro e w2 ⟨rfl, hb2⟩
  have hg2 := (hb2.block w.heap.size (by omega)).trans hg
  have k0 : w2.cell? ⟨w.heap.size, 0, none⟩ = some (.int .i64 x0) := cell_of_row _ _ 0 _ _ (0, 0) hg2
  have k1 : w2.cell? ⟨w.heap.size, 1, none⟩ = some (.int .i64 y0) := cell_of_row _ _ 1 _ _ (0, 0) hg2
  have k2 : w2.cell? ⟨w.heap.size, 2, none⟩ = some (.int .i64 x1) := cell_of_row _ _ 2 _ _ (0, 0) hg2
  have k3 : w2.cell? ⟨w.heap.size, 3, none⟩ = some (.int .i64 y1) := cell_of_row _ _ 3 _ _ (0, 0) hg2
  have hbb := below_trans hb1 hb2
  clear hg hb1 hs1 hb2 hg2
  cases em
  · go_wp2_with fail
    go_quiet (first | (go_at_call 56; first | (with_reducible exact Calls.quiet_of_same (G0.out _)) | (with_reducible exact Calls.quiet_of_same (G1.out _))) | (go_at_call 51; first | (with_reducible exact Calls.quiet_of_same (G2.out _)) | (with_reducible exact Calls.quiet_of_same (G3.out _))))
    go_wp2_with fail
    refine bodyPost_ret (v := .tuple #[.int .i64 dx, .int .i64 dy]) (by simp [results, Try.results45, go_sem]) rfl ⟨rfl, below_drewN hbb _⟩
  · go_wp2_with fail
    refine bodyPost_ret (v := .tuple #[.int .i64 0, .int .i64 0]) (by simp [results, Try.results45, go_sem]) rfl ⟨rfl, hbb⟩
end Go.Proofs.Ytpgkdpoehkdhcaa
