/- CONTRACT of canvas.Blocks. -/
import Derived.Test.YtmieoifagnpbiaaCPart12
import Derived.Test.YtmieoifagnpbiaaTiles
import Derived.Test.YtmieoifagnpbiaaRound
import Derived.Deep.RegionLaw
import Derived.Deep.CutBlock
namespace Go.Proofs.Ytmieoifagnpbiaa
open Go.RowKit Go.Shelf
attribute [local go_sem] Oper.semAt_some
set_option maxHeartbeats 16000000
set_option linter.unusedVariables false
set_option linter.unusedSimpArgs false
set_option maxRecDepth 100000

def blkS (r pr : Nat) : Nat := if r = 0 then pr else pr - 1
def bW (a : Rc) (w : Nat) : Nat := (ceI a.x1 w - flI a.x0 w).toNat
def bH (a : Rc) (h : Nat) : Nat := (ceI a.y1 h - flI a.y0 h).toNat
def blkR (a : Rc) (w h : Nat) (c : Nat × Nat) : Rc := bothR a ⟨((c.1 : Int) + flI a.x0 w) * 2 ^ w, ((c.2 : Int) + flI a.y0 h) * 2 ^ h, ((c.1 : Int) + flI a.x0 w + 1) * 2 ^ w, ((c.2 : Int) + flI a.y0 h + 1) * 2 ^ h⟩
def blksW (a : Rc) (w : Nat) : Nat := if emptyB a then 0 else bW a w
def blksN (a : Rc) (w h : Nat) : Nat := if emptyB a then 0 else bW a w * bH a h
/-- within 1024 -/
def smallR (r : Rc) : Prop := 0 ≤ r.x0 ∧ 0 ≤ r.y0 ∧ r.x1 ≤ 1024 ∧ r.y1 ≤ 1024
theorem span_bd {a b : Int} {k : Nat} (h0 : 0 ≤ a) (h1 : a < b) (h2 : b ≤ 1024) (hk : k ≤ 40) : 0 ≤ flI a k ∧ flI a k ≤ 1024 ∧ 1 ≤ ceI b k - flI a k ∧ ceI b k - flI a k ≤ 1024 ∧ ceI b k ≤ 1024 := by
  obtain ⟨p1, p2⟩ := pow_bd hk
  unfold ceI flI
  generalize (2 : Int) ^ k = d at *
  have k0 : 0 ≤ a / d := Int.ediv_nonneg h0 (by omega)
  have k1 : a / d + 1 ≤ (b + d - 1) / d := by
    have : (a + d) / d = a / d + 1 := Int.add_ediv_of_dvd_right (Int.dvd_refl d) |>.trans (by rw [Int.ediv_self (by omega)])
    rw [← this]
    exact Int.ediv_le_ediv (by omega) (by omega)
  have k2 : (b + d - 1) / d ≤ b := by
    apply Int.le_of_lt_add_one
    apply Int.ediv_lt_of_lt_mul (by omega)
    have : (b + 1) * d = b * d + d := by rw [Int.add_mul, Int.one_mul]
    have h4 : b * 1 ≤ b * d := Int.mul_le_mul_of_nonneg_left p1 (by omega)
    omega
  omega
theorem shl_ok {z : Int} {k : Nat} (h0 : 0 ≤ z) (h1 : z ≤ 4096) (hk : k ≤ 15) : IntKind.i64.wrap (z * 2 ^ k) = z * 2 ^ k := by
  obtain ⟨p1, p2⟩ := pow_bd15 hk
  have := mul_bd h0 h1 (by omega : (0 : Int) ≤ 2 ^ k) p2
  exact wr (by omega)
theorem heap_at0 (w : World) (o1 o2 o3 o4 : Obj) : ((((w.alloc o1).alloc o2).alloc o3).alloc o4).heap[w.heap.size]? = some o1 :=
  (Below.heap_alloc _ _ _ (by simp; omega)).trans ((Below.heap_alloc _ _ _ (by simp; omega)).trans ((Below.heap_alloc _ _ _ (by simp)).trans (heap_alloc_new w _)))
theorem heap_at1 (w : World) (o1 o2 o3 o4 : Obj) : ((((w.alloc o1).alloc o2).alloc o3).alloc o4).heap[w.heap.size + 1]? = some o2 :=
  (Below.heap_alloc _ _ _ (by simp)).trans ((Below.heap_alloc _ _ _ (by simp)).trans (heap_alloc_new3 w _ _))
theorem heap_at2 (w : World) (o1 o2 o3 o4 : Obj) : ((((w.alloc o1).alloc o2).alloc o3).alloc o4).heap[w.heap.size + 2]? = some o3 := by
  have := heap_alloc_new ((w.alloc o1).alloc o2) o3
  rw [World.size_alloc, World.size_alloc] at this
  exact (Below.heap_alloc _ _ _ (by simp)).trans this
theorem heap_at3 (w : World) (o1 o2 o3 o4 : Obj) : ((((w.alloc o1).alloc o2).alloc o3).alloc o4).heap[w.heap.size + 3]? = some o4 := by
  have := heap_alloc_new (((w.alloc o1).alloc o2).alloc o3) o4
  rwa [World.size_alloc, World.size_alloc, World.size_alloc] at this
/-- the boxed parameters, and the result's box -/
structure BlkS (q : Nat) (w0 : World) (B C P : Array Value) (V : World) : Prop where
  band : V.heap[q]? = some (.cells B 53 (0, 0))
  res : V.heap[q + 1]? = some (.cells C 53 (0, 0))
  par : V.heap[q + 2]? = some (.cells P 27 (0, 0))
  out : V.heap[q + 3]? = some (.cells #[.slice none 0 0] 49 (0, 0))
  bel : Below q w0 V
  sz : q + 4 ≤ V.heap.size
theorem BlkS.go {q : Nat} {w0 V V' : World} {B C P : Array Value} (h : BlkS q w0 B C P V) (hb : Below V.heap.size V V') : BlkS q w0 B C P V' := by
  have hz := h.sz
  exact ⟨(hb.block _ (by omega)).trans h.band, (hb.block _ (by omega)).trans h.res, (hb.block _ (by omega)).trans h.par, (hb.block _ (by omega)).trans h.out, h.bel.trans (hb.mono (by omega)), Nat.le_trans hz hb.size⟩
theorem part_bd {band res : Rc} {pr sd k : Nat} (hB : smallR band) (he : emptyB (partR band res pr sd k) = false) :
    0 ≤ (partR band res pr sd k).x0 ∧ (partR band res pr sd k).x0 < (partR band res pr sd k).x1 ∧ (partR band res pr sd k).x1 ≤ 1024 ∧ 0 ≤ (partR band res pr sd k).y0 ∧ (partR band res pr sd k).y0 < (partR band res pr sd k).y1 ∧ (partR band res pr sd k).y1 ≤ 1024 := by
  obtain ⟨h0, h1, h2, h3⟩ := hB
  have he' := he
  unfold emptyB at he
  simp only [Bool.or_eq_false_iff, decide_eq_false_iff_not] at he
  refine ⟨?_, by omega, ?_, ?_, by omega, ?_⟩
  all_goals unfold partR
  all_goals split
  all_goals (try simp only; try omega)
  all_goals simp only [bothR, mxI, mnI]
  all_goals split <;> omega
/-- what stays through the rounds -/
def BlkO (q D gw gh gx gy s : Nat) : Prop := q + 4 ≤ D ∧ D < gw ∧ D < gh ∧ D < gx ∧ D < gy ∧ gw < s ∧ gh < s ∧ gx < s ∧ gy < s
structure BlkF (q D gw gh gx gy s : Nat) (w0 : World) (a0 a1 a2 a3 mw mh X0 Y0 : Int) (V : World) : Prop where
  all : V.heap[D]? = some (.cells #[.int .i64 a0, .int .i64 a1, .int .i64 a2, .int .i64 a3] 53 (0, 0))
  bw : Boxed V gw 3 (.int .i64 mw)
  bh : Boxed V gh 3 (.int .i64 mh)
  bx : Boxed V gx 3 (.int .i64 X0)
  by_ : Boxed V gy 3 (.int .i64 Y0)
  bel : Below q w0 V
  sz : s + 2 ≤ V.heap.size
section
variable {q D gw gh gx gy s : Nat} {w0 V V' : World} {a0 a1 a2 a3 mw mh X0 Y0 : Int}
theorem BlkF.below {B : Nat} (h : BlkF q D gw gh gx gy s w0 a0 a1 a2 a3 mw mh X0 Y0 V) (hb : Below B V V') (ho : BlkO q D gw gh gx gy s) (hB : s ≤ B) : BlkF q D gw gh gx gy s w0 a0 a1 a2 a3 mw mh X0 Y0 V' := by
  unfold BlkO at ho
  exact ⟨(hb.block D (by omega)).trans h.all, (hb.block gw (by omega)).trans h.bw, (hb.block gh (by omega)).trans h.bh, (hb.block gx (by omega)).trans h.bx, (hb.block gy (by omega)).trans h.by_, h.bel.trans (hb.mono (by omega)), Nat.le_trans h.sz hb.size⟩
theorem BlkF.set (h : BlkF q D gw gh gx gy s w0 a0 a1 a2 a3 mw mh X0 Y0 V) (ho : BlkO q D gw gh gx gy s) {p : Nat} (hp : q ≤ p) (hD : p < D) (u : Value) : BlkF q D gw gh gx gy s w0 a0 a1 a2 a3 mw mh X0 Y0 (V.setCell ⟨p, 0, none⟩ u) := by
  unfold BlkO at ho
  have k := fun (x : Nat) (hx : x ≠ p) => Below.heap_setCell V ⟨p, 0, none⟩ u x hx
  exact ⟨(k D (by omega)).trans h.all, (k gw (by omega)).trans h.bw, (k gh (by omega)).trans h.bh, (k gx (by omega)).trans h.bx, (k gy (by omega)).trans h.by_, h.bel.setCell (p := ⟨p, 0, none⟩) hp u, by simpa using h.sz⟩
end
def BlkI (q D gw gh gx gy s : Nat) (w0 : World) (a0 a1 a2 a3 mw mh X0 Y0 : Int) (F : Nat × Nat → Rc) (l : List (Nat × Nat)) (W : World) : Prop :=
  ∃ (X : Option Addr) (cx : Nat), BlkF q D gw gh gx gy s w0 a0 a1 a2 a3 mw mh X0 Y0 W ∧ Boxed W (q + 3) 49 (.slice X l.length cx) ∧ OwnC W (s + 2) 53 4 (.slice X l.length cx) l.length (rowR F l)
theorem blkI_own {q D gw gh gx gy s : Nat} {w0 : World} {a0 a1 a2 a3 mw mh X0 Y0 : Int} {F : Nat × Nat → Rc} {α : Type} {g : List α → List (Nat × Nat)} {B : Nat} (ho : BlkO q D gw gh gx gy s) (hB : s + 2 ≤ B) : OwnFrom B (fun (pre : List α) W => BlkI q D gw gh gx gy s w0 a0 a1 a2 a3 mw mh X0 Y0 F (g pre) W) := by
  rintro t W W' row ⟨X, cx, h, h1, h2⟩ hg hr
  have hr' := fun r e => (hr r e).2
  have ne : ∀ k, k < B → some k ≠ row := fun k hk he => by have := (hr k he.symm).1; omega
  unfold BlkO at ho
  have hz := h.sz
  exact ⟨X, cx, ⟨(hg.block _ (by omega) (ne _ (by omega))).trans h.all, Boxed.keptNC h.bw hg hr', Boxed.keptNC h.bh hg hr', Boxed.keptNC h.bx hg hr', Boxed.keptNC h.by_ hg hr', h.bel.grown hg (show q ≤ W.heap.size by omega) (fun k hk => by have := (hr k hk).1; omega), Nat.le_trans h.sz hg.size⟩, Boxed.keptNC h1 hg hr', h2.keptNC hg hr'⟩
theorem blocks0_any (band res : Rc) (tx ty lv : Int) (cw ch pr : Nat) (st od ly : Int) (rct sop eph : Bool) (r k : Nat) (hway : waysB lv cw ch pr st od ly = true) (hB : okR band) (hBs : smallR band) (hR : okR res) (hP : placeR res) (hk : k ≤ 1099511627776) (hr : r ≤ 1024) (hr0 : r = 0)
    (w0 : World) (aa : Rc) (haa : aa = partR band res pr (blkS r pr) k) :
    Calls Try.prog 31 #[rcV band, rcV res, parV tx ty lv cw ch pr st od ly rct sop eph, .int .i64 r, .int .i64 k] w0 fun e w' => ∃ A c, e = .returned (.tuple #[.slice A (blksN aa (min cw (blkS r pr)) (min ch (blkS r pr))) c, .int .i64 (blksW aa (min cw (blkS r pr)))]) ∧
      OwnC w' w0.heap.size 53 4 (.slice A (blksN aa (min cw (blkS r pr)) (min ch (blkS r pr))) c) (blksN aa (min cw (blkS r pr)) (min ch (blkS r pr))) (fun i => rcL (blkR aa (min cw (blkS r pr)) (min ch (blkS r pr)) (gridAt (blksW aa (min cw (blkS r pr))) i))) ∧ Below w0.heap.size w0 w' := by
  have hway2 := hway
  unfold waysB inB at hway2
  simp only [Bool.and_eq_true, decide_eq_true_eq] at hway2
  have hb15 : pr ≤ 15 ∧ 1 ≤ pr ∧ cw ≤ 6 ∧ ch ≤ 6 := by omega
  clear hway2
  have HW := Lib.hid (fun v => ways_any tx ty lv cw ch pr st od ly rct sop eph v)
  rw [hway] at HW
  have HK1 := Lib.hid (knownC_any band ⟨hBs.1, hBs.2.1, by have := hBs.2.2.1; omega, by have := hBs.2.2.2; omega⟩)
  have HK2 := Lib.hid (knownC_any res hP)
  have hsd : blkS r pr ≤ 15 := by unfold blkS; split <;> omega
  have HPT := Lib.hid (cpart_any band res pr (blkS r pr) k hB hR hP (by omega) hsd hk)
  have hpb : emptyB aa = false → _ := fun h => part_bd (pr := pr) (sd := blkS r pr) (k := k) (res := res) hBs (by rw [← haa]; exact h)
  rw [← haa] at HPT hpb
  have HE := Lib.hid (empty_any aa)
  obtain ⟨sd, hsdd⟩ : ∃ sd, blkS r pr = sd := ⟨_, rfl⟩
  rw [hsdd] at HPT hsd ⊢
  have hsp : pr = sd := by rw [← hsdd]; unfold blkS; rw [if_pos hr0]
  have g : ¬ (0 < (r : Int)) := by omega
  clear hr0
  clear hsdd haa
  obtain ⟨mw, hmw⟩ : ∃ m, min cw sd = m := ⟨_, rfl⟩
  obtain ⟨mh, hmh⟩ : ∃ m, min ch sd = m := ⟨_, rfl⟩
  rw [hmw, hmh]
  have HM := Lib.hid (show (if sd < cw then (sd : Int) else (cw : Int)) = (mw : Int) by split <;> omega)
  have HN := Lib.hid (show (if sd < ch then (sd : Int) else (ch : Int)) = (mh : Int) by split <;> omega)
  have mw15 : mw ≤ 15 := by omega
  have mh15 : mh ≤ 15 := by omega
  clear hmw hmh
  subst hsp
  obtain ⟨b0, b1, b2, b3⟩ := band
  obtain ⟨c0, c1, c2, c3⟩ := res
  obtain ⟨a0, a1, a2, a3⟩ := aa
  obtain ⟨eb, heb⟩ : ∃ eb, emptyB ⟨a0, a1, a2, a3⟩ = eb := ⟨_, rfl⟩
  unfold blksN blksW
  rw [heb] at HE hpb ⊢
  obtain ⟨Wd, hWd⟩ : ∃ W, bW ⟨a0, a1, a2, a3⟩ mw = W := ⟨_, rfl⟩
  obtain ⟨Hd, hHd⟩ : ∃ W, bH ⟨a0, a1, a2, a3⟩ mh = W := ⟨_, rfl⟩
  obtain ⟨F, hF⟩ : ∃ F, blkR ⟨a0, a1, a2, a3⟩ mw mh = F := ⟨_, rfl⟩
  rw [hWd, hHd, hF]
  have HWd := Lib.hid hWd
  have HHd := Lib.hid hHd
  have HFF := Lib.hid hF
  clear hWd hHd hF
  unfold rcV parV at *
  simp only at hpb HW HK1 HK2 HPT HE
  clear hB hBs hR hP hway hk
  refine (callsIn_wide (n := 4)).1 ?_
  refine callsIn_of_wp_marks Try.func31 rfl trivial ?_ rfl
  simp only [Try.ntmps31, List.size_toArray, List.length_cons, List.length_nil, Nat.reduceAdd, Nat.reduceSub, Array.replicate_succ, Array.replicate_zero, List.push_toArray, List.append_toArray, List.nil_append, List.cons_append]
  obtain ⟨q, hq⟩ : ∃ q, w0.heap.size = q := ⟨_, rfl⟩
  gi_wp2
  generalize hv1 : World.alloc (World.alloc (World.alloc (World.alloc w0 _) _) _) _ = V1
  have S1 : BlkS q w0 #[.int .i64 b0, .int .i64 b1, .int .i64 b2, .int .i64 b3] #[.int .i64 c0, .int .i64 c1, .int .i64 c2, .int .i64 c3] #[.int .i64 tx, .int .i64 ty, .int .i64 lv, .int .i64 (cw : Int), .int .i64 (ch : Int), .int .i64 (pr : Int), .int .i64 st, .int .i64 od, .int .i64 ly, .bool rct, .bool sop, .bool eph] V1 := by
    rw [← hv1, ← hq]
    refine ⟨?_, ?_, ?_, ?_, below_alloc (below_alloc (below_alloc (below_alloc (Below.refl _ _) _) _) _) _, by simp⟩
    · exact heap_at0 w0 _ _ _ _
    · exact heap_at1 w0 _ _ _ _
    · exact heap_at2 w0 _ _ _ _
    · exact heap_at3 w0 _ _ _ _
  clear hv1
  have HS1 := Lib.hid S1
  clear S1
  refine ⟨trivial, (callsIn_wide.2 (HW.out _)).mono ?_⟩
  rintro e V2 ⟨rfl, h2⟩
  have S2 := HS1.out.go h2
  have r0 : V2.cell? ⟨q, 0, none⟩ = some (.int .i64 b0) := cell_of_row _ _ 0 _ _ (0, 0) S2.band
  have r1 : V2.cell? ⟨q, 1, none⟩ = some (.int .i64 b1) := cell_of_row _ _ 1 _ _ (0, 0) S2.band
  have r2 : V2.cell? ⟨q, 2, none⟩ = some (.int .i64 b2) := cell_of_row _ _ 2 _ _ (0, 0) S2.band
  have r3 : V2.cell? ⟨q, 3, none⟩ = some (.int .i64 b3) := cell_of_row _ _ 3 _ _ (0, 0) S2.band
  have HS2 := Lib.hid S2
  clear h2 HS1 S2
  gi_wp2
  refine ⟨trivial, (callsIn_wide.2 (HK1.out _)).mono ?_⟩
  rintro e V3 ⟨rfl, h3⟩
  have S3 := HS2.out.go h3
  clear r0 r1 r2 r3
  have r0 : V3.cell? ⟨q + 1, 0, none⟩ = some (.int .i64 c0) := cell_of_row _ _ 0 _ _ (0, 0) S3.res
  have r1 : V3.cell? ⟨q + 1, 1, none⟩ = some (.int .i64 c1) := cell_of_row _ _ 1 _ _ (0, 0) S3.res
  have r2 : V3.cell? ⟨q + 1, 2, none⟩ = some (.int .i64 c2) := cell_of_row _ _ 2 _ _ (0, 0) S3.res
  have r3 : V3.cell? ⟨q + 1, 3, none⟩ = some (.int .i64 c3) := cell_of_row _ _ 3 _ _ (0, 0) S3.res
  have HS3 := Lib.hid S3
  clear h3 HS2 S3
  gi_wp2
  refine ⟨trivial, (callsIn_wide.2 (HK2.out _)).mono ?_⟩
  rintro e V4 ⟨rfl, h4⟩
  have S4 := HS3.out.go h4
  clear r0 r1 r2 r3
  have p5 : V4.cell? ⟨q + 1 + 1, 5, none⟩ = some (.int .i64 (pr : Int)) := cell_of_row _ _ 5 _ _ (0, 0) S4.par
  have r0 : V4.cell? ⟨q + 1, 0, none⟩ = some (.int .i64 c0) := cell_of_row _ _ 0 _ _ (0, 0) S4.res
  have r1 : V4.cell? ⟨q + 1, 1, none⟩ = some (.int .i64 c1) := cell_of_row _ _ 1 _ _ (0, 0) S4.res
  have r2 : V4.cell? ⟨q + 1, 2, none⟩ = some (.int .i64 c2) := cell_of_row _ _ 2 _ _ (0, 0) S4.res
  have r3 : V4.cell? ⟨q + 1, 3, none⟩ = some (.int .i64 c3) := cell_of_row _ _ 3 _ _ (0, 0) S4.res
  have k0 : V4.cell? ⟨q, 0, none⟩ = some (.int .i64 b0) := cell_of_row _ _ 0 _ _ (0, 0) S4.band
  have k1 : V4.cell? ⟨q, 1, none⟩ = some (.int .i64 b1) := cell_of_row _ _ 1 _ _ (0, 0) S4.band
  have k2 : V4.cell? ⟨q, 2, none⟩ = some (.int .i64 b2) := cell_of_row _ _ 2 _ _ (0, 0) S4.band
  have k3 : V4.cell? ⟨q, 3, none⟩ = some (.int .i64 b3) := cell_of_row _ _ 3 _ _ (0, 0) S4.band
  have HS4 := Lib.hid S4
  clear h4 HS3 S4
  gi_wp2
  refine ⟨trivial, (callsIn_wide.2 (HPT.out _)).mono ?_⟩
  rintro e V5 ⟨rfl, h5⟩
  have S5 := HS4.out.go h5
  clear p5 r0 r1 r2 r3 k0 k1 k2 k3 h5 HS4
  have HS5 := Lib.hid S5
  clear S5
  gi_wp2
  obtain ⟨D, hD⟩ : ∃ D, V5.heap.size = D := ⟨_, rfl⟩
  rw [hD]
  generalize hv6 : World.alloc V5 _ = V6
  have all6 : V6.heap[D]? = some (.cells #[.int .i64 a0, .int .i64 a1, .int .i64 a2, .int .i64 a3] 53 (0, 0)) := by rw [← hv6, ← hD]; exact heap_alloc_new V5 _
  have z6 : D < V6.heap.size := by rw [← hv6, ← hD]; simp
  have qD : q + 4 ≤ D := by rw [← hD]; exact HS5.out.sz
  have bel6 : Below q w0 V6 := by rw [← hv6]; exact HS5.out.bel.alloc (by have := HS5.out.sz; omega) _
  have out6 : V6.heap[q + 3]? = some (.cells #[.slice none 0 0] 49 (0, 0)) := by rw [← hv6]; exact (Below.heap_alloc _ _ _ (by omega)).trans HS5.out.out
  have par6 : V6.heap[q + 2]? = some (.cells #[.int .i64 tx, .int .i64 ty, .int .i64 lv, .int .i64 (cw : Int), .int .i64 (ch : Int), .int .i64 (pr : Int), .int .i64 st, .int .i64 od, .int .i64 ly, .bool rct, .bool sop, .bool eph] 27 (0, 0)) := by rw [← hv6]; exact (Below.heap_alloc _ _ _ (by omega)).trans HS5.out.par
  clear hv6 HS5 hD HW HK1 HK2 HPT
  refine ⟨trivial, (callsIn_wide.2 (HE.out _)).mono ?_⟩
  rintro e V7 ⟨rfl, h7⟩
  have all7 := (h7.block D (by omega)).trans all6
  have out7 := (h7.block (q + 3) (by omega)).trans out6
  have par7 := (h7.block (q + 2) (by omega)).trans par6
  have bel7 := bel6.trans (h7.mono (by omega))
  have z7 : D < V7.heap.size := by have := h7.size; omega
  clear h7 all6 out6 par6 bel6 z6 HE
  cases eb with
  | true =>
    have o0 : V7.cell? ⟨q + 1 + 1 + 1, 0, none⟩ = some (.slice none 0 0) := cell_of_row _ _ 0 _ _ (0, 0) out7
    have o1 : V7.frozen? ⟨q + 1 + 1 + 1, 0, none⟩ = false := frozen_of_row _ _ 0 _ _ out7
    gi_wp2
    refine ⟨.tuple #[.slice none 0 0, .int .i64 0], ?_, none, 0, rfl, OwnC.nil_ _ _ _ _ _ (fun _ => rfl), ?_⟩
    · simp [results, Try.f31, go_sem, o0]
    · exact bel7.setCell (p := ⟨q + 1 + 1 + 1, 0, none⟩) (by simp only; omega) _
  | false =>
    have hpb := hpb rfl
    try simp only at hpb
    have s1 := span_bd (k := mw) hpb.1 hpb.2.1 hpb.2.2.1 (by omega)
    have s2 := span_bd (k := mh) hpb.2.2.2.1 hpb.2.2.2.2.1 hpb.2.2.2.2.2 (by omega)
    have HF0 := Lib.hid (floor_any a0 mw (by omega) (by omega))
    have HF1 := Lib.hid (floor_any a1 mh (by omega) (by omega))
    have HC2 := Lib.hid (ceil_any a2 mw (by omega) (by omega))
    have HC3 := Lib.hid (ceil_any a3 mh (by omega) (by omega))
    have hF' : ∀ c, F c = bothR ⟨a0, a1, a2, a3⟩ ⟨((c.1 : Int) + flI a0 mw) * 2 ^ mw, ((c.2 : Int) + flI a1 mh) * 2 ^ mh, ((c.1 : Int) + flI a0 mw + 1) * 2 ^ mw, ((c.2 : Int) + flI a1 mh + 1) * 2 ^ mh⟩ := fun c => by rw [← HFF.out]; rfl
    have hWd := HWd.out
    have hHd := HHd.out
    unfold bW at hWd
    unfold bH at hHd
    simp only at hWd hHd
    clear HFF HWd HHd
    generalize flI a0 mw = X0 at *
    generalize flI a1 mh = Y0 at *
    generalize ceI a2 mw = X1 at *
    generalize ceI a3 mh = Y1 at *
    have wWd : IntKind.i64.wrap (X1 - X0) = (Wd : Int) := by rw [show X1 - X0 = (Wd : Int) by omega]; exact wr (by omega)
    have wHd : IntKind.i64.wrap (Y1 - Y0) = (Hd : Int) := by rw [show Y1 - Y0 = (Hd : Int) by omega]; exact wr (by omega)
    have hWb : 1 ≤ Wd ∧ Wd ≤ 1024 := by omega
    have hHb : 1 ≤ Hd ∧ Hd ≤ 1024 := by omega
    have hX0 : 0 ≤ X0 ∧ X0 ≤ 1024 := by omega
    have hY0 : 0 ≤ Y0 ∧ Y0 ≤ 1024 := by omega
    have HW := Lib.hid wWd
    have HH := Lib.hid wHd
    clear hWd hHd s1 s2 hpb wWd wHd
    gi_wp2
    refine wpIn_wide.2 ?_
    refine last_cut (by kernel_rfl) (fun U => U.cell? ⟨q + 1 + 1, 3, none⟩ = some (.int .i64 (cw : Int)) ∧ U.cell? ⟨q + 1 + 1, 4, none⟩ = some (.int .i64 (ch : Int))) (fun aF a' W' => ∃ g8 g9, a' = ((((((((((aF.put (some 48) (.pointer (some ⟨q + 1 + 1, 3, none⟩))).put (some 49) (.int .i64 (cw : Int))).put (some 50) (.int .i64 (pr : Int))).put (some 51) (.int .i64 (mw : Int))).put (some 52) (.pointer (some ⟨q + 1 + 1, 4, none⟩))).put (some 53) (.int .i64 (ch : Int))).put (some 54) (.int .i64 (pr : Int))).put (some 55) (.int .i64 (mh : Int))).put (some 14) (.pointer (some ⟨g8, 0, none⟩))).put (some 15) (.pointer (some ⟨g9, 0, none⟩))) ∧ Boxed W' g8 3 (.int .i64 (mw : Int)) ∧ Boxed W' g9 3 (.int .i64 (mh : Int)) ∧ g8 ≠ g9 ∧ V7.heap.size ≤ g8 ∧ V7.heap.size ≤ g9 ∧ Below V7.heap.size V7 W') ⟨cell_of_row _ _ 3 _ _ (0, 0) par7, cell_of_row _ _ 4 _ _ (0, 0) par7⟩ (fun hS => ?_) ?_
    · skip
      have hSB : ∀ U : World, Below (V7.heap.size) V7 U → U.cell? ⟨q + 1 + 1, 3, none⟩ = some (.int .i64 (cw : Int)) ∧ U.cell? ⟨q + 1 + 1, 4, none⟩ = some (.int .i64 (ch : Int)) := fun U h => ⟨(h.cell (p := ⟨q + 1 + 1, 3, none⟩) (by simp only; omega)).trans (cell_of_row _ _ 3 _ _ (0, 0) par7), (h.cell (p := ⟨q + 1 + 1, 4, none⟩) (by simp only; omega)).trans (cell_of_row _ _ 4 _ _ (0, 0) par7)⟩
      have bV : Below V7.heap.size V7 V7.drew := (Below.refl _ _).drew
      generalize V7.drew = V0 at *
      refine wpAnyL_take (i := 0) (v := .pointer (some ⟨q + 1 + 1, 3, none⟩)) rfl (by kernel_rfl) (by kernel_rfl) (by kernel_rfl) (fun _ _ _ h => h) (Or.inl ⟨by rfl, ?_⟩) hS ?_
      · intro U hU
        obtain ⟨s0, s1⟩ := hU
        go_simp
      simp only [Act.put, List.setIfInBounds_toArray, List.set_cons_zero, List.set_cons_succ]
      refine wpAnyL_take (i := 1) (v := .int .i64 (cw : Int)) rfl (by kernel_rfl) (by kernel_rfl) (by kernel_rfl) (fun _ _ _ h => h) (Or.inl ⟨by rfl, ?_⟩) hS ?_
      · intro U hU
        obtain ⟨s0, s1⟩ := hU
        go_simp
      simp only [Act.put, List.setIfInBounds_toArray, List.set_cons_zero, List.set_cons_succ]
      refine wpAnyL_take (i := 2) (v := .int .i64 (pr : Int)) rfl (by kernel_rfl) (by kernel_rfl) (by kernel_rfl) (fun _ _ _ h => h) (Or.inl ⟨by rfl, ?_⟩) hS ?_
      · intro U hU
        obtain ⟨s0, s1⟩ := hU
        go_simp
      simp only [Act.put, List.setIfInBounds_toArray, List.set_cons_zero, List.set_cons_succ]
      refine wpAnyL_take (i := 3) (v := .int .i64 (mw : Int)) rfl (by kernel_rfl) (by kernel_rfl) (by kernel_rfl) (fun _ _ _ h => h) (Or.inl ⟨by rfl, ?_⟩) hS ?_
      · intro U hU
        obtain ⟨s0, s1⟩ := hU
        have hz := HM.out
        go_simp
      simp only [Act.put, List.setIfInBounds_toArray, List.set_cons_zero, List.set_cons_succ]
      refine wpAnyL_take (i := 4) (v := .pointer (some ⟨q + 1 + 1, 4, none⟩)) rfl (by kernel_rfl) (by kernel_rfl) (by kernel_rfl) (fun _ _ _ h => h) (Or.inl ⟨by rfl, ?_⟩) hS ?_
      · intro U hU
        obtain ⟨s0, s1⟩ := hU
        go_simp
      simp only [Act.put, List.setIfInBounds_toArray, List.set_cons_zero, List.set_cons_succ]
      refine wpAnyL_take (i := 5) (v := .int .i64 (ch : Int)) rfl (by kernel_rfl) (by kernel_rfl) (by kernel_rfl) (fun _ _ _ h => h) (Or.inl ⟨by rfl, ?_⟩) hS ?_
      · intro U hU
        obtain ⟨s0, s1⟩ := hU
        go_simp
      simp only [Act.put, List.setIfInBounds_toArray, List.set_cons_zero, List.set_cons_succ]
      refine wpAnyL_take (i := 6) (v := .int .i64 (pr : Int)) rfl (by kernel_rfl) (by kernel_rfl) (by kernel_rfl) (fun _ _ _ h => h) (Or.inl ⟨by rfl, ?_⟩) hS ?_
      · intro U hU
        obtain ⟨s0, s1⟩ := hU
        go_simp
      simp only [Act.put, List.setIfInBounds_toArray, List.set_cons_zero, List.set_cons_succ]
      refine wpAnyL_take (i := 7) (v := .int .i64 (mh : Int)) rfl (by kernel_rfl) (by kernel_rfl) (by kernel_rfl) (fun _ _ _ h => h) (Or.inl ⟨by rfl, ?_⟩) hS ?_
      · intro U hU
        obtain ⟨s0, s1⟩ := hU
        have hz := HN.out
        go_simp
      simp only [Act.put, List.setIfInBounds_toArray, List.set_cons_zero, List.set_cons_succ]
      refine wpAnyL_ready (rs := [8, 9]) (by kernel_rfl) (by simp) ?_
      refine AllReadyL.cons (by simp only [List.getElem?_toArray, List.getElem?_cons_succ, List.getElem?_cons_zero]; rfl) (fun K' hK' => ?_) (AllReadyL.cons (by simp only [List.getElem?_toArray, List.getElem?_cons_succ, List.getElem?_cons_zero]; rfl) (fun K' hK' => ?_) AllReadyL.nil)
      · go_simp
        obtain ⟨g8, hg8⟩ : ∃ g, V0.heap.size = g := ⟨_, rfl⟩
        rw [hg8]
        have x8 := Boxed.new V0 3 (.int .i64 0)
        rw [hg8] at x8
        have y8 : V7.heap.size ≤ g8 := by rw [← hg8]; exact bV.size
        have b0 := below_alloc bV (.cells #[.int .i64 0] 3)
        generalize World.alloc V0 (.cells #[.int .i64 0] 3) = U0 at *
        clear hg8
        have hS := hSB _ b0
        refine hK'.out _ _ hS (fun _ => ?_)
        clear hK' K'
        try simp only [Act.put, List.setIfInBounds_toArray, List.set_cons_zero, List.set_cons_succ]
        refine wpAnyL_ready (rs := [9]) (by kernel_rfl) (by simp) ?_
        refine AllReadyL.cons (by simp only [List.getElem?_toArray, List.getElem?_cons_succ, List.getElem?_cons_zero]; rfl) (fun K' hK' => ?_) AllReadyL.nil
        go_simp
        obtain ⟨g9, hg9⟩ : ∃ g, U0.heap.size = g := ⟨_, rfl⟩
        rw [hg9]
        have x9 := Boxed.new U0 3 (.int .i64 0)
        rw [hg9] at x9
        have y9 : V7.heap.size ≤ g9 := by rw [← hg9]; exact b0.size
        have ne : g8 ≠ g9 := by have := x8.lt; omega
        have x8 := Boxed.alloc x8 (.cells #[.int .i64 0] 3)
        have b1 := below_alloc b0 (.cells #[.int .i64 0] 3)
        generalize World.alloc U0 (.cells #[.int .i64 0] 3) = U1 at *
        clear hg9
        have hS := hSB _ b1
        refine hK'.out _ _ hS (fun _ => ?_)
        clear hK' K'
        try simp only [Act.put, List.setIfInBounds_toArray, List.set_cons_zero, List.set_cons_succ]
        refine wpAnyL_ready (rs := [10]) (by kernel_rfl) (by simp) ?_
        refine AllReadyL.cons (by simp only [List.getElem?_toArray, List.getElem?_cons_succ, List.getElem?_cons_zero]; rfl) (fun K' hK' => ?_) AllReadyL.nil
        have c2 := x8.cell
        have f2 := x8.frozen
        go_simp
        clear c2 f2
        have x8 := Boxed.set (.int .i64 (mw : Int)) x8
        have x9 : Boxed _ g9 _ _ := (Below.heap_setCell U1 ⟨g8, 0, none⟩ (.int .i64 (mw : Int)) g9 (by simp only; omega)).trans x9
        have b2 := b1.setCell (p := ⟨g8, 0, none⟩) (by simp only; omega) (.int .i64 (mw : Int))
        generalize U1.setCell ⟨g8, 0, none⟩ (.int .i64 (mw : Int)) = U2 at *
        have hS := hSB _ b2
        refine hK'.out _ _ hS (fun _ => ?_)
        clear hK' K'
        try simp only [Act.put, List.setIfInBounds_toArray, List.set_cons_zero, List.set_cons_succ]
        refine wpAnyL_ready (rs := [11]) (by kernel_rfl) (by simp) ?_
        refine AllReadyL.last (by simp only [List.getElem?_toArray, List.getElem?_cons_succ, List.getElem?_cons_zero]; rfl) (by kernel_rfl) (fun K' hK' => ?_)
        have c3 := x9.cell
        have f3 := x9.frozen
        go_simp
        clear c3 f3
        have x9 := Boxed.set (.int .i64 (mh : Int)) x9
        have x8 : Boxed _ g8 _ _ := (Below.heap_setCell U2 ⟨g9, 0, none⟩ (.int .i64 (mh : Int)) g8 (by simp only; omega)).trans x8
        have b3 := b2.setCell (p := ⟨g9, 0, none⟩) (by simp only; omega) (.int .i64 (mh : Int))
        generalize U2.setCell ⟨g9, 0, none⟩ (.int .i64 (mh : Int)) = U3 at *
        refine hK'.out _ _ (?_)
        clear hK' K'
        try simp only [Act.put, List.setIfInBounds_toArray, List.set_cons_zero, List.set_cons_succ]
        refine wpAnyL_done (by kernel_rfl) ?_ _
        simp only [OnlyN]
        refine ⟨g8, g9, ?_, x8, x9, ne, y8, y9, b3⟩
        first | trivial | rfl
      · go_simp
        obtain ⟨g9, hg9⟩ : ∃ g, V0.heap.size = g := ⟨_, rfl⟩
        rw [hg9]
        have x9 := Boxed.new V0 3 (.int .i64 0)
        rw [hg9] at x9
        have y9 : V7.heap.size ≤ g9 := by rw [← hg9]; exact bV.size
        have b4 := below_alloc bV (.cells #[.int .i64 0] 3)
        generalize World.alloc V0 (.cells #[.int .i64 0] 3) = U4 at *
        clear hg9
        have hS := hSB _ b4
        refine hK'.out _ _ hS (fun _ => ?_)
        clear hK' K'
        try simp only [Act.put, List.setIfInBounds_toArray, List.set_cons_zero, List.set_cons_succ]
        refine wpAnyL_ready (rs := [8]) (by kernel_rfl) (by simp) ?_
        refine AllReadyL.cons (by simp only [List.getElem?_toArray, List.getElem?_cons_succ, List.getElem?_cons_zero]; rfl) (fun K' hK' => ?_) AllReadyL.nil
        go_simp
        obtain ⟨g8, hg8⟩ : ∃ g, U4.heap.size = g := ⟨_, rfl⟩
        rw [hg8]
        have x8 := Boxed.new U4 3 (.int .i64 0)
        rw [hg8] at x8
        have y8 : V7.heap.size ≤ g8 := by rw [← hg8]; exact b4.size
        have ne : g8 ≠ g9 := by have := x9.lt; omega
        have x9 := Boxed.alloc x9 (.cells #[.int .i64 0] 3)
        have b5 := below_alloc b4 (.cells #[.int .i64 0] 3)
        generalize World.alloc U4 (.cells #[.int .i64 0] 3) = U5 at *
        clear hg8
        have hS := hSB _ b5
        refine hK'.out _ _ hS (fun _ => ?_)
        clear hK' K'
        try simp only [Act.put, List.setIfInBounds_toArray, List.set_cons_zero, List.set_cons_succ]
        refine wpAnyL_ready (rs := [10]) (by kernel_rfl) (by simp) ?_
        refine AllReadyL.cons (by simp only [List.getElem?_toArray, List.getElem?_cons_succ, List.getElem?_cons_zero]; rfl) (fun K' hK' => ?_) AllReadyL.nil
        have c6 := x8.cell
        have f6 := x8.frozen
        go_simp
        clear c6 f6
        have x8 := Boxed.set (.int .i64 (mw : Int)) x8
        have x9 : Boxed _ g9 _ _ := (Below.heap_setCell U5 ⟨g8, 0, none⟩ (.int .i64 (mw : Int)) g9 (by simp only; omega)).trans x9
        have b6 := b5.setCell (p := ⟨g8, 0, none⟩) (by simp only; omega) (.int .i64 (mw : Int))
        generalize U5.setCell ⟨g8, 0, none⟩ (.int .i64 (mw : Int)) = U6 at *
        have hS := hSB _ b6
        refine hK'.out _ _ hS (fun _ => ?_)
        clear hK' K'
        try simp only [Act.put, List.setIfInBounds_toArray, List.set_cons_zero, List.set_cons_succ]
        refine wpAnyL_ready (rs := [11]) (by kernel_rfl) (by simp) ?_
        refine AllReadyL.last (by simp only [List.getElem?_toArray, List.getElem?_cons_succ, List.getElem?_cons_zero]; rfl) (by kernel_rfl) (fun K' hK' => ?_)
        have c7 := x9.cell
        have f7 := x9.frozen
        go_simp
        clear c7 f7
        have x9 := Boxed.set (.int .i64 (mh : Int)) x9
        have x8 : Boxed _ g8 _ _ := (Below.heap_setCell U6 ⟨g9, 0, none⟩ (.int .i64 (mh : Int)) g8 (by simp only; omega)).trans x8
        have b7 := b6.setCell (p := ⟨g9, 0, none⟩) (by simp only; omega) (.int .i64 (mh : Int))
        generalize U6.setCell ⟨g9, 0, none⟩ (.int .i64 (mh : Int)) = U7 at *
        refine hK'.out _ _ (?_)
        clear hK' K'
        try simp only [Act.put, List.setIfInBounds_toArray, List.set_cons_zero, List.set_cons_succ]
        refine wpAnyL_done (by kernel_rfl) ?_ _
        simp only [OnlyN]
        refine ⟨g8, g9, ?_, x8, x9, ne, y8, y9, b7⟩
        first | trivial | rfl
    rintro a' V8 ⟨g8, g9, rfl, x8, x9, n89, y8, y9, b8⟩
    simp only [Act.put, List.setIfInBounds_toArray, List.set_cons_zero, List.set_cons_succ]
    have all8 := (b8.block D (by omega)).trans all7
    have out8 := (b8.block (q + 3) (by omega)).trans out7
    have bel8 := bel7.trans (b8.mono (by omega))
    have z8 : D < V8.heap.size := by have := b8.size; omega
    have y8 : D < g8 := by omega
    have y9 : D < g9 := by omega
    have l8 := x8.lt
    have l9 := x9.lt
    clear b8 all7 out7 bel7 z7 par7
    gi_wp2
    refine wpIn_wide.2 ?_
    refine last_cut (by kernel_rfl) (fun U => U.cell? ⟨D, 0, none⟩ = some (.int .i64 a0) ∧ U.cell? ⟨D, 1, none⟩ = some (.int .i64 a1) ∧ U.cell? ⟨g8, 0, none⟩ = some (.int .i64 (mw : Int)) ∧ U.cell? ⟨g9, 0, none⟩ = some (.int .i64 (mh : Int))) (fun aF a' W' => ∃ gx gy, a' = ((((((((((aF.put (some 56) (.pointer (some ⟨D, 0, none⟩))).put (some 57) (.int .i64 a0)).put (some 58) (.int .i64 (mw : Int))).put (some 59) (.int .i64 X0)).put (some 60) (.pointer (some ⟨D, 1, none⟩))).put (some 61) (.int .i64 a1)).put (some 62) (.int .i64 (mh : Int))).put (some 63) (.int .i64 Y0)).put (some 16) (.pointer (some ⟨gx, 0, none⟩))).put (some 17) (.pointer (some ⟨gy, 0, none⟩))) ∧ Boxed W' gx 3 (.int .i64 X0) ∧ Boxed W' gy 3 (.int .i64 Y0) ∧ gx ≠ gy ∧ V8.heap.size ≤ gx ∧ V8.heap.size ≤ gy ∧ Below V8.heap.size V8 W') ⟨cell_of_row _ _ 0 _ _ (0, 0) all8, cell_of_row _ _ 1 _ _ (0, 0) all8, x8.cell, x9.cell⟩ (fun hS => ?_) ?_
    · skip
      have hSB : ∀ U : World, Below (V8.heap.size) V8 U → U.cell? ⟨D, 0, none⟩ = some (.int .i64 a0) ∧ U.cell? ⟨D, 1, none⟩ = some (.int .i64 a1) ∧ U.cell? ⟨g8, 0, none⟩ = some (.int .i64 (mw : Int)) ∧ U.cell? ⟨g9, 0, none⟩ = some (.int .i64 (mh : Int)) := fun U h => ⟨(h.cell (p := ⟨D, 0, none⟩) (by simp only; omega)).trans (cell_of_row _ _ 0 _ _ (0, 0) all8), (h.cell (p := ⟨D, 1, none⟩) (by simp only; omega)).trans (cell_of_row _ _ 1 _ _ (0, 0) all8), (h.cell (p := ⟨g8, 0, none⟩) (by simp only; omega)).trans (x8.cell), (h.cell (p := ⟨g9, 0, none⟩) (by simp only; omega)).trans (x9.cell)⟩
      have bV : Below V8.heap.size V8 V8.drew := (Below.refl _ _).drew
      generalize V8.drew = V0 at *
      refine wpAnyL_take (i := 0) (v := .pointer (some ⟨D, 0, none⟩)) rfl (by kernel_rfl) (by kernel_rfl) (by kernel_rfl) (fun _ _ _ h => h) (Or.inl ⟨by rfl, ?_⟩) hS ?_
      · intro U hU
        obtain ⟨s0, s1, s2, s3⟩ := hU
        go_simp
      simp only [Act.put, List.setIfInBounds_toArray, List.set_cons_zero, List.set_cons_succ]
      refine wpAnyL_take (i := 1) (v := .int .i64 a0) rfl (by kernel_rfl) (by kernel_rfl) (by kernel_rfl) (fun _ _ _ h => h) (Or.inl ⟨by rfl, ?_⟩) hS ?_
      · intro U hU
        obtain ⟨s0, s1, s2, s3⟩ := hU
        go_simp
      simp only [Act.put, List.setIfInBounds_toArray, List.set_cons_zero, List.set_cons_succ]
      refine wpAnyL_take (i := 2) (v := .int .i64 (mw : Int)) rfl (by kernel_rfl) (by kernel_rfl) (by kernel_rfl) (fun _ _ _ h => h) (Or.inl ⟨by rfl, ?_⟩) hS ?_
      · intro U hU
        obtain ⟨s0, s1, s2, s3⟩ := hU
        go_simp
      simp only [Act.put, List.setIfInBounds_toArray, List.set_cons_zero, List.set_cons_succ]
      refine wpAnyL_call (i := 3) (v := .int .i64 X0) (f := 58) (args := #[.int .i64 a0, .int .i64 (mw : Int)]) rfl (by kernel_rfl) (by kernel_rfl) (by kernel_rfl) (fun _ _ _ h => h) (by rfl) (fun w => ((HF0.out w).mono (fun e w' h => ⟨h.1, h.2.symm⟩))) ?_ hS ?_
      · intro U hU
        obtain ⟨s0, s1, s2, s3⟩ := hU
        go_simp
      simp only [Act.put, List.setIfInBounds_toArray, List.set_cons_zero, List.set_cons_succ]
      refine wpAnyL_take (i := 4) (v := .pointer (some ⟨D, 1, none⟩)) rfl (by kernel_rfl) (by kernel_rfl) (by kernel_rfl) (fun _ _ _ h => h) (Or.inl ⟨by rfl, ?_⟩) hS ?_
      · intro U hU
        obtain ⟨s0, s1, s2, s3⟩ := hU
        go_simp
      simp only [Act.put, List.setIfInBounds_toArray, List.set_cons_zero, List.set_cons_succ]
      refine wpAnyL_take (i := 5) (v := .int .i64 a1) rfl (by kernel_rfl) (by kernel_rfl) (by kernel_rfl) (fun _ _ _ h => h) (Or.inl ⟨by rfl, ?_⟩) hS ?_
      · intro U hU
        obtain ⟨s0, s1, s2, s3⟩ := hU
        go_simp
      simp only [Act.put, List.setIfInBounds_toArray, List.set_cons_zero, List.set_cons_succ]
      refine wpAnyL_take (i := 6) (v := .int .i64 (mh : Int)) rfl (by kernel_rfl) (by kernel_rfl) (by kernel_rfl) (fun _ _ _ h => h) (Or.inl ⟨by rfl, ?_⟩) hS ?_
      · intro U hU
        obtain ⟨s0, s1, s2, s3⟩ := hU
        go_simp
      simp only [Act.put, List.setIfInBounds_toArray, List.set_cons_zero, List.set_cons_succ]
      refine wpAnyL_call (i := 7) (v := .int .i64 Y0) (f := 58) (args := #[.int .i64 a1, .int .i64 (mh : Int)]) rfl (by kernel_rfl) (by kernel_rfl) (by kernel_rfl) (fun _ _ _ h => h) (by rfl) (fun w => ((HF1.out w).mono (fun e w' h => ⟨h.1, h.2.symm⟩))) ?_ hS ?_
      · intro U hU
        obtain ⟨s0, s1, s2, s3⟩ := hU
        go_simp
      simp only [Act.put, List.setIfInBounds_toArray, List.set_cons_zero, List.set_cons_succ]
      refine wpAnyL_ready (rs := [8, 9]) (by kernel_rfl) (by simp) ?_
      refine AllReadyL.cons (by simp only [List.getElem?_toArray, List.getElem?_cons_succ, List.getElem?_cons_zero]; rfl) (fun K' hK' => ?_) (AllReadyL.cons (by simp only [List.getElem?_toArray, List.getElem?_cons_succ, List.getElem?_cons_zero]; rfl) (fun K' hK' => ?_) AllReadyL.nil)
      · go_simp
        obtain ⟨gx, hgx⟩ : ∃ g, V0.heap.size = g := ⟨_, rfl⟩
        rw [hgx]
        have xx := Boxed.new V0 3 (.int .i64 0)
        rw [hgx] at xx
        have yx : V8.heap.size ≤ gx := by rw [← hgx]; exact bV.size
        have b0 := below_alloc bV (.cells #[.int .i64 0] 3)
        generalize World.alloc V0 (.cells #[.int .i64 0] 3) = U0 at *
        clear hgx
        have hS := hSB _ b0
        refine hK'.out _ _ hS (fun _ => ?_)
        clear hK' K'
        try simp only [Act.put, List.setIfInBounds_toArray, List.set_cons_zero, List.set_cons_succ]
        refine wpAnyL_ready (rs := [9]) (by kernel_rfl) (by simp) ?_
        refine AllReadyL.cons (by simp only [List.getElem?_toArray, List.getElem?_cons_succ, List.getElem?_cons_zero]; rfl) (fun K' hK' => ?_) AllReadyL.nil
        go_simp
        obtain ⟨gy, hgy⟩ : ∃ g, U0.heap.size = g := ⟨_, rfl⟩
        rw [hgy]
        have xy := Boxed.new U0 3 (.int .i64 0)
        rw [hgy] at xy
        have yy : V8.heap.size ≤ gy := by rw [← hgy]; exact b0.size
        have ne : gx ≠ gy := by have := xx.lt; omega
        have xx := Boxed.alloc xx (.cells #[.int .i64 0] 3)
        have b1 := below_alloc b0 (.cells #[.int .i64 0] 3)
        generalize World.alloc U0 (.cells #[.int .i64 0] 3) = U1 at *
        clear hgy
        have hS := hSB _ b1
        refine hK'.out _ _ hS (fun _ => ?_)
        clear hK' K'
        try simp only [Act.put, List.setIfInBounds_toArray, List.set_cons_zero, List.set_cons_succ]
        refine wpAnyL_ready (rs := [10]) (by kernel_rfl) (by simp) ?_
        refine AllReadyL.cons (by simp only [List.getElem?_toArray, List.getElem?_cons_succ, List.getElem?_cons_zero]; rfl) (fun K' hK' => ?_) AllReadyL.nil
        have c2 := xx.cell
        have f2 := xx.frozen
        go_simp
        clear c2 f2
        have xx := Boxed.set (.int .i64 X0) xx
        have xy : Boxed _ gy _ _ := (Below.heap_setCell U1 ⟨gx, 0, none⟩ (.int .i64 X0) gy (by simp only; omega)).trans xy
        have b2 := b1.setCell (p := ⟨gx, 0, none⟩) (by simp only; omega) (.int .i64 X0)
        generalize U1.setCell ⟨gx, 0, none⟩ (.int .i64 X0) = U2 at *
        have hS := hSB _ b2
        refine hK'.out _ _ hS (fun _ => ?_)
        clear hK' K'
        try simp only [Act.put, List.setIfInBounds_toArray, List.set_cons_zero, List.set_cons_succ]
        refine wpAnyL_ready (rs := [11]) (by kernel_rfl) (by simp) ?_
        refine AllReadyL.last (by simp only [List.getElem?_toArray, List.getElem?_cons_succ, List.getElem?_cons_zero]; rfl) (by kernel_rfl) (fun K' hK' => ?_)
        have c3 := xy.cell
        have f3 := xy.frozen
        go_simp
        clear c3 f3
        have xy := Boxed.set (.int .i64 Y0) xy
        have xx : Boxed _ gx _ _ := (Below.heap_setCell U2 ⟨gy, 0, none⟩ (.int .i64 Y0) gx (by simp only; omega)).trans xx
        have b3 := b2.setCell (p := ⟨gy, 0, none⟩) (by simp only; omega) (.int .i64 Y0)
        generalize U2.setCell ⟨gy, 0, none⟩ (.int .i64 Y0) = U3 at *
        refine hK'.out _ _ (?_)
        clear hK' K'
        try simp only [Act.put, List.setIfInBounds_toArray, List.set_cons_zero, List.set_cons_succ]
        refine wpAnyL_done (by kernel_rfl) ?_ _
        simp only [OnlyN]
        refine ⟨gx, gy, ?_, xx, xy, ne, yx, yy, b3⟩
        first | trivial | rfl
      · go_simp
        obtain ⟨gy, hgy⟩ : ∃ g, V0.heap.size = g := ⟨_, rfl⟩
        rw [hgy]
        have xy := Boxed.new V0 3 (.int .i64 0)
        rw [hgy] at xy
        have yy : V8.heap.size ≤ gy := by rw [← hgy]; exact bV.size
        have b4 := below_alloc bV (.cells #[.int .i64 0] 3)
        generalize World.alloc V0 (.cells #[.int .i64 0] 3) = U4 at *
        clear hgy
        have hS := hSB _ b4
        refine hK'.out _ _ hS (fun _ => ?_)
        clear hK' K'
        try simp only [Act.put, List.setIfInBounds_toArray, List.set_cons_zero, List.set_cons_succ]
        refine wpAnyL_ready (rs := [8]) (by kernel_rfl) (by simp) ?_
        refine AllReadyL.cons (by simp only [List.getElem?_toArray, List.getElem?_cons_succ, List.getElem?_cons_zero]; rfl) (fun K' hK' => ?_) AllReadyL.nil
        go_simp
        obtain ⟨gx, hgx⟩ : ∃ g, U4.heap.size = g := ⟨_, rfl⟩
        rw [hgx]
        have xx := Boxed.new U4 3 (.int .i64 0)
        rw [hgx] at xx
        have yx : V8.heap.size ≤ gx := by rw [← hgx]; exact b4.size
        have ne : gx ≠ gy := by have := xy.lt; omega
        have xy := Boxed.alloc xy (.cells #[.int .i64 0] 3)
        have b5 := below_alloc b4 (.cells #[.int .i64 0] 3)
        generalize World.alloc U4 (.cells #[.int .i64 0] 3) = U5 at *
        clear hgx
        have hS := hSB _ b5
        refine hK'.out _ _ hS (fun _ => ?_)
        clear hK' K'
        try simp only [Act.put, List.setIfInBounds_toArray, List.set_cons_zero, List.set_cons_succ]
        refine wpAnyL_ready (rs := [10]) (by kernel_rfl) (by simp) ?_
        refine AllReadyL.cons (by simp only [List.getElem?_toArray, List.getElem?_cons_succ, List.getElem?_cons_zero]; rfl) (fun K' hK' => ?_) AllReadyL.nil
        have c6 := xx.cell
        have f6 := xx.frozen
        go_simp
        clear c6 f6
        have xx := Boxed.set (.int .i64 X0) xx
        have xy : Boxed _ gy _ _ := (Below.heap_setCell U5 ⟨gx, 0, none⟩ (.int .i64 X0) gy (by simp only; omega)).trans xy
        have b6 := b5.setCell (p := ⟨gx, 0, none⟩) (by simp only; omega) (.int .i64 X0)
        generalize U5.setCell ⟨gx, 0, none⟩ (.int .i64 X0) = U6 at *
        have hS := hSB _ b6
        refine hK'.out _ _ hS (fun _ => ?_)
        clear hK' K'
        try simp only [Act.put, List.setIfInBounds_toArray, List.set_cons_zero, List.set_cons_succ]
        refine wpAnyL_ready (rs := [11]) (by kernel_rfl) (by simp) ?_
        refine AllReadyL.last (by simp only [List.getElem?_toArray, List.getElem?_cons_succ, List.getElem?_cons_zero]; rfl) (by kernel_rfl) (fun K' hK' => ?_)
        have c7 := xy.cell
        have f7 := xy.frozen
        go_simp
        clear c7 f7
        have xy := Boxed.set (.int .i64 Y0) xy
        have xx : Boxed _ gx _ _ := (Below.heap_setCell U6 ⟨gy, 0, none⟩ (.int .i64 Y0) gx (by simp only; omega)).trans xx
        have b7 := b6.setCell (p := ⟨gy, 0, none⟩) (by simp only; omega) (.int .i64 Y0)
        generalize U6.setCell ⟨gy, 0, none⟩ (.int .i64 Y0) = U7 at *
        refine hK'.out _ _ (?_)
        clear hK' K'
        try simp only [Act.put, List.setIfInBounds_toArray, List.set_cons_zero, List.set_cons_succ]
        refine wpAnyL_done (by kernel_rfl) ?_ _
        simp only [OnlyN]
        refine ⟨gx, gy, ?_, xx, xy, ne, yx, yy, b7⟩
        first | trivial | rfl
    rintro a' V9 ⟨gx, gy, rfl, xx, xy, nxy, yx, yy, b9⟩
    simp only [Act.put, List.setIfInBounds_toArray, List.set_cons_zero, List.set_cons_succ]
    have all9 := (b9.block D (by omega)).trans all8
    have out9 := (b9.block (q + 3) (by omega)).trans out8
    have bel9 := bel8.trans (b9.mono (by omega))
    have z9 : D < V9.heap.size := by have := b9.size; omega
    have ogx : D < gx ∧ g8 < gx ∧ g9 < gx := by omega
    have ogy : D < gy ∧ g8 < gy ∧ g9 < gy := by omega
    have x8 := (b9.block g8 (by omega)).trans x8
    have x9 := (b9.block g9 (by omega)).trans x9
    have lx := xx.lt
    have ly' := xy.lt
    clear b9 all8 out8 bel8 z8 l8 l9
    gi_wp2
    refine wpIn_wide.2 ?_
    refine last_cut (by kernel_rfl) (fun U => U.cell? ⟨D, 2, none⟩ = some (.int .i64 a2) ∧ U.cell? ⟨g8, 0, none⟩ = some (.int .i64 (mw : Int)) ∧ U.cell? ⟨gx, 0, none⟩ = some (.int .i64 X0)) (fun aF a' W' => a' = (((((((aF.put (some 64) (.pointer (some ⟨D, 2, none⟩))).put (some 65) (.int .i64 a2)).put (some 66) (.int .i64 (mw : Int))).put (some 67) (.int .i64 X1)).put (some 68) (.int .i64 X0)).put (some 69) (.int .i64 (Wd : Int))).put (some 11) (.int .i64 (Wd : Int))) ∧ Below V9.heap.size V9 W') ⟨cell_of_row _ _ 2 _ _ (0, 0) all9, Boxed.cell x8, xx.cell⟩ (fun hS => ?_) ?_
    · skip
      have hSB : ∀ U : World, Below (V9.heap.size) V9 U → U.cell? ⟨D, 2, none⟩ = some (.int .i64 a2) ∧ U.cell? ⟨g8, 0, none⟩ = some (.int .i64 (mw : Int)) ∧ U.cell? ⟨gx, 0, none⟩ = some (.int .i64 X0) := fun U h => ⟨(h.cell (p := ⟨D, 2, none⟩) (by simp only; omega)).trans (cell_of_row _ _ 2 _ _ (0, 0) all9), (h.cell (p := ⟨g8, 0, none⟩) (by simp only; omega)).trans (Boxed.cell x8), (h.cell (p := ⟨gx, 0, none⟩) (by simp only; omega)).trans (xx.cell)⟩
      have bV : Below V9.heap.size V9 V9.drew := (Below.refl _ _).drew
      generalize V9.drew = V0 at *
      refine wpAnyL_take (i := 0) (v := .pointer (some ⟨D, 2, none⟩)) rfl (by kernel_rfl) (by kernel_rfl) (by kernel_rfl) (fun _ _ _ h => h) (Or.inl ⟨by rfl, ?_⟩) hS ?_
      · intro U hU
        obtain ⟨s0, s1, s2⟩ := hU
        go_simp
      simp only [Act.put, List.setIfInBounds_toArray, List.set_cons_zero, List.set_cons_succ]
      refine wpAnyL_take (i := 1) (v := .int .i64 a2) rfl (by kernel_rfl) (by kernel_rfl) (by kernel_rfl) (fun _ _ _ h => h) (Or.inl ⟨by rfl, ?_⟩) hS ?_
      · intro U hU
        obtain ⟨s0, s1, s2⟩ := hU
        go_simp
      simp only [Act.put, List.setIfInBounds_toArray, List.set_cons_zero, List.set_cons_succ]
      refine wpAnyL_take (i := 2) (v := .int .i64 (mw : Int)) rfl (by kernel_rfl) (by kernel_rfl) (by kernel_rfl) (fun _ _ _ h => h) (Or.inl ⟨by rfl, ?_⟩) hS ?_
      · intro U hU
        obtain ⟨s0, s1, s2⟩ := hU
        go_simp
      simp only [Act.put, List.setIfInBounds_toArray, List.set_cons_zero, List.set_cons_succ]
      refine wpAnyL_call (i := 3) (v := .int .i64 X1) (f := 54) (args := #[.int .i64 a2, .int .i64 (mw : Int)]) rfl (by kernel_rfl) (by kernel_rfl) (by kernel_rfl) (fun _ _ _ h => h) (by rfl) (fun w => ((HC2.out w).mono (fun e w' h => ⟨h.1, h.2.symm⟩))) ?_ hS ?_
      · intro U hU
        obtain ⟨s0, s1, s2⟩ := hU
        go_simp
      simp only [Act.put, List.setIfInBounds_toArray, List.set_cons_zero, List.set_cons_succ]
      refine wpAnyL_take (i := 4) (v := .int .i64 X0) rfl (by kernel_rfl) (by kernel_rfl) (by kernel_rfl) (fun _ _ _ h => h) (Or.inl ⟨by rfl, ?_⟩) hS ?_
      · intro U hU
        obtain ⟨s0, s1, s2⟩ := hU
        go_simp
      simp only [Act.put, List.setIfInBounds_toArray, List.set_cons_zero, List.set_cons_succ]
      refine wpAnyL_take (i := 5) (v := .int .i64 (Wd : Int)) rfl (by kernel_rfl) (by kernel_rfl) (by kernel_rfl) (fun _ _ _ h => h) (Or.inl ⟨by rfl, ?_⟩) hS ?_
      · intro U hU
        obtain ⟨s0, s1, s2⟩ := hU
        have hz := HW.out
        go_simp
      simp only [Act.put, List.setIfInBounds_toArray, List.set_cons_zero, List.set_cons_succ]
      refine wpAnyL_take (i := 6) (v := .int .i64 (Wd : Int)) rfl (by kernel_rfl) (by kernel_rfl) (by kernel_rfl) (fun _ _ _ h => h) (Or.inl ⟨by rfl, ?_⟩) hS ?_
      · intro U hU
        obtain ⟨s0, s1, s2⟩ := hU
        go_simp
      simp only [Act.put, List.setIfInBounds_toArray, List.set_cons_zero, List.set_cons_succ]
      refine wpAnyL_done (by kernel_rfl) ?_ _
      simp only [OnlyN]
      refine ⟨?_, bV⟩
      first | trivial | rfl
    rintro a' V10 ⟨rfl, b10⟩
    simp only [Act.put, List.setIfInBounds_toArray, List.set_cons_zero, List.set_cons_succ]
    have all10 := (b10.block D (by omega)).trans all9
    have out10 := (b10.block (q + 3) (by omega)).trans out9
    have bel10 := bel9.trans (b10.mono (by omega))
    have x8 := (b10.block g8 (by omega)).trans x8
    have x9 := (b10.block g9 (by omega)).trans x9
    have xx := (b10.block gx (by omega)).trans xx
    have xy := (b10.block gy (by omega)).trans xy
    have sz10 : D < V10.heap.size ∧ g8 < V10.heap.size ∧ g9 < V10.heap.size ∧ gx < V10.heap.size ∧ gy < V10.heap.size := by have := b10.size; omega
    clear b10 all9 out9 bel9 z9
    gi_wp2
    refine wpIn_wide.2 ?_
    refine last_cut (by kernel_rfl) (fun U => U.cell? ⟨D, 3, none⟩ = some (.int .i64 a3) ∧ U.cell? ⟨g9, 0, none⟩ = some (.int .i64 (mh : Int)) ∧ U.cell? ⟨gy, 0, none⟩ = some (.int .i64 Y0)) (fun aF a' W' => ∃ s, a' = ((((((((aF.put (some 70) (.int .i64 (Wd : Int))).put (some 71) (.pointer (some ⟨D, 3, none⟩))).put (some 72) (.int .i64 a3)).put (some 73) (.int .i64 (mh : Int))).put (some 74) (.int .i64 Y1)).put (some 75) (.int .i64 Y0)).put (some 76) (.int .i64 (Hd : Int))).put (some 77) (.func (.func 62) #[] #[.pointer (some ⟨s + 1, 0, none⟩), .pointer (some ⟨s, 0, none⟩)])) ∧ Boxed W' s 3 (.int .i64 (Wd : Int)) ∧ Boxed W' (s + 1) 3 (.int .i64 (Hd : Int)) ∧ Below V10.heap.size V10 W' ∧ W'.heap.size = s + 2 ∧ V10.heap.size ≤ s) ⟨cell_of_row _ _ 3 _ _ (0, 0) all10, Boxed.cell x9, Boxed.cell xy⟩ (fun hS => ?_) ?_
    · skip
      have hSB : ∀ U : World, Below (V10.heap.size) V10 U → U.cell? ⟨D, 3, none⟩ = some (.int .i64 a3) ∧ U.cell? ⟨g9, 0, none⟩ = some (.int .i64 (mh : Int)) ∧ U.cell? ⟨gy, 0, none⟩ = some (.int .i64 Y0) := fun U h => ⟨(h.cell (p := ⟨D, 3, none⟩) (by simp only; omega)).trans (cell_of_row _ _ 3 _ _ (0, 0) all10), (h.cell (p := ⟨g9, 0, none⟩) (by simp only; omega)).trans (Boxed.cell x9), (h.cell (p := ⟨gy, 0, none⟩) (by simp only; omega)).trans (Boxed.cell xy)⟩
      have bV : Below V10.heap.size V10 V10.drew := (Below.refl _ _).drew
      generalize V10.drew = V0 at *
      refine wpAnyL_take (i := 0) (v := .int .i64 (Wd : Int)) rfl (by kernel_rfl) (by kernel_rfl) (by kernel_rfl) (fun _ _ _ h => h) (Or.inl ⟨by rfl, ?_⟩) hS ?_
      · intro U hU
        obtain ⟨s0, s1, s2⟩ := hU
        go_simp
      simp only [Act.put, List.setIfInBounds_toArray, List.set_cons_zero, List.set_cons_succ]
      refine wpAnyL_take (i := 1) (v := .pointer (some ⟨D, 3, none⟩)) rfl (by kernel_rfl) (by kernel_rfl) (by kernel_rfl) (fun _ _ _ h => h) (Or.inl ⟨by rfl, ?_⟩) hS ?_
      · intro U hU
        obtain ⟨s0, s1, s2⟩ := hU
        go_simp
      simp only [Act.put, List.setIfInBounds_toArray, List.set_cons_zero, List.set_cons_succ]
      refine wpAnyL_take (i := 2) (v := .int .i64 a3) rfl (by kernel_rfl) (by kernel_rfl) (by kernel_rfl) (fun _ _ _ h => h) (Or.inl ⟨by rfl, ?_⟩) hS ?_
      · intro U hU
        obtain ⟨s0, s1, s2⟩ := hU
        go_simp
      simp only [Act.put, List.setIfInBounds_toArray, List.set_cons_zero, List.set_cons_succ]
      refine wpAnyL_take (i := 3) (v := .int .i64 (mh : Int)) rfl (by kernel_rfl) (by kernel_rfl) (by kernel_rfl) (fun _ _ _ h => h) (Or.inl ⟨by rfl, ?_⟩) hS ?_
      · intro U hU
        obtain ⟨s0, s1, s2⟩ := hU
        go_simp
      simp only [Act.put, List.setIfInBounds_toArray, List.set_cons_zero, List.set_cons_succ]
      refine wpAnyL_call (i := 4) (v := .int .i64 Y1) (f := 54) (args := #[.int .i64 a3, .int .i64 (mh : Int)]) rfl (by kernel_rfl) (by kernel_rfl) (by kernel_rfl) (fun _ _ _ h => h) (by rfl) (fun w => ((HC3.out w).mono (fun e w' h => ⟨h.1, h.2.symm⟩))) ?_ hS ?_
      · intro U hU
        obtain ⟨s0, s1, s2⟩ := hU
        go_simp
      simp only [Act.put, List.setIfInBounds_toArray, List.set_cons_zero, List.set_cons_succ]
      refine wpAnyL_take (i := 5) (v := .int .i64 Y0) rfl (by kernel_rfl) (by kernel_rfl) (by kernel_rfl) (fun _ _ _ h => h) (Or.inl ⟨by rfl, ?_⟩) hS ?_
      · intro U hU
        obtain ⟨s0, s1, s2⟩ := hU
        go_simp
      simp only [Act.put, List.setIfInBounds_toArray, List.set_cons_zero, List.set_cons_succ]
      refine wpAnyL_take (i := 6) (v := .int .i64 (Hd : Int)) rfl (by kernel_rfl) (by kernel_rfl) (by kernel_rfl) (fun _ _ _ h => h) (Or.inl ⟨by rfl, ?_⟩) hS ?_
      · intro U hU
        obtain ⟨s0, s1, s2⟩ := hU
        have hz := HH.out
        go_simp
      simp only [Act.put, List.setIfInBounds_toArray, List.set_cons_zero, List.set_cons_succ]
      refine wpAnyL_ready (rs := [7]) (by kernel_rfl) (by simp) ?_
      refine AllReadyL.cons (by simp only [List.getElem?_toArray, List.getElem?_cons_succ, List.getElem?_cons_zero]; rfl) (fun K' hK' => ?_) AllReadyL.nil
      go_simp
      go_at_call 46
      refine (places_any _ _ _).mono ?_
      rintro e w' ⟨rfl, rfl⟩
      obtain ⟨s, hs⟩ : ∃ s, V0.heap.size = s := ⟨_, rfl⟩
      rw [hs]
      have p1 := Boxed.alloc (Boxed.new V0 3 (.int .i64 (Wd : Int))) (.cells #[.int .i64 (Hd : Int)] 3)
      have p2 := Boxed.new (V0.alloc (.cells #[.int .i64 (Wd : Int)] 3)) 3 (.int .i64 (Hd : Int))
      rw [hs] at p1
      rw [World.size_alloc, hs] at p2
      have bp := below_alloc (below_alloc bV (.cells #[.int .i64 (Wd : Int)] 3)) (.cells #[.int .i64 (Hd : Int)] 3)
      have sp : ((V0.alloc (.cells #[.int .i64 (Wd : Int)] 3)).alloc (.cells #[.int .i64 (Hd : Int)] 3)).heap.size = s + 2 := by simp [hs]
      have s0 : V10.heap.size ≤ s := by rw [← hs]; exact bV.size
      generalize (V0.alloc (.cells #[.int .i64 (Wd : Int)] 3)).alloc (.cells #[.int .i64 (Hd : Int)] 3) = U7 at *
      dsimp only
      have hS := hSB _ bp
      refine hK'.out _ _ hS (fun _ => ?_)
      clear hK' K'
      try simp only [Act.put, List.setIfInBounds_toArray, List.set_cons_zero, List.set_cons_succ]
      refine wpAnyL_done (by kernel_rfl) ?_ _
      simp only [OnlyN]
      refine ⟨s, ?_, p1, p2, bp, sp, s0⟩
      first | trivial | rfl
    rintro a' V11 ⟨s, rfl, p1, p2, b11, sz11, hs⟩
    simp only [Act.put, List.setIfInBounds_toArray, List.set_cons_zero, List.set_cons_succ]
    have ho : BlkO q D g8 g9 gx gy s := by unfold BlkO; omega
    have hF11 : BlkF q D g8 g9 gx gy s w0 a0 a1 a2 a3 mw mh X0 Y0 V11 := ⟨(b11.block D (by omega)).trans all10, (b11.block g8 (by omega)).trans x8, (b11.block g9 (by omega)).trans x9, (b11.block gx (by omega)).trans xx, (b11.block gy (by omega)).trans xy, bel10.trans (b11.mono (by omega)), by omega⟩
    have out11 : Boxed V11 (q + 3) 49 (.slice none 0 0) := (b11.block (q + 3) (by omega)).trans out10
    clear b11 all10 out10 bel10 x8 x9 xx xy sz10 ogx ogy n89 nxy y8 y9 yx yy hs HF0 HF1 HC2 HC3 HM HN lx ly'
    gi_wp2
    have hseq : SeqStopsK Fence.wide 3 Try.prog 62 #[.pointer (some ⟨s + 1, 0, none⟩), .pointer (some ⟨s, 0, none⟩)] (encG Wd Hd) (Keeps2 (s + 1) s) (fun xs => xs.map Subtype.val = grid Wd Hd) (fun _ => True) (Wd * Hd + 1) V11 := fun l J Jx V hV _ _ hY h0 =>
      places1_in 3 (by omega) l _ _ Wd Hd (by omega) (by omega) J Jx hY V ((hV.cell (p := ⟨s + 1, 0, none⟩) p2.lt).trans p2.cell) ((hV.cell (p := ⟨s, 0, none⟩) p1.lt).trans p1.cell) h0
    have HO := Lib.hid ho
    have hN : Wd * Hd ≤ 1048576 := by
      have := Nat.mul_le_mul hWb.2 hHb.2
      omega
    refine' wpIn_rangeFunc_ownF rfl (by omega) rfl trivial (enters_of Try.func62 (by kernel_rfl) rfl) hseq Keeps2.trans (fun V l o o' hl ho hc _ => keeps2_put (by omega) (by omega)) (Below.refl _ _) (fun _ => rfl)
      (fun pre V => BlkI q D g8 g9 gx gy s w0 a0 a1 a2 a3 mw mh X0 Y0 F (pre.map Subtype.val) V) (fun _ _ _ => False) (blkI_own (B := V11.heap.size) HO.out (by omega)) (fun _ _ _ _ _ hs _ _ => hs) ?start _ ?assign ?body ?done ?stop
    case start => exact ⟨none, 0, hF11, out11, OwnC.nil_ _ _ _ _ _ (rowR_len _ _)⟩
    case assign =>
      intro l x V K hK
      gi_wp2
      exact hK
    case body =>
      rintro l pre ⟨⟨x, y⟩, hx, hy⟩ V ⟨X, cx, hF, bO, oX⟩ hlen
      have hLl : (pre.map Subtype.val).length = pre.length := List.length_map ..
      have hmapx : (pre ++ [(⟨(x, y), hx, hy⟩ : Cell2 Wd Hd)]).map Subtype.val = pre.map Subtype.val ++ [(x, y)] := by simp
      unfold ownPostK
      simp only [hmapx]
      generalize pre.map Subtype.val = L at *
      simp only at hx hy
      have hLn : L.length ≤ 1048576 := by omega
      clear hLl hmapx hlen
      have oX := oX.congr (g := rowR F (L ++ [(x, y)])) (rowR_len _ _) (fun k hk => (rowR_lt _ _ _ hk).symm)
      have hnew := rowR_new F L (x, y)
      obtain ⟨xi, hxi⟩ : ∃ z : Int, (x : Int) + X0 = z := ⟨_, rfl⟩
      obtain ⟨yi, hyi⟩ : ∃ z : Int, (y : Int) + Y0 = z := ⟨_, rfl⟩
      have hxb : 0 ≤ xi ∧ xi ≤ 2048 := by omega
      have hyb : 0 ≤ yi ∧ yi ≤ 2048 := by omega
      obtain ⟨sx0, ex0⟩ : ∃ z, xi * 2 ^ mw = z := ⟨_, rfl⟩
      obtain ⟨sy0, ey0⟩ : ∃ z, yi * 2 ^ mh = z := ⟨_, rfl⟩
      obtain ⟨sx1, ex1⟩ : ∃ z, (xi + 1) * 2 ^ mw = z := ⟨_, rfl⟩
      obtain ⟨sy1, ey1⟩ : ∃ z, (yi + 1) * 2 ^ mh = z := ⟨_, rfl⟩
      have hFc := hF' (x, y)
      simp only [hxi, hyi, ex0, ey0, ex1, ey1] at hFc
      have hrc : rcL (F (x, y)) = [.int .i64 (F (x, y)).x0, .int .i64 (F (x, y)).y0, .int .i64 (F (x, y)).x1, .int .i64 (F (x, y)).y1] := rfl
      have hboth := fun v => both_any ⟨a0, a1, a2, a3⟩ ⟨sx0, sy0, sx1, sy1⟩ v
      rw [← hFc] at hboth
      unfold rcV at hboth
      simp only at hboth
      rw [hrc] at hnew
      clear hFc hrc
      generalize (F (x, y)).x0 = r0 at *
      generalize (F (x, y)).y0 = r1 at *
      generalize (F (x, y)).x1 = r2 at *
      generalize (F (x, y)).y1 = r3 at *
      have HB := Lib.hid hboth
      have HNW := Lib.hid hnew
      have wx : IntKind.i64.wrap ((x : Int) + X0) = xi := by rw [hxi]; exact wr (by omega)
      have wy : IntKind.i64.wrap ((y : Int) + Y0) = yi := by rw [hyi]; exact wr (by omega)
      have Z1 := Lib.hid (show IntKind.i64.wrap (xi * 2 ^ mw) = sx0 by rw [shl_ok (by omega) (by omega) mw15, ex0])
      have Z2 := Lib.hid (show IntKind.i64.wrap (yi * 2 ^ mh) = sy0 by rw [shl_ok (by omega) (by omega) mh15, ey0])
      have Z3 := Lib.hid (show IntKind.i64.wrap ((xi + 1) * 2 ^ mw) = sx1 by rw [shl_ok (by omega) (by omega) mw15, ex1])
      have Z4 := Lib.hid (show IntKind.i64.wrap ((yi + 1) * 2 ^ mh) = sy1 by rw [shl_ok (by omega) (by omega) mh15, ey1])
      have Z5 := Lib.hid (show IntKind.i64.wrap (xi + 1) = xi + 1 from wr (by omega))
      have Z6 := Lib.hid (show IntKind.i64.wrap (yi + 1) = yi + 1 from wr (by omega))
      have WX := Lib.hid wx
      have WY := Lib.hid wy
      have HF' := Lib.hid hF'
      have hsz := hF.sz
      have fF := hF
      have bOc := bO.cell
      have oQ := ho
      unfold BlkO at oQ
      clear hboth hnew wx wy hxi hyi ex0 ey0 ex1 ey1 hxb hyb hF'
      gi_wp2
      refine last_round (by kernel_rfl) (by kernel_rfl) (fun U => U.cell? ⟨gx, 0, none⟩ = some (.int .i64 X0) ∧ U.cell? ⟨gy, 0, none⟩ = some (.int .i64 Y0)) (fun aF a' W' => a' = ((((((((aF.put (some 80) (.int .i64 (x : Int))).put (some 81) (.int .i64 X0)).put (some 82) (.int .i64 xi)).put (some 83) (.int .i64 (y : Int))).put (some 84) (.int .i64 Y0)).put (some 85) (.int .i64 yi)).put (some 18) (.int .i64 xi)).put (some 19) (.int .i64 yi)) ∧ Below V.heap.size V W') ⟨hF.bx.cell, hF.by_.cell⟩ (fun hS => ?_) ?_
      · skip
        have hSB : ∀ U : World, Below (V.heap.size) V U → U.cell? ⟨gx, 0, none⟩ = some (.int .i64 X0) ∧ U.cell? ⟨gy, 0, none⟩ = some (.int .i64 Y0) := fun U h => ⟨(h.cell (p := ⟨gx, 0, none⟩) (by simp only; omega)).trans (hF.bx.cell), (h.cell (p := ⟨gy, 0, none⟩) (by simp only; omega)).trans (hF.by_.cell)⟩
        have bV : Below V.heap.size V V.drew := (Below.refl _ _).drew
        generalize V.drew = V0 at *
        refine wpAnyL_take (i := 0) (v := .int .i64 (x : Int)) rfl (by kernel_rfl) (by kernel_rfl) (by kernel_rfl) (fun _ _ _ h => h) (Or.inl ⟨by rfl, ?_⟩) hS ?_
        · intro U hU
          obtain ⟨s0, s1⟩ := hU
          go_simp
        simp only [Act.put, List.setIfInBounds_toArray, List.set_cons_zero, List.set_cons_succ]
        refine wpAnyL_take (i := 1) (v := .int .i64 X0) rfl (by kernel_rfl) (by kernel_rfl) (by kernel_rfl) (fun _ _ _ h => h) (Or.inl ⟨by rfl, ?_⟩) hS ?_
        · intro U hU
          obtain ⟨s0, s1⟩ := hU
          go_simp
        simp only [Act.put, List.setIfInBounds_toArray, List.set_cons_zero, List.set_cons_succ]
        refine wpAnyL_take (i := 2) (v := .int .i64 xi) rfl (by kernel_rfl) (by kernel_rfl) (by kernel_rfl) (fun _ _ _ h => h) (Or.inl ⟨by rfl, ?_⟩) hS ?_
        · intro U hU
          obtain ⟨s0, s1⟩ := hU
          have hz := WX.out
          go_simp
        simp only [Act.put, List.setIfInBounds_toArray, List.set_cons_zero, List.set_cons_succ]
        refine wpAnyL_take (i := 3) (v := .int .i64 (y : Int)) rfl (by kernel_rfl) (by kernel_rfl) (by kernel_rfl) (fun _ _ _ h => h) (Or.inl ⟨by rfl, ?_⟩) hS ?_
        · intro U hU
          obtain ⟨s0, s1⟩ := hU
          go_simp
        simp only [Act.put, List.setIfInBounds_toArray, List.set_cons_zero, List.set_cons_succ]
        refine wpAnyL_take (i := 4) (v := .int .i64 Y0) rfl (by kernel_rfl) (by kernel_rfl) (by kernel_rfl) (fun _ _ _ h => h) (Or.inl ⟨by rfl, ?_⟩) hS ?_
        · intro U hU
          obtain ⟨s0, s1⟩ := hU
          go_simp
        simp only [Act.put, List.setIfInBounds_toArray, List.set_cons_zero, List.set_cons_succ]
        refine wpAnyL_take (i := 5) (v := .int .i64 yi) rfl (by kernel_rfl) (by kernel_rfl) (by kernel_rfl) (fun _ _ _ h => h) (Or.inl ⟨by rfl, ?_⟩) hS ?_
        · intro U hU
          obtain ⟨s0, s1⟩ := hU
          have hz := WY.out
          go_simp
        simp only [Act.put, List.setIfInBounds_toArray, List.set_cons_zero, List.set_cons_succ]
        refine wpAnyL_take (i := 6) (v := .int .i64 xi) rfl (by kernel_rfl) (by kernel_rfl) (by kernel_rfl) (fun _ _ _ h => h) (Or.inl ⟨by rfl, ?_⟩) hS ?_
        · intro U hU
          obtain ⟨s0, s1⟩ := hU
          go_simp
        simp only [Act.put, List.setIfInBounds_toArray, List.set_cons_zero, List.set_cons_succ]
        refine wpAnyL_take (i := 7) (v := .int .i64 yi) rfl (by kernel_rfl) (by kernel_rfl) (by kernel_rfl) (fun _ _ _ h => h) (Or.inl ⟨by rfl, ?_⟩) hS ?_
        · intro U hU
          obtain ⟨s0, s1⟩ := hU
          go_simp
        simp only [Act.put, List.setIfInBounds_toArray, List.set_cons_zero, List.set_cons_succ]
        refine wpAnyL_done (by kernel_rfl) ?_ _
        simp only [OnlyN]
        refine ⟨?_, bV⟩
        first | trivial | rfl
      rintro a' V1 ⟨rfl, b1⟩
      simp only [Act.put, List.setIfInBounds_toArray, List.set_cons_zero, List.set_cons_succ]
      have hF1 := hF.below b1 HO.out (by omega)
      have bO1 : Boxed V1 _ _ _ := (b1.block (q + 3) (by omega)).trans bO
      have oX1 := oX.below b1
      have oth1 := others_of_below b1
      have kp1 : Keeps2 (s + 1) s V V1 := ⟨b1.block _ (by omega), b1.block _ (by omega)⟩
      have hsz1 : s + 2 ≤ V1.heap.size := hF1.sz
      clear bO oX fF bOc hsz b1
      gi_wp2
      refine last_round (by kernel_rfl) (by kernel_rfl) (fun U => U.cell? ⟨D, 0, none⟩ = some (.int .i64 a0) ∧ U.cell? ⟨D, 1, none⟩ = some (.int .i64 a1) ∧ U.cell? ⟨D, 2, none⟩ = some (.int .i64 a2) ∧ U.cell? ⟨D, 3, none⟩ = some (.int .i64 a3) ∧ U.cell? ⟨g8, 0, none⟩ = some (.int .i64 (mw : Int)) ∧ U.cell? ⟨g9, 0, none⟩ = some (.int .i64 (mh : Int)) ∧ U.cell? ⟨q + 3, 0, none⟩ = some (.slice X L.length cx)) (fun aF a' W' => True ∧ KeepsOthers V W' ∧ Keeps2 (s + 1) s V W' ∧ BlkI q D g8 g9 gx gy s w0 a0 a1 a2 a3 mw mh X0 Y0 F (L ++ [(x, y)]) W') ⟨cell_of_row _ _ 0 _ _ (0, 0) hF1.all, cell_of_row _ _ 1 _ _ (0, 0) hF1.all, cell_of_row _ _ 2 _ _ (0, 0) hF1.all, cell_of_row _ _ 3 _ _ (0, 0) hF1.all, hF1.bw.cell, hF1.bh.cell, bO1.cell⟩ (fun hS => ?_) ?_
      · skip
        have hSB : ∀ U : World, Below (s + 2) V1 U → U.cell? ⟨D, 0, none⟩ = some (.int .i64 a0) ∧ U.cell? ⟨D, 1, none⟩ = some (.int .i64 a1) ∧ U.cell? ⟨D, 2, none⟩ = some (.int .i64 a2) ∧ U.cell? ⟨D, 3, none⟩ = some (.int .i64 a3) ∧ U.cell? ⟨g8, 0, none⟩ = some (.int .i64 (mw : Int)) ∧ U.cell? ⟨g9, 0, none⟩ = some (.int .i64 (mh : Int)) ∧ U.cell? ⟨q + 3, 0, none⟩ = some (.slice X L.length cx) := fun U h => ⟨(h.cell (p := ⟨D, 0, none⟩) (by simp only; omega)).trans (cell_of_row _ _ 0 _ _ (0, 0) hF1.all), (h.cell (p := ⟨D, 1, none⟩) (by simp only; omega)).trans (cell_of_row _ _ 1 _ _ (0, 0) hF1.all), (h.cell (p := ⟨D, 2, none⟩) (by simp only; omega)).trans (cell_of_row _ _ 2 _ _ (0, 0) hF1.all), (h.cell (p := ⟨D, 3, none⟩) (by simp only; omega)).trans (cell_of_row _ _ 3 _ _ (0, 0) hF1.all), (h.cell (p := ⟨g8, 0, none⟩) (by simp only; omega)).trans (hF1.bw.cell), (h.cell (p := ⟨g9, 0, none⟩) (by simp only; omega)).trans (hF1.bh.cell), (h.cell (p := ⟨q + 3, 0, none⟩) (by simp only; omega)).trans (bO1.cell)⟩
        have bV : Below V1.heap.size V1 V1.drew := (Below.refl _ _).drew
        generalize V1.drew = V0 at *
        refine wpAnyL_take (i := 0) (v := .slice X L.length cx) rfl (by kernel_rfl) (by kernel_rfl) (by kernel_rfl) (fun _ _ _ h => h) (Or.inl ⟨by rfl, ?_⟩) hS ?_
        · intro U hU
          obtain ⟨s0, s1, s2, s3, s4, s5, s6⟩ := hU
          go_simp
        simp only [Act.put, List.setIfInBounds_toArray, List.set_cons_zero, List.set_cons_succ]
        refine wpAnyL_take (i := 1) (v := .agg #[.int .i64 a0, .int .i64 a1, .int .i64 a2, .int .i64 a3]) rfl (by kernel_rfl) (by kernel_rfl) (by kernel_rfl) (fun _ _ _ h => h) (Or.inl ⟨by rfl, ?_⟩) hS ?_
        · intro U hU
          obtain ⟨s0, s1, s2, s3, s4, s5, s6⟩ := hU
          go_simp
        simp only [Act.put, List.setIfInBounds_toArray, List.set_cons_zero, List.set_cons_succ]
        refine wpAnyL_take (i := 2) (v := .int .i64 xi) rfl (by kernel_rfl) (by kernel_rfl) (by kernel_rfl) (fun _ _ _ h => h) (Or.inl ⟨by rfl, ?_⟩) hS ?_
        · intro U hU
          obtain ⟨s0, s1, s2, s3, s4, s5, s6⟩ := hU
          go_simp
        simp only [Act.put, List.setIfInBounds_toArray, List.set_cons_zero, List.set_cons_succ]
        refine wpAnyL_take (i := 3) (v := .int .i64 (mw : Int)) rfl (by kernel_rfl) (by kernel_rfl) (by kernel_rfl) (fun _ _ _ h => h) (Or.inl ⟨by rfl, ?_⟩) hS ?_
        · intro U hU
          obtain ⟨s0, s1, s2, s3, s4, s5, s6⟩ := hU
          go_simp
        simp only [Act.put, List.setIfInBounds_toArray, List.set_cons_zero, List.set_cons_succ]
        refine wpAnyL_take (i := 4) (v := .int .i64 sx0) rfl (by kernel_rfl) (by kernel_rfl) (by kernel_rfl) (fun _ _ _ h => h) (Or.inl ⟨by rfl, ?_⟩) hS ?_
        · intro U hU
          obtain ⟨s0, s1, s2, s3, s4, s5, s6⟩ := hU
          have hz := Z1.out
          go_simp
        simp only [Act.put, List.setIfInBounds_toArray, List.set_cons_zero, List.set_cons_succ]
        refine wpAnyL_take (i := 5) (v := .int .i64 yi) rfl (by kernel_rfl) (by kernel_rfl) (by kernel_rfl) (fun _ _ _ h => h) (Or.inl ⟨by rfl, ?_⟩) hS ?_
        · intro U hU
          obtain ⟨s0, s1, s2, s3, s4, s5, s6⟩ := hU
          go_simp
        simp only [Act.put, List.setIfInBounds_toArray, List.set_cons_zero, List.set_cons_succ]
        refine wpAnyL_take (i := 6) (v := .int .i64 (mh : Int)) rfl (by kernel_rfl) (by kernel_rfl) (by kernel_rfl) (fun _ _ _ h => h) (Or.inl ⟨by rfl, ?_⟩) hS ?_
        · intro U hU
          obtain ⟨s0, s1, s2, s3, s4, s5, s6⟩ := hU
          go_simp
        simp only [Act.put, List.setIfInBounds_toArray, List.set_cons_zero, List.set_cons_succ]
        refine wpAnyL_take (i := 7) (v := .int .i64 sy0) rfl (by kernel_rfl) (by kernel_rfl) (by kernel_rfl) (fun _ _ _ h => h) (Or.inl ⟨by rfl, ?_⟩) hS ?_
        · intro U hU
          obtain ⟨s0, s1, s2, s3, s4, s5, s6⟩ := hU
          have hz := Z2.out
          go_simp
        simp only [Act.put, List.setIfInBounds_toArray, List.set_cons_zero, List.set_cons_succ]
        refine wpAnyL_take (i := 8) (v := .int .i64 xi) rfl (by kernel_rfl) (by kernel_rfl) (by kernel_rfl) (fun _ _ _ h => h) (Or.inl ⟨by rfl, ?_⟩) hS ?_
        · intro U hU
          obtain ⟨s0, s1, s2, s3, s4, s5, s6⟩ := hU
          go_simp
        simp only [Act.put, List.setIfInBounds_toArray, List.set_cons_zero, List.set_cons_succ]
        refine wpAnyL_take (i := 9) (v := .int .i64 (xi + 1)) rfl (by kernel_rfl) (by kernel_rfl) (by kernel_rfl) (fun _ _ _ h => h) (Or.inl ⟨by rfl, ?_⟩) hS ?_
        · intro U hU
          obtain ⟨s0, s1, s2, s3, s4, s5, s6⟩ := hU
          have hz := Z5.out
          go_simp
        simp only [Act.put, List.setIfInBounds_toArray, List.set_cons_zero, List.set_cons_succ]
        refine wpAnyL_take (i := 10) (v := .int .i64 (mw : Int)) rfl (by kernel_rfl) (by kernel_rfl) (by kernel_rfl) (fun _ _ _ h => h) (Or.inl ⟨by rfl, ?_⟩) hS ?_
        · intro U hU
          obtain ⟨s0, s1, s2, s3, s4, s5, s6⟩ := hU
          go_simp
        simp only [Act.put, List.setIfInBounds_toArray, List.set_cons_zero, List.set_cons_succ]
        refine wpAnyL_take (i := 11) (v := .int .i64 sx1) rfl (by kernel_rfl) (by kernel_rfl) (by kernel_rfl) (fun _ _ _ h => h) (Or.inl ⟨by rfl, ?_⟩) hS ?_
        · intro U hU
          obtain ⟨s0, s1, s2, s3, s4, s5, s6⟩ := hU
          have hz := Z3.out
          go_simp
        simp only [Act.put, List.setIfInBounds_toArray, List.set_cons_zero, List.set_cons_succ]
        refine wpAnyL_take (i := 12) (v := .int .i64 yi) rfl (by kernel_rfl) (by kernel_rfl) (by kernel_rfl) (fun _ _ _ h => h) (Or.inl ⟨by rfl, ?_⟩) hS ?_
        · intro U hU
          obtain ⟨s0, s1, s2, s3, s4, s5, s6⟩ := hU
          go_simp
        simp only [Act.put, List.setIfInBounds_toArray, List.set_cons_zero, List.set_cons_succ]
        refine wpAnyL_take (i := 13) (v := .int .i64 (yi + 1)) rfl (by kernel_rfl) (by kernel_rfl) (by kernel_rfl) (fun _ _ _ h => h) (Or.inl ⟨by rfl, ?_⟩) hS ?_
        · intro U hU
          obtain ⟨s0, s1, s2, s3, s4, s5, s6⟩ := hU
          have hz := Z6.out
          go_simp
        simp only [Act.put, List.setIfInBounds_toArray, List.set_cons_zero, List.set_cons_succ]
        refine wpAnyL_take (i := 14) (v := .int .i64 (mh : Int)) rfl (by kernel_rfl) (by kernel_rfl) (by kernel_rfl) (fun _ _ _ h => h) (Or.inl ⟨by rfl, ?_⟩) hS ?_
        · intro U hU
          obtain ⟨s0, s1, s2, s3, s4, s5, s6⟩ := hU
          go_simp
        simp only [Act.put, List.setIfInBounds_toArray, List.set_cons_zero, List.set_cons_succ]
        refine wpAnyL_take (i := 15) (v := .int .i64 sy1) rfl (by kernel_rfl) (by kernel_rfl) (by kernel_rfl) (fun _ _ _ h => h) (Or.inl ⟨by rfl, ?_⟩) hS ?_
        · intro U hU
          obtain ⟨s0, s1, s2, s3, s4, s5, s6⟩ := hU
          have hz := Z4.out
          go_simp
        simp only [Act.put, List.setIfInBounds_toArray, List.set_cons_zero, List.set_cons_succ]
        refine wpAnyL_take (i := 16) (v := .agg #[.int .i64 sx0, .int .i64 sy0, .int .i64 sx1, .int .i64 sy1]) rfl (by kernel_rfl) (by kernel_rfl) (by kernel_rfl) (fun _ _ _ h => h) (Or.inl ⟨by rfl, ?_⟩) hS ?_
        · intro U hU
          obtain ⟨s0, s1, s2, s3, s4, s5, s6⟩ := hU
          go_simp
        simp only [Act.put, List.setIfInBounds_toArray, List.set_cons_zero, List.set_cons_succ]
        refine wpAnyL_ready (rs := [17]) (by kernel_rfl) (by simp) ?_
        refine AllReadyL.cons (by simp only [List.getElem?_toArray, List.getElem?_cons_succ, List.getElem?_cons_zero]; rfl) (fun K' hK' => ?_) AllReadyL.nil
        go_simp
        go_at_call 47
        refine (HB.out _).mono ?_
        rintro e U17 ⟨rfl, hb17⟩
        have b17 := below_trans bV hb17
        have hS := hSB _ (b17.mono hsz1)
        dsimp only
        refine hK'.out _ _ hS (fun _ => ?_)
        clear hK' K'
        try simp only [Act.put, List.setIfInBounds_toArray, List.set_cons_zero, List.set_cons_succ]
        refine wpAnyL_ready (rs := [18]) (by kernel_rfl) (by simp) ?_
        refine AllReadyL.cons (by simp only [List.getElem?_toArray, List.getElem?_cons_succ, List.getElem?_cons_zero]; rfl) (fun K' hK' => ?_) AllReadyL.nil
        go_simp
        have b18 := below_alloc b17 (.cells #[.int .i64 r0, .int .i64 r1, .int .i64 r2, .int .i64 r3] 53)
        have hS := hSB _ (b18.mono hsz1)
        refine hK'.out _ _ hS (fun _ => ?_)
        obtain ⟨h9, hh9⟩ : ∃ h9, U17.heap.size = h9 := ⟨_, rfl⟩
        try rw [hh9]
        have hcel : ∀ (j : Nat) (u : Value), (rowR F (L ++ [(x, y)]) L.length)[j]? = some u → (U17.alloc (.cells #[.int .i64 r0, .int .i64 r1, .int .i64 r2, .int .i64 r3] 53)).cell? ⟨h9, j, none⟩ = some u := fun j u hj => by
          rw [HNW.out] at hj
          rw [← hh9, cell_of_row _ _ _ _ _ (0, 0) (heap_alloc_new U17 _)]
          simpa using hj
        generalize U17.alloc (.cells #[.int .i64 r0, .int .i64 r1, .int .i64 r2, .int .i64 r3] 53) = U18 at *
        clear hh9
        clear hK' K'
        try simp only [Act.put, List.setIfInBounds_toArray, List.set_cons_zero, List.set_cons_succ]
        refine wpAnyL_ready (rs := [19]) (by kernel_rfl) (by simp) ?_
        refine AllReadyL.cons (by simp only [List.getElem?_toArray, List.getElem?_cons_succ, List.getElem?_cons_zero]; rfl) (fun K' hK' => ?_) AllReadyL.nil
        refine step_appC V1 b18 (others_of_below b18) (by rfl) _ _ 49 (by rfl) 53 4 rect_elem (s + 2) X L.length cx _ (by rfl) oX1 h9 (by rfl) hcel (fun u hu => by rw [HNW.out] at hu; simp at hu; rcases hu with rfl | rfl | rfl | rfl <;> rfl) hLn hsz1 ?_
        intro g1 cap1 U19 og sg hg
        have hS := hSB _ sg.below
        refine hK'.out _ _ hS (fun _ => ?_)
        clear hK' K'
        try simp only [Act.put, List.setIfInBounds_toArray, List.set_cons_zero, List.set_cons_succ]
        refine wpAnyL_ready (rs := [20]) (by kernel_rfl) (by simp) ?_
        refine AllReadyL.last (by simp only [List.getElem?_toArray, List.getElem?_cons_succ, List.getElem?_cons_zero]; rfl) (by kernel_rfl) (fun K' hK' => ?_)
        have xD : U19.cell? ⟨q + 1 + 1 + 1, 0, none⟩ = _ := (sg.below.cell (p := ⟨q + 3, 0, none⟩) (by simp only; omega)).trans bO1.cell
        have fD : U19.frozen? ⟨q + 1 + 1 + 1, 0, none⟩ = false := (sg.below.frozen (p := ⟨q + 3, 0, none⟩) (by simp only; omega)).trans bO1.frozen
        go_simp
        refine hK'.out _ _ (?_)
        clear hK' K'
        try simp only [Act.put, List.setIfInBounds_toArray, List.set_cons_zero, List.set_cons_succ]
        refine wpAnyL_done (by kernel_rfl) ?_ _
        simp only [OnlyN]
        have e1 : (L ++ [(x, y)]).length = L.length + 1 := by simp
        have b3 : Below (s + 2) V1 U19 := sg.below
        have hF3 := hF1.below b3 HO.out (by omega)
        refine ⟨?_, (oth1.trans sg.others).trans (KeepsOthers.setCell _ _ _), kp1.trans ⟨(Below.heap_setCell _ _ _ _ (by simp only; omega)).trans (b3.block _ (by omega)), (Below.heap_setCell _ _ _ _ (by simp only; omega)).trans (b3.block _ (by omega))⟩, ?_⟩
        · first | trivial | rfl
        · unfold BlkI
          rw [e1]
          exact ⟨some ⟨g1, 0, none⟩, cap1, hF3.set HO.out (by omega) (by omega) _, boxed_here bO1 b3 (by omega) _, og.other (a := ⟨q + 3, 0, none⟩) (fun he => by have := (og.lt _ he).1; simp only at this; omega) _⟩
      rintro a' V2 ⟨_, ho2, hk2, hb2⟩
      gi_wp2
    case done =>
      rintro D2 xs V hD hxs ⟨X, cx, hF, bO, oX⟩ hK
      have hgl : (grid Wd Hd).length = Wd * Hd := grid_len Wd Hd
      rw [hxs] at bO oX
      have iX := oX.at_
      have xD := bO.cell
      have fD := bO.frozen
      have hfin : ∀ k, k < Wd * Hd → rowR F (grid Wd Hd) k = rcL (F (gridAt Wd k)) := fun k hk => by
        unfold rowR grid
        rw [List.getD_eq_getElem?_getD, List.getElem?_map, List.getElem?_range hk]
        rfl
      rw [hgl] at iX xD
      have oQ := HO.out
      unfold BlkO at oQ
      have bel := hF.bel
      have hsz := hF.sz
      have bO' := bO
      clear oX bO hF'
      have HX := Lib.hid iX
      have HBO := Lib.hid bO'
      clear iX bO'
      gi_wp2_with (gi_at_builtin; refine wpListIn_copyC rfl _ _ 49 rfl 53 4 rect_elem rfl V.heap.size X (Wd * Hd) cx (rowR F (grid Wd Hd)) rfl (rowR_len _ _) HX.out (fun k u hu => rcL_one _ u hu) (by omega) ?_; intro A1 cap1 V1 o1 bV1 kV1; have xE : V1.cell? ⟨q + 1 + 1 + 1, 0, none⟩ = some (.slice X (Wd * Hd) cx) := (bV1.cell (p := ⟨q + 3, 0, none⟩) (by simp only; omega)).trans xD; have fE : V1.frozen? ⟨q + 1 + 1 + 1, 0, none⟩ = false := (bV1.frozen (p := ⟨q + 3, 0, none⟩) (by simp only; omega)).trans fD)
      have dlt : D2 < V.heap.size := (Array.getElem?_eq_some_iff.1 hK).1
      have hne : q + 1 + 1 + 1 ≠ D2 := fun e => by
        have hb := HBO.out
        rw [← e] at hK
        rw [show V.heap[q + 1 + 1 + 1]? = _ from hb] at hK
        cases hK
      have hK1 : (V1.setCell ⟨q + 1 + 1 + 1, 0, none⟩ (.slice A1 (Wd * Hd) cap1)).heap[D2]? = some (.deferred (some [])) := (Below.heap_setCell _ _ _ _ (by simp only; omega)).trans ((bV1.block D2 dlt).trans hK)
      refine ⟨by simp, .inl ⟨_, _, rfl, run_takeDeferred hK1, ?_⟩⟩
      have o0 := o1.other (a := ⟨q + 1 + 1 + 1, 0, none⟩) (fun he => by have := (o1.lt _ he).1; simp only at this; omega) (.slice A1 (Wd * Hd) cap1)
      have bz := (bel.trans (bV1.mono (show q ≤ V.heap.size by omega))).setCell (p := ⟨q + 1 + 1 + 1, 0, none⟩) (by simp only; omega) (.slice A1 (Wd * Hd) cap1)
      have xZ : (V1.setCell ⟨q + 1 + 1 + 1, 0, none⟩ (.slice A1 (Wd * Hd) cap1)).cell? ⟨q + 1 + 1 + 1, 0, none⟩ = some (.slice A1 (Wd * Hd) cap1) := by
        have := heap_setCell_same V1 (q + 1 + 1 + 1) 0 _ _ (.slice A1 (Wd * Hd) cap1) ((bV1.block (q + 3) (by omega)).trans HBO.out)
        exact (cell_of_row _ _ 0 _ _ (0, 0) this)
      generalize V1.setCell ⟨q + 1 + 1 + 1, 0, none⟩ (.slice A1 (Wd * Hd) cap1) = V2 at *
      have gp := grownBy_putObj' V2 D2 (.deferred none)
      have gn : ∀ r, some D2 = some r → ∃ o : Obj, V2.heap[r]? = some o ∧ o.isCells = false := fun r e => by cases e; exact ⟨_, hK1, rfl⟩
      have o2 := o0.keptNC gp gn
      have hbl7 := bz.grown gp (by have := bz.size; omega) (fun k hk => by cases hk; omega)
      have xY := (World.cell?_of_block (gp.block (q + 1 + 1 + 1) (World.block_lt_of_cell? _ _ xZ) (by simpa using hne))).trans xZ
      refine ⟨.tuple #[.slice A1 (Wd * Hd) cap1, .int .i64 Wd], ?_, A1, cap1, rfl, (o2.mono (by omega)).congr (fun _ => rfl) hfin, hbl7⟩
      simp [results, Try.f31, go_sem, xY]
    case stop =>
      rintro D cc pre W _ _ h _
      exact h.elim
end Go.Proofs.Ytmieoifagnpbiaa
