/- CONTRACT of canvas.Tiles. -/
import Derived.Test.YtmieoifagnpbiaaPlaces
import Derived.Test.YtmieoifagnpbiaaRound
import Derived.Deep.RegionLaw
import Derived.StillTailTactics
namespace Go.Proofs.Ytmieoifagnpbiaa
open Go.RowKit Go.Shelf
attribute [local go_sem] Oper.semAt_some
set_option maxHeartbeats 1000000
set_option linter.unusedVariables false
set_option linter.unusedSimpArgs false

theorem heap_alloc_new2 (w : World) (o o' : Obj) : ((w.alloc o).alloc o').heap[w.heap.size + 1]? = some o' := by
  have := heap_alloc_new (w.alloc o) o'
  rwa [World.size_alloc] at this
theorem rect_elem : ElemC Try.prog 49 53 4 := elemC_of (.agg #[.int .i64 0, .int .i64 0, .int .i64 0, .int .i64 0]) 32 (by kernel_rfl) rfl (by omega) (by omega) Try.underlying49
def tileR (X Y Ox Oy tx ty : Int) (c : Nat × Nat) : Rc := bothR ⟨Ox, Oy, X, Y⟩ ⟨c.1 * tx, c.2 * ty, (c.1 + 1) * tx, (c.2 + 1) * ty⟩
/-- the rectangles of cells, in the cells' order -/
def rowR (F : Nat × Nat → Rc) (l : List (Nat × Nat)) (k : Nat) : List Value := rcL (F (l.getD k (0, 0)))

theorem frame_bd {X Y Ox Oy : Int} {n : Nat} {F : Nat → CompD} {tx ty lv cw ch pr st od ly : Int} {rct : Bool} (h : frameE X Y Ox Oy n F tx ty lv cw ch pr st od ly rct = 0) :
    0 ≤ Ox ∧ 0 ≤ Oy ∧ Ox < X ∧ Oy < Y ∧ X ≤ 64 ∧ Y ≤ 64 ∧ Ox < tx ∧ tx ≤ 65536 ∧ Oy < ty ∧ ty ≤ 65536 ∧ byN X.toNat tx.toNat * byN Y.toNat ty.toNat ≤ 16 := by
  unfold frameE at h
  split at h
  · rename_i h0
    obtain ⟨a1, a2, a3, a4, a5, a6, _⟩ := picture_ok h0
    split at h
    · rename_i h1
      split at h
      · rename_i h2
        have b1 := inB_true.1 h1
        have b2 := inB_true.1 h2
        split at h
        · cases h
        · rename_i h3
          exact ⟨a1, a2, a3, a4, a5, a6, by omega, by omega, by omega, by omega, by omega⟩
      · cases h
    · cases h
  · rename_i h0; exact absurd h h0

/-- between two rounds -/
def TilesI (w : World) (M P : Array Value) (D : Nat) (F : Nat × Nat → Rc) (l : List (Nat × Nat)) (W : World) : Prop :=
  ∃ (X : Option Addr) (cx : Nat), W.heap[w.heap.size]? = some (.cells M 25 (0, 0)) ∧ W.heap[w.heap.size + 1]? = some (.cells P 27 (0, 0)) ∧ Boxed W D 49 (.slice X l.length cx) ∧
    OwnC W (D + 3) 53 4 (.slice X l.length cx) l.length (rowR F l) ∧ Below w.heap.size w W ∧ D + 3 ≤ W.heap.size
theorem tilesI_own {w : World} {M P : Array Value} {D : Nat} {F : Nat × Nat → Rc} {α : Type} {g : List α → List (Nat × Nat)} {B : Nat} (hB : D + 3 ≤ B) (hD : w.heap.size + 2 ≤ D) : OwnFrom B (fun (pre : List α) W => TilesI w M P D F (g pre) W) := by
  rintro s W W' row ⟨X, cx, h1, h2, h3, h4, h5, h6⟩ hg hr
  have hr' := fun r e => (hr r e).2
  have ne : ∀ k, k < B → some k ≠ row := fun k hk he => by have := (hr k he.symm).1; omega
  exact ⟨X, cx, (hg.block _ (by omega) (ne _ (by omega))).trans h1, (hg.block _ (by omega) (ne _ (by omega))).trans h2, Boxed.keptNC h3 hg hr', h4.keptNC hg hr', h5.grown hg h5.size (fun k hk => by have := (hr k hk).1; omega), Nat.le_trans h6 hg.size⟩
theorem keeps2_put {W : World} {l a b : Nat} {o : Obj} (h1 : a < l) (h2 : b < l) : Keeps2 a b W (W.putObj l o) :=
  ⟨World.putObj_heap_other (by omega), World.putObj_heap_other (by omega)⟩
theorem others_of_below {W W' : World} (h : Below W.heap.size W W') : KeepsOthers W W' :=
  KeepsOthers.of_grownBy (row := none) ⟨h.os, h.tape, h.output, h.size, fun k hk _ => h.block k hk⟩ (fun j o e _ => by cases e)
theorem rowR_len (F : Nat × Nat → Rc) (l : List (Nat × Nat)) (k : Nat) : (rowR F l k).length = 4 := rfl
theorem rowR_lt (F : Nat × Nat → Rc) (l : List (Nat × Nat)) (x : Nat × Nat) {k : Nat} (h : k < l.length) : rowR F (l ++ [x]) k = rowR F l k := by
  unfold rowR; rw [List.getD_eq_getElem?_getD, List.getD_eq_getElem?_getD, List.getElem?_append_left h]
theorem rowR_new (F : Nat × Nat → Rc) (l : List (Nat × Nat)) (x : Nat × Nat) : rowR F (l ++ [x]) l.length = rcL (F x) := by
  unfold rowR; rw [List.getD_eq_getElem?_getD]; simp
theorem cell_al {w : World} {a : Addr} {v : Value} (h : w.cell? a = some v) (o : Obj) : (w.alloc o).cell? a = some v := by rw [World.cell?_alloc_lt _ _ _ (World.block_lt_of_cell? _ _ h), h]
/-- what the round reads -/
def TS (q : Nat) (Xn Yn : Nat) (Ox Oy : Int) (A : Option Addr) (n c : Nat) (txn tyn : Nat) (V : World) : Prop :=
  V.cell? ⟨q, 0, none⟩ = some (.int .i64 Xn) ∧ V.cell? ⟨q, 1, none⟩ = some (.int .i64 Yn) ∧ V.cell? ⟨q, 2, none⟩ = some (.int .i64 Ox) ∧ V.cell? ⟨q, 3, none⟩ = some (.int .i64 Oy) ∧ V.cell? ⟨q, 4, none⟩ = some (.slice A n c) ∧
  V.cell? ⟨q + 1, 0, none⟩ = some (.int .i64 txn) ∧ V.cell? ⟨q + 1, 1, none⟩ = some (.int .i64 tyn)
theorem TS.below {q B : Nat} {Xn Yn : Nat} {Ox Oy : Int} {A : Option Addr} {n c : Nat} {txn tyn : Nat} {V V' : World} (h : TS q Xn Yn Ox Oy A n c txn tyn V) (hb : Below B V V') (hq : q + 1 < B) : TS q Xn Yn Ox Oy A n c txn tyn V' := by
  obtain ⟨h0, h1, h2, h3, h4, h5, h6⟩ := h
  have c0 := fun j => hb.cell (p := ⟨q, j, none⟩) (show q < B by omega)
  have c1 := fun j => hb.cell (p := ⟨q + 1, j, none⟩) hq
  exact ⟨(c0 _).trans h0, (c0 _).trans h1, (c0 _).trans h2, (c0 _).trans h3, (c0 _).trans h4, (c1 _).trans h5, (c1 _).trans h6⟩

set_option maxRecDepth 100000 in
set_option maxHeartbeats 2000000 in
theorem tiles_any (X Y Ox Oy : Int) (A : Option Addr) (n c : Nat) (F : Nat → CompD) (tx ty lv cw ch pr st od ly : Int) (rct sop eph : Bool) (w : World) (ha : CompsAt w w.heap.size A n F) (hc : n ≤ c)
    (hF : frameE X Y Ox Oy n F tx ty lv cw ch pr st od ly rct = 0) (W H : Nat) (hW : W = byN X.toNat tx.toNat) (hH : H = byN Y.toNat ty.toNat) :
    Calls Try.prog 19 #[imgV X Y Ox Oy A n c, parV tx ty lv cw ch pr st od ly rct sop eph] w fun e w' => ∃ A' c', e = .returned (.slice A' (W * H) c') ∧ OwnC w' w.heap.size 53 4 (.slice A' (W * H) c') (W * H) (fun k => rcL (tileR X Y Ox Oy tx ty (gridAt W k))) ∧ Below w.heap.size w w' := by
  have P1 := Lib.hid (fun (v : World) (h : CompsAt v v.heap.size A n F) => frame_any X Y Ox Oy A n c F tx ty lv cw ch pr st od ly rct sop eph v h hc)
  rw [hF] at P1
  obtain ⟨x1, x2, x3, x4, x5, x6, x7, x8, x9, x10, x11⟩ := frame_bd hF
  obtain ⟨Xn, rfl⟩ := Int.eq_ofNat_of_zero_le (show (0 : Int) ≤ X by omega)
  obtain ⟨Yn, rfl⟩ := Int.eq_ofNat_of_zero_le (show (0 : Int) ≤ Y by omega)
  obtain ⟨txn, rfl⟩ := Int.eq_ofNat_of_zero_le (show (0 : Int) ≤ tx by omega)
  obtain ⟨tyn, rfl⟩ := Int.eq_ofNat_of_zero_le (show (0 : Int) ≤ ty by omega)
  simp only [Int.toNat_natCast] at hW hH x11
  have j1 := by_any Xn txn (by omega) (by omega) (by omega)
  have j2 := by_any Yn tyn (by omega) (by omega) (by omega)
  have l1 : byN Xn txn ≤ Xn := byN_le (by omega)
  have l2 : byN Yn tyn ≤ Yn := byN_le (by omega)
  rw [← hW] at j1 l1 x11
  rw [← hH] at j2 l2 x11
  have J1 := Lib.hid j1
  have J2 := Lib.hid j2
  clear j1 j2 hW hH hF
  unfold imgV at *
  unfold parV at *
  obtain ⟨M, hM⟩ : ∃ M : Array Value, #[.int .i64 Xn, .int .i64 Yn, .int .i64 Ox, .int .i64 Oy, .slice A n c] = M := ⟨_, rfl⟩
  obtain ⟨P, hP⟩ : ∃ P : Array Value, #[.int .i64 txn, .int .i64 tyn, .int .i64 lv, .int .i64 cw, .int .i64 ch, .int .i64 pr, .int .i64 st, .int .i64 od, .int .i64 ly, .bool rct, .bool sop, .bool eph] = P := ⟨_, rfl⟩
  refine (callsIn_wide (n := 4)).1 ?_
  refine callsIn_of_wp_marks Try.func19 rfl trivial ?_ rfl
  simp only [Try.ntmps19, List.size_toArray, List.length_cons, List.length_nil, Nat.reduceAdd, Nat.reduceSub, Array.replicate_succ, Array.replicate_zero, List.push_toArray, List.append_toArray, List.nil_append, List.cons_append]
  have HM := Lib.hid hM
  have HP := Lib.hid hP
  clear hM hP
  gi_wp2
  have gM := HM.out
  have gP := HP.out
  rw [gM, gP]
  have hbl := below_alloc (below_alloc (Below.refl _ w) (.cells M 25)) (.cells P 27)
  have bM : ((w.alloc (.cells M 25)).alloc (.cells P 27)).heap[w.heap.size]? = some (.cells M 25 (0, 0)) := (Below.heap_alloc _ _ _ (by simp)).trans (heap_alloc_new w _)
  have bP : ((w.alloc (.cells M 25)).alloc (.cells P 27)).heap[w.heap.size + 1]? = some (.cells P 27 (0, 0)) := heap_alloc_new2 w _ _
  have hsz : ((w.alloc (.cells M 25)).alloc (.cells P 27)).heap.size = w.heap.size + 2 := by simp
  generalize (w.alloc (.cells M 25)).alloc (.cells P 27) = W0 at *
  refine ⟨trivial, ?_⟩
  have ha0 : CompsAt W0 W0.heap.size A n F := (ha.below hbl).more (by omega)
  rw [← gM, ← gP]
  refine (callsIn_wide.2 (P1.out _ ha0)).mono ?_
  rintro e W1 ⟨rfl, hb1⟩
  rw [gM, gP]
  have bM1 := (hb1.block w.heap.size (by omega)).trans bM
  have bP1 := (hb1.block (w.heap.size + 1) (by omega)).trans bP
  have hbl1 := below_trans hbl hb1
  have hsz1 : w.heap.size + 2 ≤ W1.heap.size := by have := hb1.size; omega
  clear hb1 bM bP hbl hsz ha0 P1
  gi_wp2
  obtain ⟨D, hD⟩ : ∃ D, W1.heap.size = D := ⟨_, rfl⟩
  rw [hD]
  have bD := Boxed.new W1 49 (.slice none 0 0)
  rw [hD] at bD
  have bM2 := (Below.heap_alloc W1 (.cells #[.slice none 0 0] 49) w.heap.size (by omega)).trans bM1
  have bP2 := (Below.heap_alloc W1 (.cells #[.slice none 0 0] 49) (w.heap.size + 1) (by omega)).trans bP1
  have hbl2 := below_alloc hbl1 (.cells #[.slice none 0 0] 49)
  have hs2 : (W1.alloc (.cells #[.slice none 0 0] 49)).heap.size = D + 1 := by simp [hD]
  have hwD : w.heap.size + 2 ≤ D := by omega
  clear bM1 bP1 hbl1 hsz1 hD
  generalize W1.alloc (.cells #[.slice none 0 0] 49) = W2 at *
  refine wpIn_wide.2 ?_
  refine wp_region_still_tail 10 (by kernel_rfl) (by kernel_rfl) ?_
  simp only [List.take_succ_cons, List.take_zero, List.drop_succ_cons, List.drop_zero]
  change wpStill _ _ W2.drew (fun a' => wpList _ _ _ _ a' W2.drew) _ _
  have bD3 : Boxed W2.drew D 49 (.slice none 0 0) := bD
  have bM3 : W2.drew.heap[w.heap.size]? = some (.cells M 25 (0, 0)) := bM2
  have bP3 : W2.drew.heap[w.heap.size + 1]? = some (.cells P 27 (0, 0)) := bP2
  have hbl3 := hbl2.drew
  have hs3 : W2.drew.heap.size = D + 1 := hs2
  clear bD bM2 bP2 hbl2 hs2
  generalize W2.drew = W3 at *
  have m0 : W3.cell? ⟨w.heap.size, 0, none⟩ = some (.int .i64 Xn) := by rw [cell_of_row _ _ _ M _ (0, 0) bM3, ← gM]; rfl
  have m1 : W3.cell? ⟨w.heap.size, 1, none⟩ = some (.int .i64 Yn) := by rw [cell_of_row _ _ _ M _ (0, 0) bM3, ← gM]; rfl
  have p0 : W3.cell? ⟨w.heap.size + 1, 0, none⟩ = some (.int .i64 txn) := by rw [cell_of_row _ _ _ P _ (0, 0) bP3, ← gP]; rfl
  have p1 : W3.cell? ⟨w.heap.size + 1, 1, none⟩ = some (.int .i64 tyn) := by rw [cell_of_row _ _ _ P _ (0, 0) bP3, ← gP]; rfl
  clear gM gP
  repeat (first | still_step | (refine wpStill_step (fun K hK => ?_); go_simp; (first | (with_reducible refine ⟨_, J1.out _, hK _ ?_⟩) | (with_reducible refine ⟨_, J2.out _, hK _ ?_⟩)); clear hK K))
  try refine wpStill_nil ?_
  go_wp2_with fail
  refine (places_any _ _ _).mono ?_
  rintro e w' ⟨rfl, rfl⟩
  rw [hs3]
  have b1 := (Boxed.new W3 3 (.int .i64 W)).alloc (.cells #[.int .i64 H] 3)
  have b2 := Boxed.new (W3.alloc (.cells #[.int .i64 W] 3)) 3 (.int .i64 H)
  rw [hs3] at b1
  rw [World.size_alloc, hs3] at b2
  have bD4 := (bD3.alloc (.cells #[.int .i64 W] 3)).alloc (.cells #[.int .i64 H] 3)
  have h34 : Below (D + 1) W3 ((W3.alloc (.cells #[.int .i64 W] 3)).alloc (.cells #[.int .i64 H] 3)) := by rw [← hs3]; exact below_alloc (below_alloc (Below.refl _ _) _) _
  have hs4 : ((W3.alloc (.cells #[.int .i64 W] 3)).alloc (.cells #[.int .i64 H] 3)).heap.size = D + 3 := by simp [hs3]
  have bM4 := (h34.block w.heap.size (by omega)).trans bM3
  have bP4 := (h34.block (w.heap.size + 1) (by omega)).trans bP3
  have hbl4 := hbl3.trans (h34.mono (show w.heap.size ≤ D + 1 by omega))
  clear m0 m1 p0 p1 bD3 bM3 bP3 hbl3 h34 hs3
  generalize (W3.alloc (.cells #[.int .i64 W] 3)).alloc (.cells #[.int .i64 H] 3) = W4 at *
  go_wp2_with fail
  try gi_wp2
  have hseq : SeqStopsK Fence.wide 3 Try.prog 62 #[.pointer (some ⟨D + 1 + 1, 0, none⟩), .pointer (some ⟨D + 1, 0, none⟩)] (encG W H) (Keeps2 (D + 1 + 1) (D + 1)) (fun xs => xs.map Subtype.val = grid W H) (fun _ => True) (W * H + 1) W4 := fun l J Jx V hV _ _ hY h0 =>
    places1_in 3 (by omega) l _ _ W H (by omega) (by omega) J Jx hY V ((hV.cell (p := ⟨D + 1 + 1, 0, none⟩) b2.lt).trans b2.cell) ((hV.cell (p := ⟨D + 1, 0, none⟩) b1.lt).trans b1.cell) h0
  obtain ⟨F, hF⟩ : ∃ F, F = tileR Xn Yn Ox Oy txn tyn := ⟨_, rfl⟩
  refine' wpIn_rangeFunc_ownF rfl (by omega) rfl trivial (enters_of Try.func62 (by kernel_rfl) rfl) hseq Keeps2.trans (fun V l o o' hl ho hc _ => keeps2_put (by omega) (by omega)) (Below.refl _ _) (fun _ => rfl)
    (fun pre V => TilesI w M P D F (pre.map Subtype.val) V) (fun _ _ _ => False) (tilesI_own (by omega) (by omega)) (fun _ _ _ _ _ hs _ _ => hs) ?start _ ?assign ?body ?done ?stop
  case start => exact ⟨none, 0, bM4, bP4, bD4, OwnC.nil_ _ _ _ _ _ (rowR_len _ _), hbl4, Nat.le_of_eq hs4.symm⟩
  case assign =>
    intro l x V K hK
    gi_wp2
    exact hK
  case body =>
    rintro l pre ⟨⟨x, y⟩, hx, hy⟩ V ⟨X, cx, bM, bP, bD, oX, hbel, hsz⟩ hlen
    have hLl : (pre.map Subtype.val).length = pre.length := List.length_map ..
    have hmapx : (pre ++ [(⟨(x, y), hx, hy⟩ : Cell2 W H)]).map Subtype.val = pre.map Subtype.val ++ [(x, y)] := by simp
    unfold ownPostK
    simp only [hmapx]
    generalize pre.map Subtype.val = L at *
    simp only at hx hy
    have hLn : L.length ≤ 1048576 := by omega
    clear hLl hmapx hlen
    have oX := oX.congr (g := rowR F (L ++ [(x, y)])) (rowR_len _ _) (fun k hk => (rowR_lt _ _ _ hk).symm)
    have hnew := rowR_new F L (x, y)
    have hS0 : TS w.heap.size Xn Yn Ox Oy A n c txn tyn V.drew := by
      have gM := HM.out
      have gP := HP.out
      have q := fun j => cell_of_row _ _ j M _ (0, 0) bM
      have r := fun j => cell_of_row _ _ j P _ (0, 0) bP
      refine ⟨(q 0).trans ?_, (q 1).trans ?_, (q 2).trans ?_, (q 3).trans ?_, (q 4).trans ?_, (r 0).trans ?_, (r 1).trans ?_⟩
      all_goals (first | rw [← gM] | rw [← gP]); rfl
    have hv : ∃ a0 b0 a1 b1 r0 r1 r2 r3 : Int, IntKind.i64.wrap ((x : Int) * txn) = a0 ∧ IntKind.i64.wrap ((y : Int) * tyn) = b0 ∧ IntKind.i64.wrap (((x : Int) + 1) * txn) = a1 ∧ IntKind.i64.wrap (((y : Int) + 1) * tyn) = b1 ∧ rcL (F (x, y)) = [.int .i64 r0, .int .i64 r1, .int .i64 r2, .int .i64 r3] ∧
        ∀ v : World, Calls Try.prog 47 #[.agg #[.int .i64 Ox, .int .i64 Oy, .int .i64 Xn, .int .i64 Yn], .agg #[.int .i64 a0, .int .i64 b0, .int .i64 a1, .int .i64 b1]] v fun e w' => e = .returned (.agg #[.int .i64 r0, .int .i64 r1, .int .i64 r2, .int .i64 r3]) ∧ Below v.heap.size v w' := by
      have hxb : x < 64 := by omega
      have hyb : y < 64 := by omega
      have k1 : (x : Int) * txn ≤ 64 * 65536 ∧ 0 ≤ (x : Int) * txn := ⟨Int.mul_le_mul (by omega) (by omega) (by omega) (by omega), Int.mul_nonneg (by omega) (by omega)⟩
      have k2 : (y : Int) * tyn ≤ 64 * 65536 ∧ 0 ≤ (y : Int) * tyn := ⟨Int.mul_le_mul (by omega) (by omega) (by omega) (by omega), Int.mul_nonneg (by omega) (by omega)⟩
      have k3 : ((x : Int) + 1) * txn ≤ 64 * 65536 ∧ 0 ≤ ((x : Int) + 1) * txn := ⟨Int.mul_le_mul (by omega) (by omega) (by omega) (by omega), Int.mul_nonneg (by omega) (by omega)⟩
      have k4 : ((y : Int) + 1) * tyn ≤ 64 * 65536 ∧ 0 ≤ ((y : Int) + 1) * tyn := ⟨Int.mul_le_mul (by omega) (by omega) (by omega) (by omega), Int.mul_nonneg (by omega) (by omega)⟩
      rw [hF]
      exact ⟨(x : Int) * txn, (y : Int) * tyn, ((x : Int) + 1) * txn, ((y : Int) + 1) * tyn, _, _, _, _, wr (by omega), wr (by omega), wr (by omega), wr (by omega), rfl, fun v => both_any ⟨Ox, Oy, Xn, Yn⟩ ⟨(x : Int) * txn, (y : Int) * tyn, ((x : Int) + 1) * txn, ((y : Int) + 1) * tyn⟩ v⟩
    obtain ⟨a0, b0, a1, b1, r0, r1, r2, r3, e0, e1, e2, e3, hrc, hboth⟩ := hv
    rw [hrc] at hnew
    have HB := Lib.hid hboth
    have HN := Lib.hid hnew
    have HW := Lib.hid (fun v : World => whole_any Xn Yn Ox Oy A n c v)
    have sx : IntKind.i64.wrap ((x : Int) + 1) = (x : Int) + 1 := wr (by omega)
    have sy : IntKind.i64.wrap ((y : Int) + 1) = (y : Int) + 1 := wr (by omega)
    clear hboth hnew hrc
    gi_wp2
    refine round_region (by kernel_rfl) (by kernel_rfl) (TS w.heap.size Xn Yn Ox Oy A n c txn tyn) (fun _ _ h => h) (fun hS => ?_) hS0
    clear hS0
    have bV : Below V.heap.size V V.drew := (Below.refl _ _).drew
    generalize V.drew = V0 at *
    refine wpAnyH_take (i := 1) (v := .agg #[.int .i64 Xn, .int .i64 Yn, .int .i64 Ox, .int .i64 Oy, .slice A n c]) rfl (by kernel_rfl) (by kernel_rfl) (by kernel_rfl) (fun _ _ _ h => h) (Or.inl ⟨by rfl, ?_⟩) hS ?_
    · intro U hU
      obtain ⟨q0, q1, q2, q3, q4, q5, q6⟩ := hU
      go_simp
    simp only [Act.put, List.setIfInBounds_toArray, List.set_cons_zero, List.set_cons_succ]
    refine wpAnyH_take (i := 3) (v := .int .i64 x) rfl (by kernel_rfl) (by kernel_rfl) (by kernel_rfl) (fun _ _ _ h => h) (Or.inl ⟨by rfl, ?_⟩) hS ?_
    · intro U hU
      obtain ⟨q0, q1, q2, q3, q4, q5, q6⟩ := hU
      go_simp
    simp only [Act.put, List.setIfInBounds_toArray, List.set_cons_zero, List.set_cons_succ]
    refine wpAnyH_take (i := 4) (v := .pointer (some ⟨w.heap.size + 1, 0, none⟩)) rfl (by kernel_rfl) (by kernel_rfl) (by kernel_rfl) (fun _ _ _ h => h) (Or.inl ⟨by rfl, ?_⟩) hS ?_
    · intro U hU
      obtain ⟨q0, q1, q2, q3, q4, q5, q6⟩ := hU
      go_simp
    simp only [Act.put, List.setIfInBounds_toArray, List.set_cons_zero, List.set_cons_succ]
    refine wpAnyH_take (i := 5) (v := .int .i64 txn) rfl (by kernel_rfl) (by kernel_rfl) (by kernel_rfl) (fun _ _ _ h => h) (Or.inl ⟨by rfl, ?_⟩) hS ?_
    · intro U hU
      obtain ⟨q0, q1, q2, q3, q4, q5, q6⟩ := hU
      go_simp
    simp only [Act.put, List.setIfInBounds_toArray, List.set_cons_zero, List.set_cons_succ]
    refine wpAnyH_take (i := 6) (v := .int .i64 a0) rfl (by kernel_rfl) (by kernel_rfl) (by kernel_rfl) (fun _ _ _ h => h) (Or.inl ⟨by rfl, ?_⟩) hS ?_
    · intro U hU
      obtain ⟨q0, q1, q2, q3, q4, q5, q6⟩ := hU
      go_simp
    simp only [Act.put, List.setIfInBounds_toArray, List.set_cons_zero, List.set_cons_succ]
    refine wpAnyH_take (i := 7) (v := .int .i64 y) rfl (by kernel_rfl) (by kernel_rfl) (by kernel_rfl) (fun _ _ _ h => h) (Or.inl ⟨by rfl, ?_⟩) hS ?_
    · intro U hU
      obtain ⟨q0, q1, q2, q3, q4, q5, q6⟩ := hU
      go_simp
    simp only [Act.put, List.setIfInBounds_toArray, List.set_cons_zero, List.set_cons_succ]
    refine wpAnyH_take (i := 8) (v := .pointer (some ⟨w.heap.size + 1, 1, none⟩)) rfl (by kernel_rfl) (by kernel_rfl) (by kernel_rfl) (fun _ _ _ h => h) (Or.inl ⟨by rfl, ?_⟩) hS ?_
    · intro U hU
      obtain ⟨q0, q1, q2, q3, q4, q5, q6⟩ := hU
      go_simp
    simp only [Act.put, List.setIfInBounds_toArray, List.set_cons_zero, List.set_cons_succ]
    refine wpAnyH_take (i := 9) (v := .int .i64 tyn) rfl (by kernel_rfl) (by kernel_rfl) (by kernel_rfl) (fun _ _ _ h => h) (Or.inl ⟨by rfl, ?_⟩) hS ?_
    · intro U hU
      obtain ⟨q0, q1, q2, q3, q4, q5, q6⟩ := hU
      go_simp
    simp only [Act.put, List.setIfInBounds_toArray, List.set_cons_zero, List.set_cons_succ]
    refine wpAnyH_take (i := 10) (v := .int .i64 b0) rfl (by kernel_rfl) (by kernel_rfl) (by kernel_rfl) (fun _ _ _ h => h) (Or.inl ⟨by rfl, ?_⟩) hS ?_
    · intro U hU
      obtain ⟨q0, q1, q2, q3, q4, q5, q6⟩ := hU
      go_simp
    simp only [Act.put, List.setIfInBounds_toArray, List.set_cons_zero, List.set_cons_succ]
    refine wpAnyH_take (i := 11) (v := .int .i64 x) rfl (by kernel_rfl) (by kernel_rfl) (by kernel_rfl) (fun _ _ _ h => h) (Or.inl ⟨by rfl, ?_⟩) hS ?_
    · intro U hU
      obtain ⟨q0, q1, q2, q3, q4, q5, q6⟩ := hU
      go_simp
    simp only [Act.put, List.setIfInBounds_toArray, List.set_cons_zero, List.set_cons_succ]
    refine wpAnyH_take (i := 12) (v := .int .i64 ((x : Int) + 1)) rfl (by kernel_rfl) (by kernel_rfl) (by kernel_rfl) (fun _ _ _ h => h) (Or.inl ⟨by rfl, ?_⟩) hS ?_
    · intro U hU
      obtain ⟨q0, q1, q2, q3, q4, q5, q6⟩ := hU
      go_simp
    simp only [Act.put, List.setIfInBounds_toArray, List.set_cons_zero, List.set_cons_succ]
    refine wpAnyH_take (i := 13) (v := .pointer (some ⟨w.heap.size + 1, 0, none⟩)) rfl (by kernel_rfl) (by kernel_rfl) (by kernel_rfl) (fun _ _ _ h => h) (Or.inl ⟨by rfl, ?_⟩) hS ?_
    · intro U hU
      obtain ⟨q0, q1, q2, q3, q4, q5, q6⟩ := hU
      go_simp
    simp only [Act.put, List.setIfInBounds_toArray, List.set_cons_zero, List.set_cons_succ]
    refine wpAnyH_take (i := 14) (v := .int .i64 txn) rfl (by kernel_rfl) (by kernel_rfl) (by kernel_rfl) (fun _ _ _ h => h) (Or.inl ⟨by rfl, ?_⟩) hS ?_
    · intro U hU
      obtain ⟨q0, q1, q2, q3, q4, q5, q6⟩ := hU
      go_simp
    simp only [Act.put, List.setIfInBounds_toArray, List.set_cons_zero, List.set_cons_succ]
    refine wpAnyH_take (i := 15) (v := .int .i64 a1) rfl (by kernel_rfl) (by kernel_rfl) (by kernel_rfl) (fun _ _ _ h => h) (Or.inl ⟨by rfl, ?_⟩) hS ?_
    · intro U hU
      obtain ⟨q0, q1, q2, q3, q4, q5, q6⟩ := hU
      go_simp
    simp only [Act.put, List.setIfInBounds_toArray, List.set_cons_zero, List.set_cons_succ]
    refine wpAnyH_take (i := 16) (v := .int .i64 y) rfl (by kernel_rfl) (by kernel_rfl) (by kernel_rfl) (fun _ _ _ h => h) (Or.inl ⟨by rfl, ?_⟩) hS ?_
    · intro U hU
      obtain ⟨q0, q1, q2, q3, q4, q5, q6⟩ := hU
      go_simp
    simp only [Act.put, List.setIfInBounds_toArray, List.set_cons_zero, List.set_cons_succ]
    refine wpAnyH_take (i := 17) (v := .int .i64 ((y : Int) + 1)) rfl (by kernel_rfl) (by kernel_rfl) (by kernel_rfl) (fun _ _ _ h => h) (Or.inl ⟨by rfl, ?_⟩) hS ?_
    · intro U hU
      obtain ⟨q0, q1, q2, q3, q4, q5, q6⟩ := hU
      go_simp
    simp only [Act.put, List.setIfInBounds_toArray, List.set_cons_zero, List.set_cons_succ]
    refine wpAnyH_take (i := 18) (v := .pointer (some ⟨w.heap.size + 1, 1, none⟩)) rfl (by kernel_rfl) (by kernel_rfl) (by kernel_rfl) (fun _ _ _ h => h) (Or.inl ⟨by rfl, ?_⟩) hS ?_
    · intro U hU
      obtain ⟨q0, q1, q2, q3, q4, q5, q6⟩ := hU
      go_simp
    simp only [Act.put, List.setIfInBounds_toArray, List.set_cons_zero, List.set_cons_succ]
    refine wpAnyH_take (i := 19) (v := .int .i64 tyn) rfl (by kernel_rfl) (by kernel_rfl) (by kernel_rfl) (fun _ _ _ h => h) (Or.inl ⟨by rfl, ?_⟩) hS ?_
    · intro U hU
      obtain ⟨q0, q1, q2, q3, q4, q5, q6⟩ := hU
      go_simp
    simp only [Act.put, List.setIfInBounds_toArray, List.set_cons_zero, List.set_cons_succ]
    refine wpAnyH_take (i := 20) (v := .int .i64 b1) rfl (by kernel_rfl) (by kernel_rfl) (by kernel_rfl) (fun _ _ _ h => h) (Or.inl ⟨by rfl, ?_⟩) hS ?_
    · intro U hU
      obtain ⟨q0, q1, q2, q3, q4, q5, q6⟩ := hU
      go_simp
    simp only [Act.put, List.setIfInBounds_toArray, List.set_cons_zero, List.set_cons_succ]
    refine wpAnyH_take (i := 21) (v := .agg #[.int .i64 a0, .int .i64 b0, .int .i64 a1, .int .i64 b1]) rfl (by kernel_rfl) (by kernel_rfl) (by kernel_rfl) (fun _ _ _ h => h) (Or.inl ⟨by rfl, ?_⟩) hS ?_
    · intro U hU
      obtain ⟨q0, q1, q2, q3, q4, q5, q6⟩ := hU
      go_simp
    simp only [Act.put, List.setIfInBounds_toArray, List.set_cons_zero, List.set_cons_succ]
    have pq : w.heap.size + 1 < V.heap.size := by omega
    have pD : D < V.heap.size := by omega
    have hSV : TS w.heap.size Xn Yn Ox Oy A n c txn tyn V := by
      have gM := HM.out
      have gP := HP.out
      have q := fun j => cell_of_row _ _ j M _ (0, 0) bM
      have r := fun j => cell_of_row _ _ j P _ (0, 0) bP
      refine ⟨(q 0).trans ?_, (q 1).trans ?_, (q 2).trans ?_, (q 3).trans ?_, (q 4).trans ?_, (r 0).trans ?_, (r 1).trans ?_⟩
      all_goals (first | rw [← gM] | rw [← gP]); rfl
    refine wpAnyH_ready (rs := [0, 2]) (by kernel_rfl) (by simp) ?_
    refine AllReadyH.cons (by simp only [List.getElem?_toArray, List.getElem?_cons_succ, List.getElem?_cons_zero]; rfl) (fun K' hK' => ?_) (AllReadyH.cons (by simp only [List.getElem?_toArray, List.getElem?_cons_succ, List.getElem?_cons_zero]; rfl) (fun K' hK' => ?_) AllReadyH.nil)
    · have xD := (bV.cell (p := ⟨D, 0, none⟩) pD).trans bD.cell
      go_simp
      refine hK'.out _ _ hS (fun _ => ?_)
      clear hK' K' xD
      try simp only [Act.put, List.setIfInBounds_toArray, List.set_cons_zero, List.set_cons_succ]
      refine wpAnyH_ready (rs := [2]) (by kernel_rfl) (by simp) ?_
      refine AllReadyH.cons (by simp only [List.getElem?_toArray, List.getElem?_cons_succ, List.getElem?_cons_zero]; rfl) (fun K' hK' => ?_) AllReadyH.nil
      go_simp
      go_at_call 39
      refine (HW.out _).mono ?_
      rintro e U1 ⟨rfl, hbu1⟩
      have bu1 := below_trans bV hbu1
      have hS := hS.below hbu1 (by have := bV.size; omega)
      dsimp only [rcV]
      refine hK'.out _ _ hS (fun _ => ?_)
      clear hK' K' hbu1
      try simp only [Act.put, List.setIfInBounds_toArray, List.set_cons_zero, List.set_cons_succ]
      refine wpAnyH_ready (rs := [22]) (by kernel_rfl) (by simp) ?_
      refine AllReadyH.cons (by simp only [List.getElem?_toArray, List.getElem?_cons_succ, List.getElem?_cons_zero]; rfl) (fun K' hK' => ?_) AllReadyH.nil
      go_simp
      go_at_call 47
      refine (HB.out _).mono ?_
      rintro e U2 ⟨rfl, hbu2⟩
      have bu2 := below_trans bu1 hbu2
      have hS := hS.below hbu2 (by have := bu1.size; omega)
      dsimp only
      refine hK'.out _ _ hS (fun _ => ?_)
      clear hK' K' hbu2
      try simp only [Act.put, List.setIfInBounds_toArray, List.set_cons_zero, List.set_cons_succ]
      refine wpAnyH_ready (rs := [23]) (by kernel_rfl) (by simp) ?_
      refine AllReadyH.cons (by simp only [List.getElem?_toArray, List.getElem?_cons_succ, List.getElem?_cons_zero]; rfl) (fun K' hK' => ?_) AllReadyH.nil
      go_simp
      have bu3 := below_alloc bu2 (.cells #[.int .i64 r0, .int .i64 r1, .int .i64 r2, .int .i64 r3] 53)
      have hS := hS.below ((Below.refl _ _).alloc (Nat.le_refl _) (.cells #[.int .i64 r0, .int .i64 r1, .int .i64 r2, .int .i64 r3] 53)) (by have := bu2.size; omega)
      refine hK'.out _ _ hS (fun _ => ?_)
      clear hK' K'
      obtain ⟨h0, hh0⟩ : ∃ h0, U2.heap.size = h0 := ⟨_, rfl⟩
      try rw [hh0]
      have c0 : ∀ (j : Nat) (u : Value), (rowR F (L ++ [(x, y)]) L.length)[j]? = some u → (U2.alloc (.cells #[.int .i64 r0, .int .i64 r1, .int .i64 r2, .int .i64 r3] 53)).cell? ⟨h0, j, none⟩ = some u := fun j u hj => by
        rw [HN.out] at hj
        rw [← hh0, cell_of_row _ _ _ _ _ (0, 0) (heap_alloc_new U2 _)]
        simpa using hj
      generalize U2.alloc (.cells #[.int .i64 r0, .int .i64 r1, .int .i64 r2, .int .i64 r3] 53) = U3 at *
      clear hh0
      try simp only [Act.put, List.setIfInBounds_toArray, List.set_cons_zero, List.set_cons_succ]
      refine wpAnyH_ready (rs := [24]) (by kernel_rfl) (by simp) ?_
      refine AllReadyH.cons (by simp only [List.getElem?_toArray, List.getElem?_cons_succ, List.getElem?_cons_zero]; rfl) (fun K' hK' => ?_) AllReadyH.nil
      refine step_appC V bu3 (others_of_below bu3) (by rfl) _ _ 49 (by rfl) 53 4 rect_elem (D + 3) X L.length cx _ (by rfl) oX h0 (by rfl) c0 (fun u hu => by rw [HN.out] at hu; simp at hu; rcases hu with rfl | rfl | rfl | rfl <;> rfl) hLn hsz ?_
      intro g cap U4 og sg hg
      have hS := TS.below (V' := U4) (V := V) (B := D + 3) hSV sg.below (by omega)
      refine hK'.out _ _ hS (fun _ => ?_)
      clear hK' K' c0
      try simp only [Act.put, List.setIfInBounds_toArray, List.set_cons_zero, List.set_cons_succ]
      refine wpAnyH_ready (rs := [25]) (by kernel_rfl) (by simp) ?_
      refine AllReadyH.cons (by simp only [List.getElem?_toArray, List.getElem?_cons_succ, List.getElem?_cons_zero]; rfl) (fun K' hK' => ?_) AllReadyH.nil
      have xD := (sg.below.cell (p := ⟨D, 0, none⟩) (by simp only; omega)).trans bD.cell
      have fD := (sg.below.frozen (p := ⟨D, 0, none⟩) (by simp only; omega)).trans bD.frozen
      go_simp
      have bset : Below (w.heap.size + 2) U4 (U4.setCell ⟨D, 0, none⟩ (.slice (some ⟨g, 0, none⟩) (L.length + 1) cap)) := (Below.refl _ _).setCell (p := ⟨D, 0, none⟩) (by simp only; omega) _
      have hS := hS.below bset (by omega)
      refine hK'.out _ _ hS (fun _ => ?_)
      clear hK' K' xD fD
      try simp only [Act.put, List.setIfInBounds_toArray, List.set_cons_zero, List.set_cons_succ]
      refine wpAnyH_done (by kernel_rfl) ?_ _
      simp only [OnlyN]
      have e1 : (L ++ [(x, y)]).length = L.length + 1 := by simp
      have b3 : Below (D + 3) V U4 := sg.below
      have hs5 : D + 3 ≤ U4.heap.size := Nat.le_trans hsz b3.size
      refine ⟨sg.others.trans (KeepsOthers.setCell _ _ _), ⟨(Below.heap_setCell _ _ _ _ (by simp only; omega)).trans (b3.block _ (by omega)), (Below.heap_setCell _ _ _ _ (by simp only; omega)).trans (b3.block _ (by omega))⟩, ?_⟩
      unfold TilesI
      rw [e1]
      exact ⟨some ⟨g, 0, none⟩, cap, (Below.heap_setCell _ _ _ _ (by simp only; omega)).trans ((b3.block _ (by omega)).trans bM), (Below.heap_setCell _ _ _ _ (by simp only; omega)).trans ((b3.block _ (by omega)).trans bP), boxed_here bD b3 (by omega) _,
        og.other (a := ⟨D, 0, none⟩) (fun he => by have := (og.lt _ he).1; simp only at this; omega) _, (hbel.trans (b3.mono (by omega))).setCell (p := ⟨D, 0, none⟩) (by simp only; omega) _, by simp; omega⟩
    · go_simp
      go_at_call 39
      refine (HW.out _).mono ?_
      rintro e U6 ⟨rfl, hbu6⟩
      have bu6 := below_trans bV hbu6
      have hS := hS.below hbu6 (by have := bV.size; omega)
      dsimp only [rcV]
      refine hK'.out _ _ hS (fun _ => ?_)
      clear hK' K' hbu6
      try simp only [Act.put, List.setIfInBounds_toArray, List.set_cons_zero, List.set_cons_succ]
      refine wpAnyH_ready (rs := [0, 22]) (by kernel_rfl) (by simp) ?_
      refine AllReadyH.cons (by simp only [List.getElem?_toArray, List.getElem?_cons_succ, List.getElem?_cons_zero]; rfl) (fun K' hK' => ?_) (AllReadyH.cons (by simp only [List.getElem?_toArray, List.getElem?_cons_succ, List.getElem?_cons_zero]; rfl) (fun K' hK' => ?_) AllReadyH.nil)
      · have xD := (bu6.cell (p := ⟨D, 0, none⟩) pD).trans bD.cell
        go_simp
        refine hK'.out _ _ hS (fun _ => ?_)
        clear hK' K' xD
        try simp only [Act.put, List.setIfInBounds_toArray, List.set_cons_zero, List.set_cons_succ]
        refine wpAnyH_ready (rs := [22]) (by kernel_rfl) (by simp) ?_
        refine AllReadyH.cons (by simp only [List.getElem?_toArray, List.getElem?_cons_succ, List.getElem?_cons_zero]; rfl) (fun K' hK' => ?_) AllReadyH.nil
        go_simp
        go_at_call 47
        refine (HB.out _).mono ?_
        rintro e U8 ⟨rfl, hbu8⟩
        have bu8 := below_trans bu6 hbu8
        have hS := hS.below hbu8 (by have := bu6.size; omega)
        dsimp only
        refine hK'.out _ _ hS (fun _ => ?_)
        clear hK' K' hbu8
        try simp only [Act.put, List.setIfInBounds_toArray, List.set_cons_zero, List.set_cons_succ]
        refine wpAnyH_ready (rs := [23]) (by kernel_rfl) (by simp) ?_
        refine AllReadyH.cons (by simp only [List.getElem?_toArray, List.getElem?_cons_succ, List.getElem?_cons_zero]; rfl) (fun K' hK' => ?_) AllReadyH.nil
        go_simp
        have bu9 := below_alloc bu8 (.cells #[.int .i64 r0, .int .i64 r1, .int .i64 r2, .int .i64 r3] 53)
        have hS := hS.below ((Below.refl _ _).alloc (Nat.le_refl _) (.cells #[.int .i64 r0, .int .i64 r1, .int .i64 r2, .int .i64 r3] 53)) (by have := bu8.size; omega)
        refine hK'.out _ _ hS (fun _ => ?_)
        clear hK' K'
        obtain ⟨h0, hh0⟩ : ∃ h0, U8.heap.size = h0 := ⟨_, rfl⟩
        try rw [hh0]
        have c0 : ∀ (j : Nat) (u : Value), (rowR F (L ++ [(x, y)]) L.length)[j]? = some u → (U8.alloc (.cells #[.int .i64 r0, .int .i64 r1, .int .i64 r2, .int .i64 r3] 53)).cell? ⟨h0, j, none⟩ = some u := fun j u hj => by
          rw [HN.out] at hj
          rw [← hh0, cell_of_row _ _ _ _ _ (0, 0) (heap_alloc_new U8 _)]
          simpa using hj
        generalize U8.alloc (.cells #[.int .i64 r0, .int .i64 r1, .int .i64 r2, .int .i64 r3] 53) = U9 at *
        clear hh0
        try simp only [Act.put, List.setIfInBounds_toArray, List.set_cons_zero, List.set_cons_succ]
        refine wpAnyH_ready (rs := [24]) (by kernel_rfl) (by simp) ?_
        refine AllReadyH.cons (by simp only [List.getElem?_toArray, List.getElem?_cons_succ, List.getElem?_cons_zero]; rfl) (fun K' hK' => ?_) AllReadyH.nil
        refine step_appC V bu9 (others_of_below bu9) (by rfl) _ _ 49 (by rfl) 53 4 rect_elem (D + 3) X L.length cx _ (by rfl) oX h0 (by rfl) c0 (fun u hu => by rw [HN.out] at hu; simp at hu; rcases hu with rfl | rfl | rfl | rfl <;> rfl) hLn hsz ?_
        intro g cap U10 og sg hg
        have hS := TS.below (V' := U10) (V := V) (B := D + 3) hSV sg.below (by omega)
        refine hK'.out _ _ hS (fun _ => ?_)
        clear hK' K' c0
        try simp only [Act.put, List.setIfInBounds_toArray, List.set_cons_zero, List.set_cons_succ]
        refine wpAnyH_ready (rs := [25]) (by kernel_rfl) (by simp) ?_
        refine AllReadyH.cons (by simp only [List.getElem?_toArray, List.getElem?_cons_succ, List.getElem?_cons_zero]; rfl) (fun K' hK' => ?_) AllReadyH.nil
        have xD := (sg.below.cell (p := ⟨D, 0, none⟩) (by simp only; omega)).trans bD.cell
        have fD := (sg.below.frozen (p := ⟨D, 0, none⟩) (by simp only; omega)).trans bD.frozen
        go_simp
        have bset : Below (w.heap.size + 2) U10 (U10.setCell ⟨D, 0, none⟩ (.slice (some ⟨g, 0, none⟩) (L.length + 1) cap)) := (Below.refl _ _).setCell (p := ⟨D, 0, none⟩) (by simp only; omega) _
        have hS := hS.below bset (by omega)
        refine hK'.out _ _ hS (fun _ => ?_)
        clear hK' K' xD fD
        try simp only [Act.put, List.setIfInBounds_toArray, List.set_cons_zero, List.set_cons_succ]
        refine wpAnyH_done (by kernel_rfl) ?_ _
        simp only [OnlyN]
        have e1 : (L ++ [(x, y)]).length = L.length + 1 := by simp
        have b3 : Below (D + 3) V U10 := sg.below
        have hs5 : D + 3 ≤ U10.heap.size := Nat.le_trans hsz b3.size
        refine ⟨sg.others.trans (KeepsOthers.setCell _ _ _), ⟨(Below.heap_setCell _ _ _ _ (by simp only; omega)).trans (b3.block _ (by omega)), (Below.heap_setCell _ _ _ _ (by simp only; omega)).trans (b3.block _ (by omega))⟩, ?_⟩
        unfold TilesI
        rw [e1]
        exact ⟨some ⟨g, 0, none⟩, cap, (Below.heap_setCell _ _ _ _ (by simp only; omega)).trans ((b3.block _ (by omega)).trans bM), (Below.heap_setCell _ _ _ _ (by simp only; omega)).trans ((b3.block _ (by omega)).trans bP), boxed_here bD b3 (by omega) _,
          og.other (a := ⟨D, 0, none⟩) (fun he => by have := (og.lt _ he).1; simp only at this; omega) _, (hbel.trans (b3.mono (by omega))).setCell (p := ⟨D, 0, none⟩) (by simp only; omega) _, by simp; omega⟩
      · go_simp
        go_at_call 47
        refine (HB.out _).mono ?_
        rintro e U12 ⟨rfl, hbu12⟩
        have bu12 := below_trans bu6 hbu12
        have hS := hS.below hbu12 (by have := bu6.size; omega)
        dsimp only
        refine hK'.out _ _ hS (fun _ => ?_)
        clear hK' K' hbu12
        try simp only [Act.put, List.setIfInBounds_toArray, List.set_cons_zero, List.set_cons_succ]
        refine wpAnyH_ready (rs := [0, 23]) (by kernel_rfl) (by simp) ?_
        refine AllReadyH.cons (by simp only [List.getElem?_toArray, List.getElem?_cons_succ, List.getElem?_cons_zero]; rfl) (fun K' hK' => ?_) (AllReadyH.cons (by simp only [List.getElem?_toArray, List.getElem?_cons_succ, List.getElem?_cons_zero]; rfl) (fun K' hK' => ?_) AllReadyH.nil)
        · have xD := (bu12.cell (p := ⟨D, 0, none⟩) pD).trans bD.cell
          go_simp
          refine hK'.out _ _ hS (fun _ => ?_)
          clear hK' K' xD
          try simp only [Act.put, List.setIfInBounds_toArray, List.set_cons_zero, List.set_cons_succ]
          refine wpAnyH_ready (rs := [23]) (by kernel_rfl) (by simp) ?_
          refine AllReadyH.cons (by simp only [List.getElem?_toArray, List.getElem?_cons_succ, List.getElem?_cons_zero]; rfl) (fun K' hK' => ?_) AllReadyH.nil
          go_simp
          have bu14 := below_alloc bu12 (.cells #[.int .i64 r0, .int .i64 r1, .int .i64 r2, .int .i64 r3] 53)
          have hS := hS.below ((Below.refl _ _).alloc (Nat.le_refl _) (.cells #[.int .i64 r0, .int .i64 r1, .int .i64 r2, .int .i64 r3] 53)) (by have := bu12.size; omega)
          refine hK'.out _ _ hS (fun _ => ?_)
          clear hK' K'
          obtain ⟨h0, hh0⟩ : ∃ h0, U12.heap.size = h0 := ⟨_, rfl⟩
          try rw [hh0]
          have c0 : ∀ (j : Nat) (u : Value), (rowR F (L ++ [(x, y)]) L.length)[j]? = some u → (U12.alloc (.cells #[.int .i64 r0, .int .i64 r1, .int .i64 r2, .int .i64 r3] 53)).cell? ⟨h0, j, none⟩ = some u := fun j u hj => by
            rw [HN.out] at hj
            rw [← hh0, cell_of_row _ _ _ _ _ (0, 0) (heap_alloc_new U12 _)]
            simpa using hj
          generalize U12.alloc (.cells #[.int .i64 r0, .int .i64 r1, .int .i64 r2, .int .i64 r3] 53) = U14 at *
          clear hh0
          try simp only [Act.put, List.setIfInBounds_toArray, List.set_cons_zero, List.set_cons_succ]
          refine wpAnyH_ready (rs := [24]) (by kernel_rfl) (by simp) ?_
          refine AllReadyH.cons (by simp only [List.getElem?_toArray, List.getElem?_cons_succ, List.getElem?_cons_zero]; rfl) (fun K' hK' => ?_) AllReadyH.nil
          refine step_appC V bu14 (others_of_below bu14) (by rfl) _ _ 49 (by rfl) 53 4 rect_elem (D + 3) X L.length cx _ (by rfl) oX h0 (by rfl) c0 (fun u hu => by rw [HN.out] at hu; simp at hu; rcases hu with rfl | rfl | rfl | rfl <;> rfl) hLn hsz ?_
          intro g cap U15 og sg hg
          have hS := TS.below (V' := U15) (V := V) (B := D + 3) hSV sg.below (by omega)
          refine hK'.out _ _ hS (fun _ => ?_)
          clear hK' K' c0
          try simp only [Act.put, List.setIfInBounds_toArray, List.set_cons_zero, List.set_cons_succ]
          refine wpAnyH_ready (rs := [25]) (by kernel_rfl) (by simp) ?_
          refine AllReadyH.cons (by simp only [List.getElem?_toArray, List.getElem?_cons_succ, List.getElem?_cons_zero]; rfl) (fun K' hK' => ?_) AllReadyH.nil
          have xD := (sg.below.cell (p := ⟨D, 0, none⟩) (by simp only; omega)).trans bD.cell
          have fD := (sg.below.frozen (p := ⟨D, 0, none⟩) (by simp only; omega)).trans bD.frozen
          go_simp
          have bset : Below (w.heap.size + 2) U15 (U15.setCell ⟨D, 0, none⟩ (.slice (some ⟨g, 0, none⟩) (L.length + 1) cap)) := (Below.refl _ _).setCell (p := ⟨D, 0, none⟩) (by simp only; omega) _
          have hS := hS.below bset (by omega)
          refine hK'.out _ _ hS (fun _ => ?_)
          clear hK' K' xD fD
          try simp only [Act.put, List.setIfInBounds_toArray, List.set_cons_zero, List.set_cons_succ]
          refine wpAnyH_done (by kernel_rfl) ?_ _
          simp only [OnlyN]
          have e1 : (L ++ [(x, y)]).length = L.length + 1 := by simp
          have b3 : Below (D + 3) V U15 := sg.below
          have hs5 : D + 3 ≤ U15.heap.size := Nat.le_trans hsz b3.size
          refine ⟨sg.others.trans (KeepsOthers.setCell _ _ _), ⟨(Below.heap_setCell _ _ _ _ (by simp only; omega)).trans (b3.block _ (by omega)), (Below.heap_setCell _ _ _ _ (by simp only; omega)).trans (b3.block _ (by omega))⟩, ?_⟩
          unfold TilesI
          rw [e1]
          exact ⟨some ⟨g, 0, none⟩, cap, (Below.heap_setCell _ _ _ _ (by simp only; omega)).trans ((b3.block _ (by omega)).trans bM), (Below.heap_setCell _ _ _ _ (by simp only; omega)).trans ((b3.block _ (by omega)).trans bP), boxed_here bD b3 (by omega) _,
            og.other (a := ⟨D, 0, none⟩) (fun he => by have := (og.lt _ he).1; simp only at this; omega) _, (hbel.trans (b3.mono (by omega))).setCell (p := ⟨D, 0, none⟩) (by simp only; omega) _, by simp; omega⟩
        · go_simp
          have bu17 := below_alloc bu12 (.cells #[.int .i64 r0, .int .i64 r1, .int .i64 r2, .int .i64 r3] 53)
          have hS := hS.below ((Below.refl _ _).alloc (Nat.le_refl _) (.cells #[.int .i64 r0, .int .i64 r1, .int .i64 r2, .int .i64 r3] 53)) (by have := bu12.size; omega)
          refine hK'.out _ _ hS (fun _ => ?_)
          clear hK' K'
          obtain ⟨h0, hh0⟩ : ∃ h0, U12.heap.size = h0 := ⟨_, rfl⟩
          try rw [hh0]
          have c0 : ∀ (j : Nat) (u : Value), (rowR F (L ++ [(x, y)]) L.length)[j]? = some u → (U12.alloc (.cells #[.int .i64 r0, .int .i64 r1, .int .i64 r2, .int .i64 r3] 53)).cell? ⟨h0, j, none⟩ = some u := fun j u hj => by
            rw [HN.out] at hj
            rw [← hh0, cell_of_row _ _ _ _ _ (0, 0) (heap_alloc_new U12 _)]
            simpa using hj
          generalize U12.alloc (.cells #[.int .i64 r0, .int .i64 r1, .int .i64 r2, .int .i64 r3] 53) = U17 at *
          clear hh0
          try simp only [Act.put, List.setIfInBounds_toArray, List.set_cons_zero, List.set_cons_succ]
          refine wpAnyH_ready (rs := [0]) (by kernel_rfl) (by simp) ?_
          refine AllReadyH.cons (by simp only [List.getElem?_toArray, List.getElem?_cons_succ, List.getElem?_cons_zero]; rfl) (fun K' hK' => ?_) AllReadyH.nil
          have xD := (bu17.cell (p := ⟨D, 0, none⟩) pD).trans bD.cell
          go_simp
          refine hK'.out _ _ hS (fun _ => ?_)
          clear hK' K' xD
          try simp only [Act.put, List.setIfInBounds_toArray, List.set_cons_zero, List.set_cons_succ]
          refine wpAnyH_ready (rs := [24]) (by kernel_rfl) (by simp) ?_
          refine AllReadyH.cons (by simp only [List.getElem?_toArray, List.getElem?_cons_succ, List.getElem?_cons_zero]; rfl) (fun K' hK' => ?_) AllReadyH.nil
          refine step_appC V bu17 (others_of_below bu17) (by rfl) _ _ 49 (by rfl) 53 4 rect_elem (D + 3) X L.length cx _ (by rfl) oX h0 (by rfl) c0 (fun u hu => by rw [HN.out] at hu; simp at hu; rcases hu with rfl | rfl | rfl | rfl <;> rfl) hLn hsz ?_
          intro g cap U19 og sg hg
          have hS := TS.below (V' := U19) (V := V) (B := D + 3) hSV sg.below (by omega)
          refine hK'.out _ _ hS (fun _ => ?_)
          clear hK' K' c0
          try simp only [Act.put, List.setIfInBounds_toArray, List.set_cons_zero, List.set_cons_succ]
          refine wpAnyH_ready (rs := [25]) (by kernel_rfl) (by simp) ?_
          refine AllReadyH.cons (by simp only [List.getElem?_toArray, List.getElem?_cons_succ, List.getElem?_cons_zero]; rfl) (fun K' hK' => ?_) AllReadyH.nil
          have xD := (sg.below.cell (p := ⟨D, 0, none⟩) (by simp only; omega)).trans bD.cell
          have fD := (sg.below.frozen (p := ⟨D, 0, none⟩) (by simp only; omega)).trans bD.frozen
          go_simp
          have bset : Below (w.heap.size + 2) U19 (U19.setCell ⟨D, 0, none⟩ (.slice (some ⟨g, 0, none⟩) (L.length + 1) cap)) := (Below.refl _ _).setCell (p := ⟨D, 0, none⟩) (by simp only; omega) _
          have hS := hS.below bset (by omega)
          refine hK'.out _ _ hS (fun _ => ?_)
          clear hK' K' xD fD
          try simp only [Act.put, List.setIfInBounds_toArray, List.set_cons_zero, List.set_cons_succ]
          refine wpAnyH_done (by kernel_rfl) ?_ _
          simp only [OnlyN]
          have e1 : (L ++ [(x, y)]).length = L.length + 1 := by simp
          have b3 : Below (D + 3) V U19 := sg.below
          have hs5 : D + 3 ≤ U19.heap.size := Nat.le_trans hsz b3.size
          refine ⟨sg.others.trans (KeepsOthers.setCell _ _ _), ⟨(Below.heap_setCell _ _ _ _ (by simp only; omega)).trans (b3.block _ (by omega)), (Below.heap_setCell _ _ _ _ (by simp only; omega)).trans (b3.block _ (by omega))⟩, ?_⟩
          unfold TilesI
          rw [e1]
          exact ⟨some ⟨g, 0, none⟩, cap, (Below.heap_setCell _ _ _ _ (by simp only; omega)).trans ((b3.block _ (by omega)).trans bM), (Below.heap_setCell _ _ _ _ (by simp only; omega)).trans ((b3.block _ (by omega)).trans bP), boxed_here bD b3 (by omega) _,
            og.other (a := ⟨D, 0, none⟩) (fun he => by have := (og.lt _ he).1; simp only at this; omega) _, (hbel.trans (b3.mono (by omega))).setCell (p := ⟨D, 0, none⟩) (by simp only; omega) _, by simp; omega⟩
  case done =>
    rintro D2 xs V hD hxs ⟨X, cx, bM, bP, bD, oX, hbel, hsz⟩ hK
    have hgl : (grid W H).length = W * H := grid_len W H
    rw [hxs] at bD oX
    have iX := oX.at_
    have xD := bD.cell
    have hfin : ∀ k, k < W * H → rowR F (grid W H) k = rcL (tileR Xn Yn Ox Oy txn tyn (gridAt W k)) := fun k hk => by
      unfold rowR grid
      rw [hF, List.getD_eq_getElem?_getD, List.getElem?_map, List.getElem?_range hk]
      rfl
    rw [hgl] at iX xD
    clear oX bD
    have HX := Lib.hid iX
    clear iX
    gi_wp2_with (gi_at_builtin; refine wpListIn_copyC rfl _ _ 49 rfl 53 4 rect_elem rfl V.heap.size X (W * H) cx (rowR F (grid W H)) rfl (rowR_len _ _) HX.out (fun k u hu => rcL_one _ u hu) (by omega) ?_; intro A1 cap1 V1 o1 bV1 kV1)
    have dlt : D2 < V.heap.size := (Array.getElem?_eq_some_iff.1 hK).1
    have hK1 : V1.heap[D2]? = some (.deferred (some [])) := (bV1.block D2 dlt).trans hK
    refine ⟨by simp, .inl ⟨_, _, rfl, run_takeDeferred hK1, ?_⟩⟩
    have gp := grownBy_putObj' V1 D2 (.deferred none)
    have gn : ∀ r, some D2 = some r → ∃ o : Obj, V1.heap[r]? = some o ∧ o.isCells = false := fun r e => by cases e; exact ⟨_, hK1, rfl⟩
    have o2 := o1.keptNC gp gn
    have hbl7 := (below_trans hbel bV1).grown gp (below_trans hbel bV1).size (fun k hk => by cases hk; omega)
    refine ⟨.slice A1 (W * H) cap1, ?_, A1, cap1, rfl, (o2.mono hbel.size).congr (fun _ => rfl) hfin, hbl7⟩
    simp [results, Try.f19, go_sem]
  case stop =>
    rintro D cc pre W _ _ h _
    exact h.elim
end Go.Proofs.Ytmieoifagnpbiaa
