/- CONTRACT of canvas.Check. -/
import Derived.Test.YtmieoifagnpbiaaPart12
import Derived.Test.YtmieoifagnpbiaaHeld
namespace Go.Proofs.Ytmieoifagnpbiaa
open Go.RowKit
set_option maxHeartbeats 4000000
set_option linter.unusedVariables false
set_option linter.unusedSimpArgs false
set_option maxRecDepth 100000

def sampOk (lo hi : Int) (n : Nat) (f : Nat → Int) : Bool := (List.range n).all fun i => inB (f i) lo hi
theorem sampOk_succ (lo hi : Int) (n : Nat) (f : Nat → Int) : sampOk lo hi (n + 1) f = (sampOk lo hi n f && inB (f n) lo hi) := by
  unfold sampOk
  rw [List.range_succ, List.all_append]
  simp
theorem sampOk_bad {lo hi : Int} {n i : Nat} {f : Nat → Int} (hi' : i < n) (h : inB (f i) lo hi = false) : sampOk lo hi n f = false := by
  unfold sampOk
  rw [List.all_eq_false]
  exact ⟨i, List.mem_range.2 hi', by simp [h]⟩
def areaN (X Y Ox Oy dx dy : Nat) : Nat := (byN X dx - byN Ox dx) * (byN Y dy - byN Oy dy)
/-- what is wrong with a component -/
def compE (X Y Ox Oy : Nat) (d : CompD) (f : Nat → Int) : Int :=
  if d.n = areaN X Y Ox Oy d.dx.toNat d.dy.toNat then (if sampOk (loB d.dp.toNat d.sg) (hiB d.dp.toNat d.sg) d.n f then 0 else 11) else 7
def firstE (E : Nat → Int) : Nat → Int
  | 0 => 0
  | k + 1 => if firstE E k = 0 then E k else firstE E k
theorem firstE_stop {E : Nat → Int} {k : Nat} (h : firstE E k ≠ 0) : ∀ n, k ≤ n → firstE E n = firstE E k
  | 0, hn => by rw [show k = 0 by omega]
  | n + 1, hn => by
    by_cases hk : k = n + 1
    · rw [hk]
    · have := firstE_stop h n (by omega)
      show (if firstE E n = 0 then E n else firstE E n) = _
      rw [this, if_neg h]
theorem firstE_at {E : Nat → Int} {k n : Nat} (h0 : firstE E k = 0) (hk : k < n) (h : E k ≠ 0) : firstE E n = E k := by
  have h1 : firstE E (k + 1) = E k := by
    show (if firstE E k = 0 then E k else firstE E k) = _
    rw [if_pos h0]
  rw [← h1]
  exact firstE_stop (by rw [h1]; exact h) n hk
theorem firstE_next {E : Nat → Int} {k : Nat} (h0 : firstE E k = 0) (h : E k = 0) : firstE E (k + 1) = 0 := by
  show (if firstE E k = 0 then E k else firstE E k) = _
  rw [if_pos h0, h]
def checkE (X Y Ox Oy : Int) (n : Nat) (F : Nat → CompD) (G : Nat → Nat → Int) (tx ty lv cw ch pr st od ly : Int) (rct : Bool) : Int :=
  if frameE X Y Ox Oy n F tx ty lv cw ch pr st od ly rct = 0 then firstE (fun k => compE X.toNat Y.toNat Ox.toNat Oy.toNat (F k) (G k)) n else frameE X Y Ox Oy n F tx ty lv cw ch pr st od ly rct
theorem frame_pic {X Y Ox Oy : Int} {n : Nat} {F : Nat → CompD} {tx ty lv cw ch pr st od ly : Int} {rct : Bool} (h : frameE X Y Ox Oy n F tx ty lv cw ch pr st od ly rct = 0) : pictureE X Y Ox Oy n F = 0 := by
  unfold frameE at h
  split at h
  · assumption
  · assumption
theorem allOk_at {n k : Nat} {F : Nat → CompD} (h : allOk n F = true) (hk : k < n) : compOk (F k) = true := by
  unfold allOk at h
  rw [List.all_eq_true] at h
  exact h k (List.mem_range.2 hk)
theorem compOk_bd {d : CompD} (h : compOk d = true) : 1 ≤ d.dp ∧ d.dp ≤ 16 ∧ 1 ≤ d.dx ∧ d.dx ≤ 4 ∧ 1 ≤ d.dy ∧ d.dy ≤ 4 := by
  unfold compOk at h
  rw [Bool.and_eq_true, Bool.and_eq_true] at h
  have h1 := inB_true.1 h.1
  have h2 := inB_true.1 h.2.1
  have h3 := inB_true.1 h.2.2
  exact ⟨h1.1, h1.2, h2.1, h2.2, h3.1, h3.2⟩
theorem heap_set1 {w : World} {g j : Nat} {cs : Array Value} {T : TypeId} (h : w.heap[g]? = some (.cells cs T (0, 0))) (u : Value) : (w.setCell ⟨g, j, none⟩ u).heap[g]? = some (.cells (cs.setIfInBounds j u) T (0, 0)) := heap_setCell_same w g j cs T u h
theorem mx0 {a b : Nat} (h : (b : Int) - a = ((b - a : Nat) : Int) ∨ True) : (if (b : Int) - a < 0 then 0 else (b : Int) - a) = ((b - a : Nat) : Int) := by
  split <;> omega

theorem check_any (X Y Ox Oy : Int) (A : Option Addr) (n c : Nat) (F : Nat → CompD) (G : Nat → Nat → Int) (tx ty lv cw ch pr st od ly : Int) (rct sop eph : Bool) (w : World) (ha : CompsAt w w.heap.size A n F) (hc : n ≤ c)
    (hG : ∀ k, k < n → IntsAt w w.heap.size (F k).A (F k).n (G k)) (hN : ∀ k, k < n → (F k).n ≤ 1099511627776) :
    Calls Try.prog 15 #[imgV X Y Ox Oy A n c, parV tx ty lv cw ch pr st od ly rct sop eph] w fun e w' => e = .returned (.int .i64 (checkE X Y Ox Oy n F G tx ty lv cw ch pr st od ly rct)) ∧ Below w.heap.size w w' := by
  obtain ⟨E, hE⟩ : ∃ E, checkE X Y Ox Oy n F G tx ty lv cw ch pr st od ly rct = E := ⟨_, rfl⟩
  rw [hE]
  obtain ⟨fe, hfe⟩ : ∃ fe, frameE X Y Ox Oy n F tx ty lv cw ch pr st od ly rct = fe := ⟨_, rfl⟩
  unfold checkE at hE
  rw [hfe] at hE
  have P1 := Lib.hid (fun (v : World) (h : CompsAt v v.heap.size A n F) => by have := frame_any X Y Ox Oy A n c F tx ty lv cw ch pr st od ly rct sop eph v h hc; rw [hfe] at this; exact this)
  have HE := Lib.hid hE
  have HFE := Lib.hid hfe
  clear hE hfe
  unfold imgV at *
  unfold parV at *
  go_enter Try.func15, Try.ntmps15
  go_wp2_with fail
  generalize hw2 : World.alloc (World.alloc w _) _ = w2
  have gm : w2.heap[w.heap.size]? = some (.cells #[.int .i64 X, .int .i64 Y, .int .i64 Ox, .int .i64 Oy, .slice A n c] 25 (0, 0)) := by rw [← hw2]; exact (Below.heap_alloc _ _ _ (by simp)).trans (heap_alloc_new w _)
  have hlt : w.heap.size + 1 < w2.heap.size := by rw [← hw2]; simp
  have hB : Below w.heap.size w w2 := by rw [← hw2]; exact below_alloc (below_alloc (Below.refl _ _) _) _
  clear hw2
  have ha2 : CompsAt w2 w2.heap.size A n F := (ha.below hB).more (by omega)
  refine (P1.out _ ha2).mono ?_
  rintro e w3 ⟨rfl, hb3⟩
  have gm3 := (hb3.block w.heap.size (by omega)).trans gm
  have hB3 := below_trans hB hb3
  have hlt3 : w.heap.size + 1 < w3.heap.size := Nat.lt_of_lt_of_le hlt hb3.size
  have m := fun i => cell_of_row _ _ i _ _ (0, 0) gm3
  have m4 : w3.cell? ⟨w.heap.size, 4, none⟩ = some (.slice A n c) := m 4
  clear hb3 gm hB hlt ha2 m P1
  by_cases hf : fe = 0
  · subst hf
    obtain ⟨x1, x2, x3, x4, x5, x6, x7, x8, hall⟩ := picture_ok (frame_pic HFE.out)
    have hE := HE.out
    rw [if_pos rfl] at hE
    clear HE
    obtain ⟨Xn, rfl⟩ := Int.eq_ofNat_of_zero_le (show (0 : Int) ≤ X by omega)
    obtain ⟨Yn, rfl⟩ := Int.eq_ofNat_of_zero_le (show (0 : Int) ≤ Y by omega)
    obtain ⟨On, rfl⟩ := Int.eq_ofNat_of_zero_le (show (0 : Int) ≤ Ox by omega)
    obtain ⟨Pn, rfl⟩ := Int.eq_ofNat_of_zero_le (show (0 : Int) ≤ Oy by omega)
    simp only [Int.toNat_natCast] at hE
    have HE := Lib.hid hE
    have HALL := Lib.hid hall
    clear hE hall
    go_wp2_with fail
    clear m4
    go_loopw [22] (fun i wr => ∃ k : Nat, k ≤ n ∧ i = .int .i64 k ∧ firstE (fun k => compE Xn Yn On Pn (F k) (G k)) k = 0 ∧ wr.heap[w.heap.size]? = some (.cells #[.int .i64 Xn, .int .i64 Yn, .int .i64 On, .int .i64 Pn, .slice A n c] 25 (0, 0)) ∧ Below w.heap.size w wr ∧ w.heap.size + 1 < wr.heap.size) (fun i _ => n - (intOf i).toNat)
    case atStart => exact ⟨0, Nat.zero_le _, rfl, rfl, gm3, hB3, hlt3⟩
    case round =>
      obtain ⟨k, hk, rfl, hfst, gm, hbel, hsz⟩ := hrel
      have HFST := Lib.hid hfst
      clear hfst
      clear gm3 hB3 hlt3
      by_cases hlt : k < n
      · obtain ⟨bb, off, rfl, hlb, k1, k2, k3, k4, k5⟩ := (ha.below hbel).at_ hlt
        obtain ⟨y1, y2, y3, y4, y5, y6⟩ := compOk_bd (allOk_at HALL.out hlt)
        have hI := (hG k hlt).below hbel
        have hN := hN k hlt
        have hbad : ∀ v, compE Xn Yn On Pn (F k) (G k) = v → v ≠ 0 → E = v := fun v h1 h2 => by
          rw [← HE.out, firstE_at (E := fun k => compE Xn Yn On Pn (F k) (G k)) HFST.out hlt (by show compE Xn Yn On Pn (F k) (G k) ≠ 0; rw [h1]; exact h2)]; exact h1
        have hgood : compE Xn Yn On Pn (F k) (G k) = 0 → firstE (fun k => compE Xn Yn On Pn (F k) (G k)) (k + 1) = 0 := fun h => firstE_next HFST.out h
        obtain ⟨dk, hdk⟩ : ∃ d, F k = d := ⟨_, rfl⟩
        obtain ⟨gk, hgk⟩ : ∃ g, G k = g := ⟨_, rfl⟩
        rw [hdk, hgk] at hbad hgood
        rw [hdk] at hN
        rw [hdk, hgk] at hI
        rw [hdk] at k1 k2 k3 k4 k5 y1 y2 y3 y4 y5 y6
        obtain ⟨dp, sg, dx, dy, DA, N, dc⟩ := dk
        simp only at hbad hgood hI hN k1 k2 k3 k4 k5 y1 y2 y3 y4 y5 y6
        obtain ⟨dpn, rfl⟩ := Int.eq_ofNat_of_zero_le (show (0 : Int) ≤ dp by omega)
        obtain ⟨dxn, rfl⟩ := Int.eq_ofNat_of_zero_le (show (0 : Int) ≤ dx by omega)
        obtain ⟨dyn, rfl⟩ := Int.eq_ofNat_of_zero_le (show (0 : Int) ≤ dy by omega)
        unfold compE at hbad hgood
        simp only [Int.toNat_natCast] at hbad hgood
        have BAD := Lib.hid hbad
        have GOOD := Lib.hid hgood
        clear hbad hgood hdk hgk
        have HW := Lib.hid (fun v : World => whole_any Xn Yn On Pn (some ⟨bb, off, none⟩) n c v)
        have HPa := Lib.hid (fun v : World => part_any On Pn Xn Yn dxn dyn (by omega) (by omega) (by omega) (by omega) (by omega) (by omega) (by omega) (by omega) v)
        have HBo := Lib.hid (fun v : World => bounds12_any dpn sg dxn dyn DA N dc (by omega) (by omega) v)
        have bc := heap_alloc_new wr (.cells #[.int .i64 dpn, .bool sg, .int .i64 dxn, .int .i64 dyn, .slice DA N dc] 34)
        have gm1 := (Below.heap_alloc wr (.cells #[.int .i64 dpn, .bool sg, .int .i64 dxn, .int .i64 dyn, .slice DA N dc] 34) w.heap.size (by omega)).trans gm
        have hb1 := below_alloc hbel (.cells #[.int .i64 dpn, .bool sg, .int .i64 dxn, .int .i64 dyn, .slice DA N dc] 34)
        have hI1 := hI.alloc hbel.size (.cells #[.int .i64 dpn, .bool sg, .int .i64 dxn, .int .i64 dyn, .slice DA N dc] 34)
        have hs1 : (wr.alloc (.cells #[.int .i64 dpn, .bool sg, .int .i64 dxn, .int .i64 dyn, .slice DA N dc] 34)).heap.size = wr.heap.size + 1 := by simp
        go_wp2_with fail
        obtain ⟨q, hq⟩ : ∃ q, wr.heap.size = q := ⟨_, rfl⟩
        rw [hq] at bc hs1 hsz
        rw [hq]
        clear k1 k2 k3 k4 k5 hI gm hbel
        generalize wr.alloc (.cells #[.int .i64 dpn, .bool sg, .int .i64 dxn, .int .i64 dyn, .slice DA N dc] 34) = V at *
        have m := fun i => cell_of_row _ _ i _ _ (0, 0) gm1
        have b := fun i => cell_of_row _ _ i _ _ (0, 0) bc
        have l1 : byN Xn dxn ≤ Xn := byN_le (by omega)
        have l2 : byN Yn dyn ≤ Yn := byN_le (by omega)
        have l3 : byN On dxn ≤ On := byN_le (by omega)
        have l4 : byN Pn dyn ≤ Pn := byN_le (by omega)
        have BADX := BAD.out
        have GOODX := GOOD.out
        clear BAD GOOD
        unfold areaN rcV at *
        simp only at *
        generalize byN Xn dxn = A1 at *
        generalize byN Yn dyn = B1 at *
        generalize byN On dxn = A0 at *
        generalize byN Pn dyn = B0 at *
        have BAD := Lib.hid BADX
        have GOOD := Lib.hid GOODX
        clear BADX GOODX
        refine held_cut (by kernel_rfl) (fun U => U.cell? ⟨w.heap.size, 0, none⟩ = some (.int .i64 Xn) ∧ U.cell? ⟨w.heap.size, 1, none⟩ = some (.int .i64 Yn) ∧ U.cell? ⟨w.heap.size, 2, none⟩ = some (.int .i64 On) ∧ U.cell? ⟨w.heap.size, 3, none⟩ = some (.int .i64 Pn) ∧ U.cell? ⟨w.heap.size, 4, none⟩ = some (.slice (some ⟨bb, off, none⟩) n c) ∧ U.cell? ⟨q, 2, none⟩ = some (.int .i64 dxn) ∧ U.cell? ⟨q, 3, none⟩ = some (.int .i64 dyn)) (fun a0 a' W4 => ∃ rb, a' = ((((((((a0.put (some 26) (.agg #[.int .i64 Xn, .int .i64 Yn, .int .i64 On, .int .i64 Pn, .slice (some ⟨bb, off, none⟩) n c])).put (some 28) (.pointer (some ⟨q, 2, none⟩))).put (some 29) (.int .i64 dxn)).put (some 30) (.pointer (some ⟨q, 3, none⟩))).put (some 31) (.int .i64 dyn)).put (some 27) (.agg #[.int .i64 On, .int .i64 Pn, .int .i64 Xn, .int .i64 Yn])).put (some 32) (.agg #[.int .i64 A0, .int .i64 B0, .int .i64 A1, .int .i64 B1])).put (some 8) (.pointer (some ⟨rb, 0, none⟩))) ∧ W4.heap[rb]? = some (.cells #[.int .i64 A0, .int .i64 B0, .int .i64 A1, .int .i64 B1] 53 (0, 0)) ∧ Below (q + 1) V W4) ⟨m 0, m 1, m 2, m 3, m 4, b 2, b 3⟩ (fun hS => ?_) ?_
        · skip
          have hSB : ∀ U : World, Below (q + 1) V U → U.cell? ⟨w.heap.size, 0, none⟩ = some (.int .i64 Xn) ∧ U.cell? ⟨w.heap.size, 1, none⟩ = some (.int .i64 Yn) ∧ U.cell? ⟨w.heap.size, 2, none⟩ = some (.int .i64 On) ∧ U.cell? ⟨w.heap.size, 3, none⟩ = some (.int .i64 Pn) ∧ U.cell? ⟨w.heap.size, 4, none⟩ = some (.slice (some ⟨bb, off, none⟩) n c) ∧ U.cell? ⟨q, 2, none⟩ = some (.int .i64 dxn) ∧ U.cell? ⟨q, 3, none⟩ = some (.int .i64 dyn) := fun U h =>
            have g0 := fun i => h.cell (p := ⟨w.heap.size, i, none⟩) (by simp only; omega)
            have g1 := fun i => h.cell (p := ⟨q, i, none⟩) (by simp only; omega)
            ⟨(g0 0).trans (m 0), (g0 1).trans (m 1), (g0 2).trans (m 2), (g0 3).trans (m 3), (g0 4).trans (m 4), (g1 2).trans (b 2), (g1 3).trans (b 3)⟩
          have bV : Below (q + 1) V V.drew := (Below.refl _ _).drew
          have sV : q + 1 ≤ V.drew.heap.size := Nat.le_of_eq hs1.symm
          generalize V.drew = V0 at *
          clear m b
          refine wpAnyH_take (i := 0) (v := .agg #[.int .i64 Xn, .int .i64 Yn, .int .i64 On, .int .i64 Pn, .slice (some ⟨bb, off, none⟩) n c]) rfl (by kernel_rfl) (by kernel_rfl) (by kernel_rfl) (fun _ _ _ h => h) (Or.inl ⟨by rfl, ?_⟩) hS ?_
          · intro U hU
            obtain ⟨q0, q1, q2, q3, q4, q5, q6⟩ := hU
            go_simp
          simp only [Act.put, List.setIfInBounds_toArray, List.set_cons_zero, List.set_cons_succ]
          refine wpAnyH_take (i := 2) (v := .pointer (some ⟨q, 2, none⟩)) rfl (by kernel_rfl) (by kernel_rfl) (by kernel_rfl) (fun _ _ _ h => h) (Or.inl ⟨by rfl, ?_⟩) hS ?_
          · intro U hU
            obtain ⟨q0, q1, q2, q3, q4, q5, q6⟩ := hU
            go_simp
          simp only [Act.put, List.setIfInBounds_toArray, List.set_cons_zero, List.set_cons_succ]
          refine wpAnyH_take (i := 3) (v := .int .i64 dxn) rfl (by kernel_rfl) (by kernel_rfl) (by kernel_rfl) (fun _ _ _ h => h) (Or.inl ⟨by rfl, ?_⟩) hS ?_
          · intro U hU
            obtain ⟨q0, q1, q2, q3, q4, q5, q6⟩ := hU
            go_simp
          simp only [Act.put, List.setIfInBounds_toArray, List.set_cons_zero, List.set_cons_succ]
          refine wpAnyH_take (i := 4) (v := .pointer (some ⟨q, 3, none⟩)) rfl (by kernel_rfl) (by kernel_rfl) (by kernel_rfl) (fun _ _ _ h => h) (Or.inl ⟨by rfl, ?_⟩) hS ?_
          · intro U hU
            obtain ⟨q0, q1, q2, q3, q4, q5, q6⟩ := hU
            go_simp
          simp only [Act.put, List.setIfInBounds_toArray, List.set_cons_zero, List.set_cons_succ]
          refine wpAnyH_take (i := 5) (v := .int .i64 dyn) rfl (by kernel_rfl) (by kernel_rfl) (by kernel_rfl) (fun _ _ _ h => h) (Or.inl ⟨by rfl, ?_⟩) hS ?_
          · intro U hU
            obtain ⟨q0, q1, q2, q3, q4, q5, q6⟩ := hU
            go_simp
          simp only [Act.put, List.setIfInBounds_toArray, List.set_cons_zero, List.set_cons_succ]
          refine wpAnyH_ready (rs := [1, 7]) (by kernel_rfl) (by simp) ?_
          refine AllReadyH.cons (by simp only [List.getElem?_toArray, List.getElem?_cons_succ, List.getElem?_cons_zero]; rfl) (fun K' hK' => ?_) (AllReadyH.cons (by simp only [List.getElem?_toArray, List.getElem?_cons_succ, List.getElem?_cons_zero]; rfl) (fun K' hK' => ?_) AllReadyH.nil)
          · go_simp
            go_at_call 39
            refine (HW.out _).mono ?_
            rintro e U0 ⟨rfl, hbu0⟩
            have bu0 := bV.trans (hbu0.mono sV)
            have sV := Nat.le_trans sV hbu0.size
            try have gr := (hbu0.block rb (Array.getElem?_eq_some_iff.1 gr).1).trans gr
            have hS := hSB _ bu0
            dsimp only
            refine hK'.out _ _ hS (fun _ => ?_)
            clear hbu0
            clear hK' K'
            try simp only [Act.put, List.setIfInBounds_toArray, List.set_cons_zero, List.set_cons_succ]
            refine wpAnyH_ready (rs := [6, 7]) (by kernel_rfl) (by simp) ?_
            refine AllReadyH.cons (by simp only [List.getElem?_toArray, List.getElem?_cons_succ, List.getElem?_cons_zero]; rfl) (fun K' hK' => ?_) (AllReadyH.cons (by simp only [List.getElem?_toArray, List.getElem?_cons_succ, List.getElem?_cons_zero]; rfl) (fun K' hK' => ?_) AllReadyH.nil)
            · go_simp
              go_at_call 22
              refine (HPa.out _).mono ?_
              rintro e U1 ⟨rfl, hbu1⟩
              have bu1 := bu0.trans (hbu1.mono sV)
              have sV := Nat.le_trans sV hbu1.size
              try have gr := (hbu1.block rb (Array.getElem?_eq_some_iff.1 gr).1).trans gr
              have hS := hSB _ bu1
              dsimp only
              refine hK'.out _ _ hS (fun _ => ?_)
              clear hbu1
              clear hK' K'
              try simp only [Act.put, List.setIfInBounds_toArray, List.set_cons_zero, List.set_cons_succ]
              refine wpAnyH_ready (rs := [7]) (by kernel_rfl) (by simp) ?_
              refine AllReadyH.cons (by simp only [List.getElem?_toArray, List.getElem?_cons_succ, List.getElem?_cons_zero]; rfl) (fun K' hK' => ?_) AllReadyH.nil
              go_simp
              have bu2 := bu1.alloc sV (.cells #[.int .i64 0, .int .i64 0, .int .i64 0, .int .i64 0] 53)
              have gr := heap_alloc_new U1 (.cells #[.int .i64 0, .int .i64 0, .int .i64 0, .int .i64 0] 53)
              have sr := sV
              have sV : q + 1 ≤ (U1.alloc (.cells #[.int .i64 0, .int .i64 0, .int .i64 0, .int .i64 0] 53)).heap.size := by simp; omega
              have hS := hSB _ bu2
              refine hK'.out _ _ hS (fun _ => ?_)
              obtain ⟨rb, hrb⟩ : ∃ rb, U1.heap.size = rb := ⟨_, rfl⟩
              rw [hrb] at gr sr
              try rw [hrb]
              clear hrb
              generalize U1.alloc (.cells #[.int .i64 0, .int .i64 0, .int .i64 0, .int .i64 0] 53) = U2 at *
              clear hK' K'
              try simp only [Act.put, List.setIfInBounds_toArray, List.set_cons_zero, List.set_cons_succ]
              refine wpAnyH_ready (rs := [8]) (by kernel_rfl) (by simp) ?_
              refine AllReadyH.cons (by simp only [List.getElem?_toArray, List.getElem?_cons_succ, List.getElem?_cons_zero]; rfl) (fun K' hK' => ?_) AllReadyH.nil
              have d0 : U2.cell? ⟨rb, 0, none⟩ = some (.int .i64 0) := cell_of_row _ _ 0 _ _ (0, 0) gr
              have d1 : U2.cell? ⟨rb, 1, none⟩ = some (.int .i64 0) := cell_of_row _ _ 1 _ _ (0, 0) gr
              have d2 : U2.cell? ⟨rb, 2, none⟩ = some (.int .i64 0) := cell_of_row _ _ 2 _ _ (0, 0) gr
              have d3 : U2.cell? ⟨rb, 3, none⟩ = some (.int .i64 0) := cell_of_row _ _ 3 _ _ (0, 0) gr
              have dz : ∀ i, U2.frozen? ⟨rb, i, none⟩ = false := fun i => frozen_of_row _ _ i _ _ gr
              go_simp
              refine hK'.out _ _ (hSB _ ((((bu2.setCell (p := ⟨rb, 0, none⟩) sr _).setCell (p := ⟨rb, 1, none⟩) sr _).setCell (p := ⟨rb, 2, none⟩) sr _).setCell (p := ⟨rb, 3, none⟩) sr _)) (fun _ => ?_)
              clear hK' K'
              try simp only [Act.put, List.setIfInBounds_toArray, List.set_cons_zero, List.set_cons_succ]
              refine wpAnyH_done (by kernel_rfl) ?_ _
              simp only [OnlyN]
              exact ⟨rb, by rfl, heap_set1 (j := 3) (heap_set1 (j := 2) (heap_set1 (j := 1) (heap_set1 (j := 0) gr (.int .i64 A0)) (.int .i64 B0)) (.int .i64 A1)) (.int .i64 B1), (((bu2.setCell (p := ⟨rb, 0, none⟩) sr (.int .i64 A0)).setCell (p := ⟨rb, 1, none⟩) sr (.int .i64 B0)).setCell (p := ⟨rb, 2, none⟩) sr (.int .i64 A1)).setCell (p := ⟨rb, 3, none⟩) sr (.int .i64 B1)⟩
            · go_simp
              have bu4 := bu0.alloc sV (.cells #[.int .i64 0, .int .i64 0, .int .i64 0, .int .i64 0] 53)
              have gr := heap_alloc_new U0 (.cells #[.int .i64 0, .int .i64 0, .int .i64 0, .int .i64 0] 53)
              have sr := sV
              have sV : q + 1 ≤ (U0.alloc (.cells #[.int .i64 0, .int .i64 0, .int .i64 0, .int .i64 0] 53)).heap.size := by simp; omega
              have hS := hSB _ bu4
              refine hK'.out _ _ hS (fun _ => ?_)
              obtain ⟨rb, hrb⟩ : ∃ rb, U0.heap.size = rb := ⟨_, rfl⟩
              rw [hrb] at gr sr
              try rw [hrb]
              clear hrb
              generalize U0.alloc (.cells #[.int .i64 0, .int .i64 0, .int .i64 0, .int .i64 0] 53) = U4 at *
              clear hK' K'
              try simp only [Act.put, List.setIfInBounds_toArray, List.set_cons_zero, List.set_cons_succ]
              refine wpAnyH_ready (rs := [6]) (by kernel_rfl) (by simp) ?_
              refine AllReadyH.cons (by simp only [List.getElem?_toArray, List.getElem?_cons_succ, List.getElem?_cons_zero]; rfl) (fun K' hK' => ?_) AllReadyH.nil
              go_simp
              go_at_call 22
              refine (HPa.out _).mono ?_
              rintro e U5 ⟨rfl, hbu5⟩
              have bu5 := bu4.trans (hbu5.mono sV)
              have sV := Nat.le_trans sV hbu5.size
              try have gr := (hbu5.block rb (Array.getElem?_eq_some_iff.1 gr).1).trans gr
              have hS := hSB _ bu5
              dsimp only
              refine hK'.out _ _ hS (fun _ => ?_)
              clear hbu5
              clear hK' K'
              try simp only [Act.put, List.setIfInBounds_toArray, List.set_cons_zero, List.set_cons_succ]
              refine wpAnyH_ready (rs := [8]) (by kernel_rfl) (by simp) ?_
              refine AllReadyH.cons (by simp only [List.getElem?_toArray, List.getElem?_cons_succ, List.getElem?_cons_zero]; rfl) (fun K' hK' => ?_) AllReadyH.nil
              have d0 : U5.cell? ⟨rb, 0, none⟩ = some (.int .i64 0) := cell_of_row _ _ 0 _ _ (0, 0) gr
              have d1 : U5.cell? ⟨rb, 1, none⟩ = some (.int .i64 0) := cell_of_row _ _ 1 _ _ (0, 0) gr
              have d2 : U5.cell? ⟨rb, 2, none⟩ = some (.int .i64 0) := cell_of_row _ _ 2 _ _ (0, 0) gr
              have d3 : U5.cell? ⟨rb, 3, none⟩ = some (.int .i64 0) := cell_of_row _ _ 3 _ _ (0, 0) gr
              have dz : ∀ i, U5.frozen? ⟨rb, i, none⟩ = false := fun i => frozen_of_row _ _ i _ _ gr
              go_simp
              refine hK'.out _ _ (hSB _ ((((bu5.setCell (p := ⟨rb, 0, none⟩) sr _).setCell (p := ⟨rb, 1, none⟩) sr _).setCell (p := ⟨rb, 2, none⟩) sr _).setCell (p := ⟨rb, 3, none⟩) sr _)) (fun _ => ?_)
              clear hK' K'
              try simp only [Act.put, List.setIfInBounds_toArray, List.set_cons_zero, List.set_cons_succ]
              refine wpAnyH_done (by kernel_rfl) ?_ _
              simp only [OnlyN]
              exact ⟨rb, by rfl, heap_set1 (j := 3) (heap_set1 (j := 2) (heap_set1 (j := 1) (heap_set1 (j := 0) gr (.int .i64 A0)) (.int .i64 B0)) (.int .i64 A1)) (.int .i64 B1), (((bu5.setCell (p := ⟨rb, 0, none⟩) sr (.int .i64 A0)).setCell (p := ⟨rb, 1, none⟩) sr (.int .i64 B0)).setCell (p := ⟨rb, 2, none⟩) sr (.int .i64 A1)).setCell (p := ⟨rb, 3, none⟩) sr (.int .i64 B1)⟩
          · go_simp
            have bu7 := bV.alloc sV (.cells #[.int .i64 0, .int .i64 0, .int .i64 0, .int .i64 0] 53)
            have gr := heap_alloc_new V0 (.cells #[.int .i64 0, .int .i64 0, .int .i64 0, .int .i64 0] 53)
            have sr := sV
            have sV : q + 1 ≤ (V0.alloc (.cells #[.int .i64 0, .int .i64 0, .int .i64 0, .int .i64 0] 53)).heap.size := by simp; omega
            have hS := hSB _ bu7
            refine hK'.out _ _ hS (fun _ => ?_)
            obtain ⟨rb, hrb⟩ : ∃ rb, V0.heap.size = rb := ⟨_, rfl⟩
            rw [hrb] at gr sr
            try rw [hrb]
            clear hrb
            generalize V0.alloc (.cells #[.int .i64 0, .int .i64 0, .int .i64 0, .int .i64 0] 53) = U7 at *
            clear hK' K'
            try simp only [Act.put, List.setIfInBounds_toArray, List.set_cons_zero, List.set_cons_succ]
            refine wpAnyH_ready (rs := [1]) (by kernel_rfl) (by simp) ?_
            refine AllReadyH.cons (by simp only [List.getElem?_toArray, List.getElem?_cons_succ, List.getElem?_cons_zero]; rfl) (fun K' hK' => ?_) AllReadyH.nil
            go_simp
            go_at_call 39
            refine (HW.out _).mono ?_
            rintro e U8 ⟨rfl, hbu8⟩
            have bu8 := bu7.trans (hbu8.mono sV)
            have sV := Nat.le_trans sV hbu8.size
            try have gr := (hbu8.block rb (Array.getElem?_eq_some_iff.1 gr).1).trans gr
            have hS := hSB _ bu8
            dsimp only
            refine hK'.out _ _ hS (fun _ => ?_)
            clear hbu8
            clear hK' K'
            try simp only [Act.put, List.setIfInBounds_toArray, List.set_cons_zero, List.set_cons_succ]
            refine wpAnyH_ready (rs := [6]) (by kernel_rfl) (by simp) ?_
            refine AllReadyH.cons (by simp only [List.getElem?_toArray, List.getElem?_cons_succ, List.getElem?_cons_zero]; rfl) (fun K' hK' => ?_) AllReadyH.nil
            go_simp
            go_at_call 22
            refine (HPa.out _).mono ?_
            rintro e U9 ⟨rfl, hbu9⟩
            have bu9 := bu8.trans (hbu9.mono sV)
            have sV := Nat.le_trans sV hbu9.size
            try have gr := (hbu9.block rb (Array.getElem?_eq_some_iff.1 gr).1).trans gr
            have hS := hSB _ bu9
            dsimp only
            refine hK'.out _ _ hS (fun _ => ?_)
            clear hbu9
            clear hK' K'
            try simp only [Act.put, List.setIfInBounds_toArray, List.set_cons_zero, List.set_cons_succ]
            refine wpAnyH_ready (rs := [8]) (by kernel_rfl) (by simp) ?_
            refine AllReadyH.cons (by simp only [List.getElem?_toArray, List.getElem?_cons_succ, List.getElem?_cons_zero]; rfl) (fun K' hK' => ?_) AllReadyH.nil
            have d0 : U9.cell? ⟨rb, 0, none⟩ = some (.int .i64 0) := cell_of_row _ _ 0 _ _ (0, 0) gr
            have d1 : U9.cell? ⟨rb, 1, none⟩ = some (.int .i64 0) := cell_of_row _ _ 1 _ _ (0, 0) gr
            have d2 : U9.cell? ⟨rb, 2, none⟩ = some (.int .i64 0) := cell_of_row _ _ 2 _ _ (0, 0) gr
            have d3 : U9.cell? ⟨rb, 3, none⟩ = some (.int .i64 0) := cell_of_row _ _ 3 _ _ (0, 0) gr
            have dz : ∀ i, U9.frozen? ⟨rb, i, none⟩ = false := fun i => frozen_of_row _ _ i _ _ gr
            go_simp
            refine hK'.out _ _ (hSB _ ((((bu9.setCell (p := ⟨rb, 0, none⟩) sr _).setCell (p := ⟨rb, 1, none⟩) sr _).setCell (p := ⟨rb, 2, none⟩) sr _).setCell (p := ⟨rb, 3, none⟩) sr _)) (fun _ => ?_)
            clear hK' K'
            try simp only [Act.put, List.setIfInBounds_toArray, List.set_cons_zero, List.set_cons_succ]
            refine wpAnyH_done (by kernel_rfl) ?_ _
            simp only [OnlyN]
            exact ⟨rb, by rfl, heap_set1 (j := 3) (heap_set1 (j := 2) (heap_set1 (j := 1) (heap_set1 (j := 0) gr (.int .i64 A0)) (.int .i64 B0)) (.int .i64 A1)) (.int .i64 B1), (((bu9.setCell (p := ⟨rb, 0, none⟩) sr (.int .i64 A0)).setCell (p := ⟨rb, 1, none⟩) sr (.int .i64 B0)).setCell (p := ⟨rb, 2, none⟩) sr (.int .i64 A1)).setCell (p := ⟨rb, 3, none⟩) sr (.int .i64 B1)⟩
        · rintro a' W4 ⟨rb, rfl, gr, b4⟩
          simp only [Act.put, List.setIfInBounds_toArray, List.set_cons_zero, List.set_cons_succ]
          have bc4 := (b4.block q (by omega)).trans bc
          have gm4 := (b4.block w.heap.size (by omega)).trans gm1
          have hb4 := hb1.trans (b4.mono (by omega))
          have hI4 := hI1.below (b4.mono (show w.heap.size ≤ q + 1 by omega))
          have b := fun i => cell_of_row _ _ i _ _ (0, 0) bc4
          have r := fun i => cell_of_row _ _ i _ _ (0, 0) gr
          have r0 : W4.cell? ⟨rb, 0, none⟩ = some (.int .i64 A0) := r 0
          have r1 : W4.cell? ⟨rb, 1, none⟩ = some (.int .i64 B0) := r 1
          have r2 : W4.cell? ⟨rb, 2, none⟩ = some (.int .i64 A1) := r 2
          have r3 : W4.cell? ⟨rb, 3, none⟩ = some (.int .i64 B1) := r 3
          have c0 : W4.cell? ⟨q, 0, none⟩ = some (.int .i64 dpn) := b 0
          have c1 : W4.cell? ⟨q, 1, none⟩ = some (.bool sg) := b 1
          have c2 : W4.cell? ⟨q, 2, none⟩ = some (.int .i64 dxn) := b 2
          have c3 : W4.cell? ⟨q, 3, none⟩ = some (.int .i64 dyn) := b 3
          have c4 : W4.cell? ⟨q, 4, none⟩ = some (.slice DA N dc) := b 4
          clear b r hI1 hb1 gm1 bc gr b4
          have hda : (if (A1 : Int) - A0 < 0 then (0 : Int) else (A1 : Int) - A0) = ((A1 - A0 : Nat) : Int) := by split <;> omega
          have hdb : (if (B1 : Int) - B0 < 0 then (0 : Int) else (B1 : Int) - B0) = ((B1 - B0 : Nat) : Int) := by split <;> omega
          have la : A1 - A0 ≤ 64 := by omega
          have lb : B1 - B0 ≤ 64 := by omega
          have ba : -64 ≤ (A1 : Int) - A0 ∧ (A1 : Int) - A0 ≤ 64 := by omega
          have bb' : -64 ≤ (B1 : Int) - B0 ∧ (B1 : Int) - B0 ≤ 64 := by omega
          have lab : (A1 - A0) * (B1 - B0) ≤ 64 * 64 := Nat.mul_le_mul la lb
          have pab : (((A1 - A0 : Nat) : Int)) * ((B1 - B0 : Nat) : Int) = (((A1 - A0) * (B1 - B0) : Nat) : Int) := by simp
          have BADX := BAD.out
          have GOODX := GOOD.out
          clear BAD GOOD
          obtain ⟨za, hza⟩ : ∃ z, (A1 : Int) - A0 = z := ⟨_, rfl⟩
          obtain ⟨zb, hzb⟩ : ∃ z, (B1 : Int) - B0 = z := ⟨_, rfl⟩
          rw [hza] at hda ba
          rw [hzb] at hdb bb'
          generalize (A1 - A0) * (B1 - B0) = ar at *
          generalize A1 - A0 = Da at *
          generalize B1 - B0 = Db at *
          by_cases hq : N = ar
          · subst hq
            obtain ⟨lo, hlo⟩ : ∃ lo, loB dpn sg = lo := ⟨_, rfl⟩
            obtain ⟨hi, hhi⟩ : ∃ hi, hiB dpn sg = hi := ⟨_, rfl⟩
            have HBX := HBo.out
            have hbadx := fun h : sampOk (loB dpn sg) (hiB dpn sg) N gk = false => BADX 11 (by rw [if_pos rfl, if_neg (by rw [h]; decide)]) (by decide)
            have hgoodx := fun h : sampOk (loB dpn sg) (hiB dpn sg) N gk = true => GOODX (by rw [if_pos rfl, if_pos h])
            clear HBo BADX GOODX
            rw [hlo, hhi] at HBX hbadx hgoodx
            have HBo := Lib.hid HBX
            have HBAD := Lib.hid hbadx
            have HGOOD := Lib.hid hgoodx
            clear hbadx hgoodx HBX hlo hhi
            go_wp2_with (go_at_call 40; refine (HBo.out _).mono ?_; rintro e w5 ⟨rfl, hb5⟩; dsimp only; have c4 := (hb5.cell (p := ⟨q, 4, none⟩) (Nat.lt_of_lt_of_le (World.block_lt_of_cell? _ _ c4) (Nat.le_refl _))).trans c4)
            have hb6 := below_trans hb4 hb5
            have gm6 := (hb5.block w.heap.size (Nat.lt_of_lt_of_le (Array.getElem?_eq_some_iff.1 gm4).1 (Nat.le_refl _))).trans gm4
            have hI6 := (hI4.more hb4.size).below hb5
            have hs6 : w.heap.size + 1 < w5.heap.size := by
              have h1 := hb5.size
              have h2 := World.block_lt_of_cell? _ _ c0
              simp only at h2
              omega
            clear hb5 hb4 gm4 hI4 c0 c1 c2 c3 r0 r1 r2 r3 hda hdb ba bb' lab pab hza hzb HW HPa
            go_loopw [58] (fun i wr => ∃ j : Nat, j ≤ N ∧ i = .int .i64 j ∧ sampOk lo hi j gk = true ∧ wr = w5) (fun i _ => N - (intOf i).toNat)
            case atStart => exact ⟨0, Nat.zero_le _, rfl, rfl, rfl⟩
            case round =>
              obtain ⟨j, hj, rfl, hok, rfl⟩ := hrel
              by_cases hjl : j < N
              · obtain ⟨db, doff, rfl, _, hcv⟩ := hI6.at_ hjl
                have i1 := in_any (gk j) lo hi
                have hnext := sampOk_succ lo hi j gk
                have hstop := @sampOk_bad lo hi N j gk hjl
                obtain ⟨vb, hvb⟩ : ∃ v, inB (gk j) lo hi = v := ⟨_, rfl⟩
                rw [hvb] at i1 hnext hstop
                have I1 := Lib.hid i1
                generalize gk j = gj at *
                rcases vb with _ | _
                · have HS := Lib.hid (HBAD.out (hstop rfl))
                  clear hnext hstop i1 hok hvb HBAD HGOOD
                  go_wp2_with (go_at_call 35; refine (I1.out _).mono ?_; rintro e w' ⟨rfl, rfl⟩; dsimp only)
                  go_ret
                  exact ⟨by rw [HS.out]; rfl, hb6⟩
                · have HS := Lib.hid (show sampOk lo hi (j + 1) gk = true by rw [hnext, hok]; rfl)
                  clear hnext hstop i1 hok hvb
                  go_wp2_with (go_at_call 35; refine (I1.out _).mono ?_; rintro e w' ⟨rfl, rfl⟩; dsimp only)
                  go_roundw
                  case rel => exact ⟨j + 1, by omega, by go_num, HS.out, by trivial⟩
                  case measure => simp [intOf]; omega
              · obtain rfl : j = N := by omega
                have HS := Lib.hid (HGOOD.out hok)
                clear hok HBAD HGOOD
                go_wp2_with fail
                go_roundw
                case rel => exact ⟨k + 1, by omega, by go_num, HS.out, gm6, hb6, hs6⟩
                case measure => simp [intOf]; omega
          · have HB := Lib.hid (BADX 7 (by rw [if_neg hq]) (by decide))
            clear BADX GOODX
            have d5 : ((N : Int) != (ar : Int)) = true := by simp; omega
            have d6 : ((N : Int) == (ar : Int)) = false := by simp; omega
            have d7 : decide ((N : Int) = (ar : Int)) = false := by simp; omega
            go_wp2_with fail
            go_ret
            exact ⟨by rw [HB.out]; rfl, hb4⟩
      · obtain rfl : k = n := by omega
        have HS := Lib.hid (show E = 0 from by rw [← HE.out]; exact HFST.out)
        clear HE HFST
        go_wp2_with fail
        go_ret
        exact ⟨by rw [HS.out]; rfl, hbel⟩
  · have hE := HE.out
    rw [if_neg hf] at hE
    have HE := Lib.hid hE
    clear hE
    have d1 : (fe != 0) = true := by simp [hf]
    have d2 : decide (fe = 0) = false := by simp [hf]
    go_wp2_with fail
    go_ret
    exact ⟨by rw [← HE.out]; rfl, hB3⟩
end Go.Proofs.Ytmieoifagnpbiaa
