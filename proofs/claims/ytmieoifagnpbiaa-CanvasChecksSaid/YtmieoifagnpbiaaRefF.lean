/- CONTRACT of waveletref12.Frame: it answers what canvas.Frame answers. -/
import Derived.Test.YtmieoifagnpbiaaNumC
import Derived.Deep.CutBlock
namespace Go.Proofs.Ytmieoifagnpbiaa
open Go.RowKit
set_option maxHeartbeats 16000000
set_option linter.unusedVariables false
set_option linter.unusedSimpArgs false
set_option maxRecDepth 100000
theorem frmR_0 (X Y Ox Oy : Int) (A : Option Addr) (n c : Nat) (tx ty lv cw ch pr st od ly : Int) (rct sop eph : Bool) (w : World)  (h0 : Ox < 0) : Calls Try.prog 17 #[imgV X Y Ox Oy A n c, parV tx ty lv cw ch pr st od ly rct sop eph] w fun e w' => e = .returned (.int .i64 1) ∧ Below w.heap.size w w' := by
  have hb := below_alloc (below_alloc (Below.refl w.heap.size w) (.cells #[.int .i64 X, .int .i64 Y, .int .i64 Ox, .int .i64 Oy, .slice A n c] 25)) (.cells #[.int .i64 tx, .int .i64 ty, .int .i64 lv, .int .i64 cw, .int .i64 ch, .int .i64 pr, .int .i64 st, .int .i64 od, .int .i64 ly, .bool rct, .bool sop, .bool eph] 27)
  unfold imgV parV
  go_enter Try.func17, Try.ntmps17
  go_wp2_with fail
  go_ret
  exact ⟨rfl, hb⟩
theorem frmR_1 (X Y Ox Oy : Int) (A : Option Addr) (n c : Nat) (tx ty lv cw ch pr st od ly : Int) (rct sop eph : Bool) (w : World) (h0 : ¬ Ox < 0) (h1 : Oy < 0) : Calls Try.prog 17 #[imgV X Y Ox Oy A n c, parV tx ty lv cw ch pr st od ly rct sop eph] w fun e w' => e = .returned (.int .i64 1) ∧ Below w.heap.size w w' := by
  have hb := below_alloc (below_alloc (Below.refl w.heap.size w) (.cells #[.int .i64 X, .int .i64 Y, .int .i64 Ox, .int .i64 Oy, .slice A n c] 25)) (.cells #[.int .i64 tx, .int .i64 ty, .int .i64 lv, .int .i64 cw, .int .i64 ch, .int .i64 pr, .int .i64 st, .int .i64 od, .int .i64 ly, .bool rct, .bool sop, .bool eph] 27)
  unfold imgV parV
  go_enter Try.func17, Try.ntmps17
  go_wp2_with fail
  go_ret
  exact ⟨rfl, hb⟩
theorem frmR_2 (X Y Ox Oy : Int) (A : Option Addr) (n c : Nat) (tx ty lv cw ch pr st od ly : Int) (rct sop eph : Bool) (w : World) (h0 : ¬ Ox < 0) (h1 : ¬ Oy < 0) (h2 : X ≤ Ox) : Calls Try.prog 17 #[imgV X Y Ox Oy A n c, parV tx ty lv cw ch pr st od ly rct sop eph] w fun e w' => e = .returned (.int .i64 1) ∧ Below w.heap.size w w' := by
  have hb := below_alloc (below_alloc (Below.refl w.heap.size w) (.cells #[.int .i64 X, .int .i64 Y, .int .i64 Ox, .int .i64 Oy, .slice A n c] 25)) (.cells #[.int .i64 tx, .int .i64 ty, .int .i64 lv, .int .i64 cw, .int .i64 ch, .int .i64 pr, .int .i64 st, .int .i64 od, .int .i64 ly, .bool rct, .bool sop, .bool eph] 27)
  unfold imgV parV
  go_enter Try.func17, Try.ntmps17
  go_wp2_with fail
  go_ret
  exact ⟨rfl, hb⟩
theorem frmR_3 (X Y Ox Oy : Int) (A : Option Addr) (n c : Nat) (tx ty lv cw ch pr st od ly : Int) (rct sop eph : Bool) (w : World) (h0 : ¬ Ox < 0) (h1 : ¬ Oy < 0) (h2 : ¬ X ≤ Ox) (h3 : Y ≤ Oy) : Calls Try.prog 17 #[imgV X Y Ox Oy A n c, parV tx ty lv cw ch pr st od ly rct sop eph] w fun e w' => e = .returned (.int .i64 1) ∧ Below w.heap.size w w' := by
  have hb := below_alloc (below_alloc (Below.refl w.heap.size w) (.cells #[.int .i64 X, .int .i64 Y, .int .i64 Ox, .int .i64 Oy, .slice A n c] 25)) (.cells #[.int .i64 tx, .int .i64 ty, .int .i64 lv, .int .i64 cw, .int .i64 ch, .int .i64 pr, .int .i64 st, .int .i64 od, .int .i64 ly, .bool rct, .bool sop, .bool eph] 27)
  unfold imgV parV
  go_enter Try.func17, Try.ntmps17
  go_wp2_with fail
  go_ret
  exact ⟨rfl, hb⟩
theorem frmR_4 (X Y Ox Oy : Int) (A : Option Addr) (n c : Nat) (tx ty lv cw ch pr st od ly : Int) (rct sop eph : Bool) (w : World) (h0 : ¬ Ox < 0) (h1 : ¬ Oy < 0) (h2 : ¬ X ≤ Ox) (h3 : ¬ Y ≤ Oy) (h4 : 64 < X) : Calls Try.prog 17 #[imgV X Y Ox Oy A n c, parV tx ty lv cw ch pr st od ly rct sop eph] w fun e w' => e = .returned (.int .i64 14) ∧ Below w.heap.size w w' := by
  have hb := below_alloc (below_alloc (Below.refl w.heap.size w) (.cells #[.int .i64 X, .int .i64 Y, .int .i64 Ox, .int .i64 Oy, .slice A n c] 25)) (.cells #[.int .i64 tx, .int .i64 ty, .int .i64 lv, .int .i64 cw, .int .i64 ch, .int .i64 pr, .int .i64 st, .int .i64 od, .int .i64 ly, .bool rct, .bool sop, .bool eph] 27)
  unfold imgV parV
  go_enter Try.func17, Try.ntmps17
  go_wp2_with fail
  go_ret
  exact ⟨rfl, hb⟩
theorem frmR_5 (X Y Ox Oy : Int) (A : Option Addr) (n c : Nat) (tx ty lv cw ch pr st od ly : Int) (rct sop eph : Bool) (w : World) (h0 : ¬ Ox < 0) (h1 : ¬ Oy < 0) (h2 : ¬ X ≤ Ox) (h3 : ¬ Y ≤ Oy) (h4 : ¬ 64 < X) (h5 : 64 < Y) : Calls Try.prog 17 #[imgV X Y Ox Oy A n c, parV tx ty lv cw ch pr st od ly rct sop eph] w fun e w' => e = .returned (.int .i64 14) ∧ Below w.heap.size w w' := by
  have hb := below_alloc (below_alloc (Below.refl w.heap.size w) (.cells #[.int .i64 X, .int .i64 Y, .int .i64 Ox, .int .i64 Oy, .slice A n c] 25)) (.cells #[.int .i64 tx, .int .i64 ty, .int .i64 lv, .int .i64 cw, .int .i64 ch, .int .i64 pr, .int .i64 st, .int .i64 od, .int .i64 ly, .bool rct, .bool sop, .bool eph] 27)
  unfold imgV parV
  go_enter Try.func17, Try.ntmps17
  go_wp2_with fail
  go_ret
  exact ⟨rfl, hb⟩
theorem frmR_6 (X Y Ox Oy : Int) (A : Option Addr) (n c : Nat) (tx ty lv cw ch pr st od ly : Int) (rct sop eph : Bool) (w : World) (h0 : ¬ Ox < 0) (h1 : ¬ Oy < 0) (h2 : ¬ X ≤ Ox) (h3 : ¬ Y ≤ Oy) (h4 : ¬ 64 < X) (h5 : ¬ 64 < Y) (h6 : n < 1) : Calls Try.prog 17 #[imgV X Y Ox Oy A n c, parV tx ty lv cw ch pr st od ly rct sop eph] w fun e w' => e = .returned (.int .i64 4) ∧ Below w.heap.size w w' := by
  have hb := below_alloc (below_alloc (Below.refl w.heap.size w) (.cells #[.int .i64 X, .int .i64 Y, .int .i64 Ox, .int .i64 Oy, .slice A n c] 25)) (.cells #[.int .i64 tx, .int .i64 ty, .int .i64 lv, .int .i64 cw, .int .i64 ch, .int .i64 pr, .int .i64 st, .int .i64 od, .int .i64 ly, .bool rct, .bool sop, .bool eph] 27)
  unfold imgV parV
  go_enter Try.func17, Try.ntmps17
  go_wp2_with fail
  go_ret
  exact ⟨rfl, hb⟩
theorem frmR_7 (X Y Ox Oy : Int) (A : Option Addr) (n c : Nat) (tx ty lv cw ch pr st od ly : Int) (rct sop eph : Bool) (w : World) (h0 : ¬ Ox < 0) (h1 : ¬ Oy < 0) (h2 : ¬ X ≤ Ox) (h3 : ¬ Y ≤ Oy) (h4 : ¬ 64 < X) (h5 : ¬ 64 < Y) (h6 : ¬ n < 1) (h7 : 4 < n) : Calls Try.prog 17 #[imgV X Y Ox Oy A n c, parV tx ty lv cw ch pr st od ly rct sop eph] w fun e w' => e = .returned (.int .i64 4) ∧ Below w.heap.size w w' := by
  have hb := below_alloc (below_alloc (Below.refl w.heap.size w) (.cells #[.int .i64 X, .int .i64 Y, .int .i64 Ox, .int .i64 Oy, .slice A n c] 25)) (.cells #[.int .i64 tx, .int .i64 ty, .int .i64 lv, .int .i64 cw, .int .i64 ch, .int .i64 pr, .int .i64 st, .int .i64 od, .int .i64 ly, .bool rct, .bool sop, .bool eph] 27)
  unfold imgV parV
  go_enter Try.func17, Try.ntmps17
  go_wp2_with fail
  go_ret
  exact ⟨rfl, hb⟩
theorem frmR_good (X Y Ox Oy : Int) (A : Option Addr) (n c : Nat) (tx ty lv cw ch pr st od ly : Int) (rct sop eph : Bool) (w : World) (F : Nat → CompD) (h0 : ¬ Ox < 0) (h1 : ¬ Oy < 0) (h2 : ¬ X ≤ Ox) (h3 : ¬ Y ≤ Oy) (h4 : ¬ 64 < X) (h5 : ¬ 64 < Y) (h6 : ¬ n < 1) (h7 : ¬ 4 < n) (ha : CompsAt w w.heap.size A n F) : Calls Try.prog 17 #[imgV X Y Ox Oy A n c, parV tx ty lv cw ch pr st od ly rct sop eph] w fun e w' => e = .returned (.int .i64 (if allOk n F then numE X Y Ox Oy n F tx ty lv cw ch pr st od ly rct else 1)) ∧ Below w.heap.size w w' := by
  have HN := Lib.hid (fun (v : World) (h : CompsAt v v.heap.size A n F) => num_any X Y Ox Oy A n c tx ty lv cw ch pr st od ly rct sop eph v F (by omega) (by omega) (by omega) (by omega) h)
  have hb := below_alloc (below_alloc (Below.refl w.heap.size w) (.cells #[.int .i64 X, .int .i64 Y, .int .i64 Ox, .int .i64 Oy, .slice A n c] 25)) (.cells #[.int .i64 tx, .int .i64 ty, .int .i64 lv, .int .i64 cw, .int .i64 ch, .int .i64 pr, .int .i64 st, .int .i64 od, .int .i64 ly, .bool rct, .bool sop, .bool eph] 27)
  obtain ⟨NE, hNE⟩ : ∃ z, numE X Y Ox Oy n F tx ty lv cw ch pr st od ly rct = z := ⟨_, rfl⟩
  rw [hNE] at HN ⊢
  obtain ⟨E, hE⟩ : ∃ E, (if allOk n F = true then NE else 1) = E := ⟨_, rfl⟩
  rw [hE]
  have HE := Lib.hid hE
  clear hE hNE
  unfold imgV parV at *
  go_enter Try.func17, Try.ntmps17
  go_wp2_with fail
  obtain ⟨q, hq⟩ : ∃ q, w.heap.size = q := ⟨_, rfl⟩
  generalize hV : World.alloc (World.alloc w _) _ = V
  have img : V.heap[q]? = some (.cells #[.int .i64 X, .int .i64 Y, .int .i64 Ox, .int .i64 Oy, .slice A n c] 25 (0, 0)) := by rw [← hV, ← hq]; exact (Below.heap_alloc _ _ _ (by simp)).trans (heap_alloc_new w _)
  have par : V.heap[q + 1]? = some (.cells #[.int .i64 tx, .int .i64 ty, .int .i64 lv, .int .i64 cw, .int .i64 ch, .int .i64 pr, .int .i64 st, .int .i64 od, .int .i64 ly, .bool rct, .bool sop, .bool eph] 27 (0, 0)) := by rw [← hV, ← hq]; exact heap_alloc_new2 w _ _
  have bV : Below q w V := by rw [← hV, ← hq]; exact hb
  have hs : V.heap.size = q + 2 := by rw [← hV, ← hq]; simp
  have haV := (ha.below (by rw [hq]; exact bV)).more (show w.heap.size ≤ V.heap.size by omega)
  have HAV := Lib.hid haV
  rw [hq]
  clear hV hb ha haV
  go_loopw [5] (fun i wr => ∃ k : Nat, k ≤ n ∧ i = .int .i64 (k : Int) ∧ allOk k F = true ∧ Below (q + 2) V wr) (fun i _ => n - (intOf i).toNat)
  case atStart => exact ⟨0, Nat.zero_le _, rfl, rfl, Below.refl _ _⟩
  case round =>
    obtain ⟨k, hk, rfl, hok, hbel⟩ := hrel
    obtain ⟨wa, hwa⟩ : ∃ wa, wa = wr := ⟨_, rfl⟩
    subst hwa
    have img1 := (hbel.block q (by omega)).trans img
    have par1 := (hbel.block (q + 1) (by omega)).trans par
    have i_4 : wa.cell? ⟨q, 4, none⟩ = some (.slice A n c) := cell_of_row _ _ 4 _ _ (0, 0) img1
    have hbw := bV.trans (hbel.mono (by omega))
    have hsz : q + 2 ≤ wa.heap.size := by have := hbel.size; omega
    by_cases hlt : k < n
    · obtain ⟨bb, off, hAe, hlb, y1, y2, y3, y4, y5⟩ := ((HAV.out.below (by rw [hs]; exact hbel))).at_ hlt
      subst hAe
      obtain ⟨dp, hdp⟩ : ∃ v, (F k).dp = v := ⟨_, rfl⟩
      obtain ⟨sg, hsg⟩ : ∃ v, (F k).sg = v := ⟨_, rfl⟩
      obtain ⟨dx, hdx⟩ : ∃ v, (F k).dx = v := ⟨_, rfl⟩
      obtain ⟨dy, hdy⟩ : ∃ v, (F k).dy = v := ⟨_, rfl⟩
      obtain ⟨dA, hdA⟩ : ∃ v, (F k).A = v := ⟨_, rfl⟩
      obtain ⟨dn, hdn⟩ : ∃ v, (F k).n = v := ⟨_, rfl⟩
      obtain ⟨dc, hdc⟩ : ∃ v, (F k).c = v := ⟨_, rfl⟩
      rw [hdp] at y1
      rw [hsg] at y2
      rw [hdx] at y3
      rw [hdy] at y4
      rw [hdA, hdn, hdc] at y5
      have hbad : (dp < 1 ∨ 16 < dp ∨ dx < 1 ∨ 4 < dx ∨ dy < 1 ∨ 4 < dy) → E = 1 := fun h => by
        have hb' : compOk (F k) = false := by
          rcases hco : compOk (F k) with _ | _
          · rfl
          · unfold compOk inB at hco
            rw [hdp, hdx, hdy] at hco
            simp only [Bool.and_eq_true, decide_eq_true_eq] at hco
            omega
        rw [← HE.out, allOk_bad hlt hb']
        rfl
      have hgood : ¬ (dp < 1 ∨ 16 < dp ∨ dx < 1 ∨ 4 < dx ∨ dy < 1 ∨ 4 < dy) → allOk (k + 1) F = true := fun h => by
        have : compOk (F k) = true := by
          unfold compOk inB
          rw [hdp, hdx, hdy]
          simp only [Bool.and_eq_true, decide_eq_true_eq]
          omega
        rw [allOk_succ, hok, this]; rfl
      have HBAD := Lib.hid hbad
      have HGOOD := Lib.hid hgood
      have bz := below_alloc (Below.refl wa.heap.size wa) (.cells #[.int .i64 dp, .bool sg, .int .i64 dx, .int .i64 dy, .slice dA dn dc] 34)
      have bz1 := hbel.trans (bz.mono hsz)
      have bzw := hbw.trans (bz.mono (by omega))
      clear hbad hgood hdp hsg hdx hdy hdA hdn hdc hok bz img1 par1
      by_cases c0 : dp < 1
      · obtain rfl := HBAD.out (.inl c0)
        go_wp2_with fail
        go_ret
        exact ⟨rfl, by first | exact bzw | (rw [hq]; exact bzw)⟩
      by_cases c1 : 16 < dp
      · obtain rfl := HBAD.out (.inr (.inl c1))
        go_wp2_with fail
        go_ret
        exact ⟨rfl, by first | exact bzw | (rw [hq]; exact bzw)⟩
      by_cases c2 : dx < 1
      · obtain rfl := HBAD.out (.inr (.inr (.inl c2)))
        go_wp2_with fail
        go_ret
        exact ⟨rfl, by first | exact bzw | (rw [hq]; exact bzw)⟩
      by_cases c3 : 4 < dx
      · obtain rfl := HBAD.out (.inr (.inr (.inr (.inl c3))))
        go_wp2_with fail
        go_ret
        exact ⟨rfl, by first | exact bzw | (rw [hq]; exact bzw)⟩
      by_cases c4 : dy < 1
      · obtain rfl := HBAD.out (.inr (.inr (.inr (.inr (.inl c4)))))
        go_wp2_with fail
        go_ret
        exact ⟨rfl, by first | exact bzw | (rw [hq]; exact bzw)⟩
      by_cases c5 : 4 < dy
      · obtain rfl := HBAD.out (.inr (.inr (.inr (.inr (.inr c5)))))
        go_wp2_with fail
        go_ret
        exact ⟨rfl, by first | exact bzw | (rw [hq]; exact bzw)⟩
      have HG := Lib.hid (HGOOD.out (by omega))
      go_wp2_with fail
      go_roundw
      case rel => exact ⟨k + 1, by omega, by go_num, HG.out, bz1⟩
      case measure => simp [intOf]; omega
    · obtain rfl : k = n := by omega
      have hEn : E = NE := by rw [← HE.out, hok]; rfl
      subst hEn
      have hca := (HAV.out.below (by rw [hs]; exact hbel)).more (show V.heap.size ≤ wa.heap.size by omega)
      have HCA := Lib.hid hca
      clear hca hok HE HAV
      go_upto_region 13 with fail
      refine wp_region_lit ?_
      refine wpList_loadRow rfl rfl (by kernel_rfl) img1 (by kernel_rfl) (by kernel_rfl) ?_
      refine wpList_loadRow rfl rfl (by kernel_rfl) par1 (by kernel_rfl) (by kernel_rfl) ?_
      go_wp2_with fail
      refine (HN.out _ HCA.out).mono ?_
      rintro e' wz ⟨rfl, hz⟩
      have bz := hbw.trans (hz.mono (by omega))
      clear hz hbw
      go_wp2_with fail
      go_ret
      exact ⟨rfl, by first | exact bz | (rw [hq]; exact bz)⟩
theorem frameR_any (X Y Ox Oy : Int) (A : Option Addr) (n c : Nat) (tx ty lv cw ch pr st od ly : Int) (rct sop eph : Bool) (w : World) (F : Nat → CompD) (ha : CompsAt w w.heap.size A n F) : Calls Try.prog 17 #[imgV X Y Ox Oy A n c, parV tx ty lv cw ch pr st od ly rct sop eph] w fun e w' => e = .returned (.int .i64 (frameE X Y Ox Oy n F tx ty lv cw ch pr st od ly rct)) ∧ Below w.heap.size w w' := by
  by_cases h0 : Ox < 0
  · have hp : pictureE X Y Ox Oy n F = 1 := by unfold pictureE; rw [if_pos (.inl h0)]
    rw [frame_num, hp, if_neg (by decide)]
    exact frmR_0 X Y Ox Oy A n c tx ty lv cw ch pr st od ly rct sop eph w h0
  by_cases h1 : Oy < 0
  · have hp : pictureE X Y Ox Oy n F = 1 := by unfold pictureE; rw [if_pos (.inr (.inl h1))]
    rw [frame_num, hp, if_neg (by decide)]
    exact frmR_1 X Y Ox Oy A n c tx ty lv cw ch pr st od ly rct sop eph w h0 h1
  by_cases h2 : X ≤ Ox
  · have hp : pictureE X Y Ox Oy n F = 1 := by unfold pictureE; rw [if_pos (.inr (.inr (.inl h2)))]
    rw [frame_num, hp, if_neg (by decide)]
    exact frmR_2 X Y Ox Oy A n c tx ty lv cw ch pr st od ly rct sop eph w h0 h1 h2
  by_cases h3 : Y ≤ Oy
  · have hp : pictureE X Y Ox Oy n F = 1 := by unfold pictureE; rw [if_pos (.inr (.inr (.inr h3)))]
    rw [frame_num, hp, if_neg (by decide)]
    exact frmR_3 X Y Ox Oy A n c tx ty lv cw ch pr st od ly rct sop eph w h0 h1 h2 h3
  by_cases h4 : 64 < X
  · have hp : pictureE X Y Ox Oy n F = 14 := by unfold pictureE; rw [if_neg (by omega), if_pos (.inl h4)]
    rw [frame_num, hp, if_neg (by decide)]
    exact frmR_4 X Y Ox Oy A n c tx ty lv cw ch pr st od ly rct sop eph w h0 h1 h2 h3 h4
  by_cases h5 : 64 < Y
  · have hp : pictureE X Y Ox Oy n F = 14 := by unfold pictureE; rw [if_neg (by omega), if_pos (.inr h5)]
    rw [frame_num, hp, if_neg (by decide)]
    exact frmR_5 X Y Ox Oy A n c tx ty lv cw ch pr st od ly rct sop eph w h0 h1 h2 h3 h4 h5
  by_cases h6 : n < 1
  · have hp : pictureE X Y Ox Oy n F = 4 := by unfold pictureE; rw [if_neg (by omega), if_neg (by omega), inB_false.2 (by omega)]; rfl
    rw [frame_num, hp, if_neg (by decide)]
    exact frmR_6 X Y Ox Oy A n c tx ty lv cw ch pr st od ly rct sop eph w h0 h1 h2 h3 h4 h5 h6
  by_cases h7 : 4 < n
  · have hp : pictureE X Y Ox Oy n F = 4 := by unfold pictureE; rw [if_neg (by omega), if_neg (by omega), inB_false.2 (by omega)]; rfl
    rw [frame_num, hp, if_neg (by decide)]
    exact frmR_7 X Y Ox Oy A n c tx ty lv cw ch pr st od ly rct sop eph w h0 h1 h2 h3 h4 h5 h6 h7
  have hp : pictureE X Y Ox Oy n F = (if allOk n F then 0 else 1) := by unfold pictureE; rw [if_neg (by omega), if_neg (by omega), inB_true.2 (by omega), if_pos rfl]
  rw [frame_num, hp]
  have := frmR_good X Y Ox Oy A n c tx ty lv cw ch pr st od ly rct sop eph w F h0 h1 h2 h3 h4 h5 h6 h7 ha
  cases h : allOk n F with
  | true => rw [h] at this; exact this
  | false => rw [h] at this; exact this
end Go.Proofs.Ytmieoifagnpbiaa
