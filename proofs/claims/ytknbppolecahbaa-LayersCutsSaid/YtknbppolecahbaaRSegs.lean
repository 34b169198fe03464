/- CONTRACT of waveletref14.Segments. -/
import Derived.Test.YtknbppolecahbaaSegs
import Derived.Test.YtknbppolecahbaaRef14
import Derived.Deep.RegionHeld3
import Derived.BigQuiet
import Derived.Deep.CutBlock
namespace Go.Proofs.Ytknbppolecahbaa
open Go.RowKit
set_option maxHeartbeats 8000000
set_option linter.unusedVariables false
set_option linter.unusedSimpArgs false

theorem cell_dr {w : World} {a : Addr} {v : Value} (h : w.cell? a = some v) : w.drew.cell? a = some v := h
theorem AppStep.moved {w w' : World} {base : Nat} {v v' : Value} (h : AppStep w w' base v v') {p : Addr} {x : Value} (c : w.cell? p = some x) (ne : v.ownBlock ≠ some p.block) : w'.cell? p = some x := (h.cells p (World.block_lt_of_cell? _ _ c) ne).trans c

theorem rsegments_any (s : Int) (t b : Bool) (ht : (bits .and .i64 s 4 != 0) = t) (hb : (bits .and .i64 s 1 != 0) = b) (frm tu : Nat) (A : Option Addr) (m c : Nat) (f : Nat → Int) (w : World) (ha : IntsAt w w.heap.size A m f)
    (hft : frm ≤ tu) (htu : tu ≤ m) (hm : m ≤ 1000) (hf : ∀ k, k < m → -1099511627776 ≤ f k ∧ f k ≤ 1099511627776) :
    Calls Try.prog 14 #[.int .i64 s, .int .i64 frm, .int .i64 tu, .slice A m c] w fun e w' => ∃ (A1 A2 : Option Addr) (d1 d2 : Nat) (l : List (Nat × Nat)), l = (piecesP (fun k => endsB t b k) tu frm (tu - frm)).1 ∧
      e = .returned (.tuple #[.slice A1 l.length d1, .slice A2 l.length d2]) ∧ IntsAt w' w'.heap.size A1 l.length (passF l) ∧ IntsAt w' w'.heap.size A2 l.length (byteF f frm l) ∧ Below w.heap.size w w' := by
  have ENDS := Lib.hid (fun (k : Nat) (hk : k ≤ 1000) (w : World) => rends_any s k (by omega) t b ht hb w)
  clear ht hb
  have hv0 : (¬ (0 : Int) < frm ∧ valE f frm = 0) ∨ (0 < frm ∧ (0 : Int) < frm ∧ (frm : Int) ≤ m ∧ valE f frm = f (frm - 1)) := by
    unfold valE
    rcases Nat.eq_zero_or_pos frm with rfl | h
    · exact .inl ⟨by omega, rfl⟩
    · exact .inr ⟨h, by omega, by omega, if_neg (by omega)⟩
  have hw0 := fun l => @valE_bd f m l hf
  go_enter Try.func14, Try.ntmps14
  go_upto_if 16 with fail
  go_cut [13] from 15 (fun was wc' => was = .int .i64 (valE f frm) ∧ wc' = w)
  case first =>
    rcases hv0 with ⟨q2, q3⟩ | ⟨q1, q2, q4, q3⟩
    · have Q3 := Lib.hid q3
      clear q3
      go_wp2_with fail
      go_meet
      case rel => exact ⟨by rw [Q3.out], rfl⟩
    · have Q3 := Lib.hid q3
      clear q3
      obtain ⟨b0, o0, rfl, hb0, hc0⟩ := ha.at_ (show frm - 1 < m by omega)
      have i1 : (0 : Int) ≤ (frm : Int) - 1 := by omega
      have i2 : ((frm : Int) - 1).toNat = frm - 1 := by omega
      have i3 : (frm : Int) - 1 < m := by omega
      go_wp2_with fail
      go_meet
      case rel => exact ⟨by rw [Q3.out], rfl⟩
  case rest =>
  obtain ⟨rfl, hwc⟩ := hcut
  have hwc := hwc.symm
  subst hwc
  clear hv0
  go_wp2_with fail
  go_loopw [10, 11, 12, 13, 14] (fun p bb nn was i wr => ∃ (k : Nat) (L : List (Nat × Nat)) (g : Nat) (X Y : Option Addr) (cx cy : Nat), frm ≤ k ∧ k ≤ tu ∧ (L, g) = piecesP (fun k => endsB t b k) tu frm (k - frm) ∧ p = .slice X L.length cx ∧ bb = .slice Y L.length cy ∧ nn = .int .i64 ((k : Int) - g) ∧ was = .int .i64 (wasF f frm L) ∧ i = .int .i64 k ∧
      OwnI wr w.heap.size 3 (.slice X L.length cx) L.length (passF L) ∧ OwnI wr w.heap.size 3 (.slice Y L.length cy) L.length (byteF f frm L) ∧ Sep (.slice X L.length cx) (.slice Y L.length cy) ∧ Below w.heap.size w wr ∧ (∀ y ∈ L, y.2 ≤ m)) (fun _ _ _ _ i _ => tu - (intOf i).toNat)
  case atStart => exact ⟨frm, [], frm, none, none, 0, 0, Nat.le_refl _, hft, by rw [Nat.sub_self]; rfl, rfl, rfl, by rw [Int.sub_self], rfl, rfl, OwnI.nil_ _ _ _ _, OwnI.nil_ _ _ _ _, Sep.nil_ _, Below.refl _ _, fun y hy => by cases hy⟩
  case round =>
    obtain ⟨k, L, g, X, Y, cx, cy, hk1, hk2, hst, rfl, rfl, rfl, rfl, rfl, oX, oY, sXY, hbel, hL2⟩ := hrel
    have hg : g ≤ k := by have := piecesP_beg (fun k => endsB t b k) tu frm (k - frm); rw [← hst] at this; simp only at this; omega
    have hLn : L.length ≤ 1001 := by
      have := piecesP_len (fun k => endsB t b k) tu frm (k - frm)
      rw [← hst] at this
      simp only at this
      omega
    have HST := Lib.hid hst
    clear hst
    by_cases hlt : k < tu
    · have hnext := piecesP_next (fun k => endsB t b k) tu frm k hk1
      rw [← HST.out] at hnext
      have EK := ENDS.out k (by omega)
      obtain ⟨v, hv⟩ : ∃ v, endsB t b (k : Int) = v := ⟨_, rfl⟩
      rw [hv] at EK
      have EK := Lib.hid EK
      have s8 : IntKind.i64.wrap ((k : Int) - g + 1) = (k : Int) - g + 1 := IntWalk.i64_in _ (by omega)
      by_cases hcut : cutB (fun k => endsB t b k) tu k = true
      · have hvk : k + 1 = tu ∨ (k + 1 ≠ tu ∧ v = true) := by
          have h := hcut
          unfold cutB at h
          simp only [hv] at h
          by_cases e : k + 1 = tu
          · exact .inl (by omega)
          · exact .inr ⟨e, by simpa [e] using h⟩
        have hnx : piecesP (fun k => endsB t b k) tu frm (k + 1 - frm) = (L ++ [(g, k + 1)], k + 1) := by rw [hnext]; unfold stepP; rw [if_pos hcut]
        have HNX := Lib.hid hnx
        have hA : passF (L ++ [(g, k + 1)]) L.length = (k : Int) - g + 1 := by rw [passF_new]; simp only; omega
        have hB0 := byteF_new f frm L (g, k + 1)
        have hvE : valE f (k + 1) = f k := by unfold valE; rw [if_neg (by omega), Nat.add_sub_cancel]
        have HW := wasF_new f frm L (g, k + 1)
        simp only at hB0 HW
        rw [hvE] at hB0 HW
        have wb := wasF_bd hf (Nat.le_trans hft htu) hL2
        have vb := hf k (by omega)
        have oX := oX.congr (g := passF (L ++ [(g, k + 1)])) (fun k hk => (passF_lt _ _ hk).symm)
        have oY := oY.congr (g := byteF f frm (L ++ [(g, k + 1)])) (fun k hk => (byteF_lt _ _ _ _ hk).symm)
        have hL3 : ∀ y ∈ L ++ [(g, k + 1)], y.2 ≤ m := by
          intro y hy
          rcases List.mem_append.1 hy with h | h
          · exact hL2 y h
          · rw [List.mem_singleton.1 h]; simp only; omega
        have HL3 := Lib.hid hL3
        obtain ⟨eb, eo, rfl, hel, hec⟩ := (ha.below hbel).at_ (show k < m by omega)
        have HWW := Lib.hid HW
        have hlen1 : (L ++ [(g, k + 1)]).length = L.length + 1 := by simp
        have HLEN := Lib.hid hlen1
        generalize hwas : wasF f frm L = wv at *
        have hB : byteF f frm (L ++ [(g, k + 1)]) L.length = f k - wv := hB0
        have sB : IntKind.i64.wrap (f k - wv) = f k - wv := IntWalk.i64_in _ (by omega)
        clear hnext hcut hL2 hL3 HW hlen1 hB0 hnx hvE hwas hv hw0
        have hkm : (k : Int) < (m : Int) := by omega
        rcases hvk with hvk | ⟨hvk, rfl⟩
        all_goals
          go_wp2_with (go_at_call 16; refine (EK.out _).mono ?_; rintro e w' ⟨rfl, hq⟩; have hq2 := hq.symm; subst hq2)
          clear hvk
          try (rw [← (‹(k : Int) = (tu : Int) - 1› : (k : Int) = (tu : Int) - 1)]; clear ‹(k : Int) = (tu : Int) - 1›)
          have XN : ∀ q, (Value.slice X L.length cx).ownBlock ≠ some (wr.heap.size + q) := fun q he => Nat.not_lt.2 (Nat.le_add_right _ _) (oX.lt _ he).2
          have XN0 : (Value.slice X L.length cx).ownBlock ≠ some wr.heap.size := XN 0
          have hsz := hbel.size
          have XN := Lib.hid XN
          go_region_held3 (fun w' => w'.cell? ⟨eb, eo + k, none⟩ = some (.int .i64 (f k)))
            (first | exact cell_dr (cell_al (cell_al hec _) _) | exact cell_dr (cell_al hec _) | exact hec | go_keep | exact e2 | exact e3)
            (first
            | (refine step_app1 ((wr.alloc _).drew) (Below.refl _ _) (by rfl) _ _ 26 (by rfl) 3 int_info Try.underlying26 w.heap.size X L.length cx (passF (L ++ [(g, k + 1)])) (by rfl) (OwnI.drew (OwnI.alloc oX _)) _ (by rfl) ?_ (by omega) (by first | omega | (simp; omega)) ?_; (rw [hA]; first | exact cell_dr (cell_new'' _ _ _ _ rfl) | fail); intro g1 cap1 w2 o1 st1 lt1; have e2 : w2.cell? ⟨eb, eo + k, none⟩ = some (.int .i64 (f k)) := (st1.below.cell (p := ⟨eb, eo + k, none⟩) hel).trans (cell_dr (cell_al hec _)); have p2 := st1.keep _ _ _ _ (OwnI.drew (OwnI.alloc oY _)) sXY; have s12 := st1.sep _ _ _ _ (OwnI.drew (OwnI.alloc oY _)) sXY; have hbel2 : Below w.heap.size w w2 := Below.trans (by repeat (first | exact hbel | apply Below.drew | apply below_alloc)) st1.below; have hsz2 := hbel2.size; have d0 : w2.cell? ⟨wr.heap.size, 0, none⟩ = some _ := st1.moved (cell_dr (cell_new'' _ _ _ _ rfl)) XN0; clear st1 lt1)
            | (refine step_app1 (((wr.alloc _).alloc _).drew) (Below.refl _ _) (by rfl) _ _ 26 (by rfl) 3 int_info Try.underlying26 w.heap.size X L.length cx (passF (L ++ [(g, k + 1)])) (by rfl) (OwnI.drew (OwnI.alloc (OwnI.alloc oX _) _)) _ (by rfl) ?_ (by omega) (by first | omega | (simp; omega)) ?_; (rw [hA]; first | exact cell_dr (cell_al (cell_new'' _ _ _ _ rfl) _) | exact cell_dr (cell_new'' _ _ _ _ (World.size_alloc _ _)) | fail); intro g1 cap1 w2 o1 st1 lt1; have e2 : w2.cell? ⟨eb, eo + k, none⟩ = some (.int .i64 (f k)) := (st1.below.cell (p := ⟨eb, eo + k, none⟩) hel).trans (cell_dr (cell_al (cell_al hec _) _)); have p2 := st1.keep _ _ _ _ (OwnI.drew (OwnI.alloc (OwnI.alloc oY _) _)) sXY; have s12 := st1.sep _ _ _ _ (OwnI.drew (OwnI.alloc (OwnI.alloc oY _) _)) sXY; have hbel2 : Below w.heap.size w w2 := Below.trans (by repeat (first | exact hbel | apply Below.drew | apply below_alloc)) st1.below; have hsz2 := hbel2.size; have d0 : w2.cell? ⟨wr.heap.size, 0, none⟩ = some _ := st1.moved (cell_dr (cell_al (cell_new'' _ _ _ _ rfl) _)) XN0; have d1 : w2.cell? ⟨wr.heap.size + 1, 0, none⟩ = some _ := st1.moved (cell_dr (cell_new'' _ _ _ _ (World.size_alloc _ _))) (XN.out 1); clear st1 lt1)
            | (refine step_app1 w2 (Below.refl _ _) (by rfl) _ _ 26 (by rfl) 3 int_info Try.underlying26 w.heap.size Y L.length cy (byteF f frm (L ++ [(g, k + 1)])) (by rfl) (p2) _ (by rfl) ?_ (by omega) (by first | omega | (simp; omega)) ?_; (rw [hB]; first | exact (d0) | exact (d1) | fail); intro g2 cap2 w3 o2 st2 lt2; have e3 : w3.cell? ⟨eb, eo + k, none⟩ = some (.int .i64 (f k)) := (st2.below.cell (p := ⟨eb, eo + k, none⟩) hel).trans (e2); have q1 := st2.keep _ _ _ _ (o1) s12.symm; have s21 := st2.sep _ _ _ _ (o1) s12.symm; have hbel3 : Below w.heap.size w w3 := Below.trans (by repeat (first | exact hbel2 | apply Below.drew | apply below_alloc)) st2.below; clear st2 lt2)
            | (refine step_app1 (w2.alloc _) (Below.refl _ _) (by rfl) _ _ 26 (by rfl) 3 int_info Try.underlying26 w.heap.size Y L.length cy (byteF f frm (L ++ [(g, k + 1)])) (by rfl) (OwnI.alloc p2 _) _ (by rfl) ?_ (by omega) (by first | omega | (simp; omega)) ?_; (rw [hB]; first | exact (cell_al d0 _) | exact (cell_al d1 _) | exact cell_new'' _ _ _ _ rfl | fail); intro g2 cap2 w3 o2 st2 lt2; have e3 : w3.cell? ⟨eb, eo + k, none⟩ = some (.int .i64 (f k)) := (st2.below.cell (p := ⟨eb, eo + k, none⟩) hel).trans (cell_al e2 _); have q1 := st2.keep _ _ _ _ (OwnI.alloc o1 _) s12.symm; have s21 := st2.sep _ _ _ _ (OwnI.alloc o1 _) s12.symm; have hbel3 : Below w.heap.size w w3 := Below.trans (by repeat (first | exact hbel2 | apply Below.drew | apply below_alloc)) st2.below; clear st2 lt2)
            | fail)
          all_goals
            rename_i held
            clear held
            clear EK
            go_wp2_with fail
            go_quiet (fail)
            go_wp2_with fail
            go_roundw
          all_goals first
            | (case rel => exact ⟨k + 1, L ++ [(g, k + 1)], k + 1, _, _, _, _, by omega, by omega, HNX.out.symm, by rw [HLEN.out], by rw [HLEN.out], by go_num, by rw [HWW.out], rfl, by rw [HLEN.out]; exact q1.drewN nq, by rw [HLEN.out]; exact o2.drewN nq, by rw [HLEN.out]; exact s21.symm, below_drewN hbel3 nq, HL3.out⟩)
            | (case measure => simp [intOf]; omega)
            | (trace_state; sorry)
      · have hvk : k + 1 ≠ tu ∧ v = false := by
          have h := hcut
          unfold cutB at h
          simp only [hv] at h
          exact ⟨fun e => h (by simp [e]), by cases v <;> simp_all⟩
        obtain ⟨hvk, rfl⟩ := hvk
        have hnx : piecesP (fun k => endsB t b k) tu frm (k + 1 - frm) = (L, g) := by rw [hnext]; unfold stepP; rw [if_neg hcut]
        have HNX := Lib.hid hnx
        generalize hwas : wasF f frm L = wv at *
        have HW := Lib.hid hwas
        clear hnext hcut hv hw0 hnx hwas
        go_wp2_with (go_at_call 16; refine (EK.out _).mono ?_; rintro e w' ⟨rfl, hq⟩; have hq2 := hq.symm; subst hq2)
        go_roundw
        case rel => exact ⟨k + 1, L, g, X, Y, cx, cy, by omega, by omega, HNX.out.symm, rfl, rfl, by go_num, by rw [HW.out], rfl, oX, oY, sXY, hbel, hL2⟩
        case measure => simp [intOf]; omega
    · obtain rfl : k = tu := by omega
      have i1 := oX.ints
      have i2 := oY.ints
      go_wp2_with fail
      go_ret2
      exact ⟨_, _, _, _, L, by rw [← HST.out], rfl, i1, i2, hbel⟩
end Go.Proofs.Ytknbppolecahbaa
