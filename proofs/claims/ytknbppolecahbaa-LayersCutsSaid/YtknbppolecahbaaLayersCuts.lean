/- WALK of waveletlaw14.LayersCuts: every call answers true; memory below is kept. -/
import Derived.Test.YtknbppolecahbaaPiecesLaw
import Derived.Test.YtknbppolecahbaaLayersAll
namespace Go.Proofs.Ytknbppolecahbaa
open Go.RowKit
set_option maxHeartbeats 8000000
set_option linter.unusedVariables false
set_option linter.unusedSimpArgs false

set_option maxRecDepth 100000 in
theorem layersCuts_walk (s0 fr0 to0 : Int) (A : Option Addr) (m c : Nat) (f : Nat → Int) (w : World) (ha : IntsAt w w.heap.size A m f) (hm : m ≤ 9223372036854775807) :
    Calls Try.prog 7 #[.int .i64 s0, .int .i64 fr0, .int .i64 to0, .slice A m c] w fun e w' => e = .returned (.bool true) ∧ Below w.heap.size w w' := by
  obtain ⟨mm, hm1, hm2, hm3⟩ : ∃ mm, mm ≤ m ∧ mm ≤ 60 ∧ (m ≤ mm ∨ 60 ≤ mm) := ⟨min m 60, by omega, by omega, by omega⟩
  go_enter Try.func7, Try.ntmps7
  go_wp2_with fail
  refine (known14 _).mono ?_
  rintro e w' ⟨rfl, rfl⟩
  go_wp2_with fail
  refine (within14e _ _ (by omega) (by omega) _).mono ?_
  rintro e w' ⟨s, hs0, hs1, rfl, rfl⟩
  go_wp2_with fail
  go_loopw [9, 10, 11] (fun ends at_ i wr => ∃ (k : Nat) (g : Nat → Int) (U : Int) (X : Option Addr) (cx : Nat), k ≤ mm ∧ ends = .slice X k cx ∧ at_ = .int .i64 U ∧ i = .int .i64 k ∧ 0 ≤ U ∧ U ≤ 50 * (k : Int) ∧ (∀ j, j < k → 0 ≤ g j ∧ g j ≤ 3000) ∧ OwnI wr w.heap.size 3 (.slice X k cx) k g ∧ Below w.heap.size w wr) (fun _ _ i _ => mm - (intOf i).toNat)
  case atStart => exact ⟨0, fun _ => 0, 0, none, 0, Nat.zero_le _, rfl, rfl, rfl, by omega, by omega, fun j hj => by omega, OwnI.nil_ _ _ _ _, Below.refl _ _⟩
  case round =>
    obtain ⟨k, g, U, X, cx, hk, rfl, rfl, rfl, hU0, hU1, hg, hown, hbel⟩ := hrel
    by_cases hlt : k < mm
    · obtain ⟨b, off, rfl, hb, hc⟩ := (ha.below hbel).at_ (show k < m by omega)
      have hsz := hbel.size
      go_wp2_with fail
      refine (within14e _ _ (by omega) (by omega) _).mono ?_
      rintro e w' ⟨v, hv0, hv1, rfl, rfl⟩
      have s1 : IntKind.i64.wrap (U + v) = U + v := IntWalk.i64_in _ (by omega)
      have hown := hown.congr (g := fun j => if j < k then g j else U + v) snoc_lt
      go_wp2_with (first
        | (at_builtin; refine wpList_app1 wr ((Below.refl _ _).alloc (Nat.le_refl _) _) rfl _ _ 26 rfl 3 int_info Try.underlying26 w.heap.size X k cx (fun j => if j < k then g j else U + v) rfl hown wr.heap.size rfl (by simp) (by omega) (by omega) ?_; intro gg cap w1 hown1 hst hlt1))
      have hb1 : Below w.heap.size w w1 := hbel.trans hst.below
      clear hbel hst
      go_wp2
      go_roundw
      case rel => exact ⟨k + 1, _, U + v, _, cap, by omega, rfl, rfl, by go_num, by omega, by omega, fun j hj => by
        by_cases h : j < k
        · simp only [if_pos h]; exact hg j h
        · simp only [if_neg h]; omega, hown1, hb1⟩
      case measure => simp [intOf]; omega
    · obtain rfl : k = mm := by omega
      have hI := hown.ints
      clear hown
      obtain ⟨t, ht⟩ : ∃ t, (bits .and .i64 s 4 != 0) = t := ⟨_, rfl⟩
      obtain ⟨b, hb⟩ : ∃ b, (bits .and .i64 s 1 != 0) = b := ⟨_, rfl⟩
      have C1 := Lib.hid (fun (k : Int) (w : World) => ends_any s k t b ht hb w)
      have S1 := Lib.hid (segments_any s t b ht hb)
      clear ht hb
      have hq3 : ¬ ((k : Int) < (m : Int)) ∨ (((k : Int) < (m : Int)) ∧ ¬ ((k : Int) < 60)) := by omega
      rcases hq3 with hkm | ⟨hkm, hkm2⟩
      · skip
        go_wp2_with fail
        refine (within14e _ _ (by omega) (by omega) _).mono ?_
        rintro e w' ⟨tu, htu0, htu1, rfl, rfl⟩
        obtain ⟨tu, rfl⟩ := Int.eq_ofNat_of_zero_le htu0
        go_wp2_with fail
        refine (within14e _ _ (by omega) (by omega) _).mono ?_
        rintro e w' ⟨fr, hfr0, hfr1, rfl, rfl⟩
        obtain ⟨fr, rfl⟩ := Int.eq_ofNat_of_zero_le hfr0
        have hfrtu : fr ≤ tu := by omega
        go_wp2_with fail
        refine (S1.out fr tu X k cx g wr hI (by omega) (by omega) (by omega) (fun j hj => by have := hg j hj; omega)).mono ?_
        rintro e w2 ⟨A1, A2, d1, d2, L, hL, rfl, i1, i2, hb2⟩
        have hI2 := (hI.below hb2)
        have hB2 := below_trans hbel hb2
        clear S1 hI hb2 hbel
        have PI := pieces_inv (fun k => endsB t b k) tu fr (tu - fr)
        have PW := pieces_whole (fun k => endsB t b k) hfrtu
        have PL := piecesP_len (fun k => endsB t b k) tu fr (tu - fr)
        rw [← hL] at PI PL
        rw [PW] at PI
        clear hL PW
        have PI := Lib.hid PI
        have hLn : L.length ≤ 60 := by omega
        have hend : endAt L fr L.length = tu := PI.out.beg.symm
        have HEND := Lib.hid hend
        clear hend
        have hvb : ∀ x, x ≤ k → -4000 ≤ valE g x ∧ valE g x ≤ 4000 := by
          intro x hx
          unfold valE
          split
          · omega
          · have := hg (x - 1) (by omega); omega
        have HVB := Lib.hid hvb
        have h00 : endAt L fr 0 = fr := rfl
        have H00 := Lib.hid h00
        clear hvb h00
        go_wp2_with fail
        go_loopw [14, 15, 16] (fun kk n i wr3 => ∃ (j q : Nat), j ≤ L.length ∧ kk = .int .i64 (endAt L fr j : Nat) ∧ n = .int .i64 (valE g (endAt L fr j) - valE g fr) ∧ i = .int .i64 j ∧ wr3 = w2.drewN q) (fun _ _ i _ => L.length - (intOf i).toNat)
        case atStart => exact ⟨0, 0, Nat.zero_le _, rfl, by rw [H00.out, Int.sub_self], rfl, rfl⟩
        case round =>
          obtain ⟨j, q, hj, rfl, rfl, rfl, rfl⟩ := hrel
          by_cases hlt2 : j < L.length
          · obtain ⟨r1, r2, r3, r4, r5, r6⟩ := PI.out.row j hlt2
            obtain ⟨b1, o1, rfl, hl1, hc1⟩ := i1.at_ hlt2
            obtain ⟨b2, o2, rfl, hl2, hc2⟩ := i2.at_ hlt2
            have e1 : passF L j = (((L.getD j (0, 0)).2 - (L.getD j (0, 0)).1 : Nat) : Int) := by unfold passF; omega
            have e2 := byteF_at g fr L j
            have e3 : endAt L fr (j + 1) = (L.getD j (0, 0)).2 := by unfold endAt; rw [if_neg (Nat.succ_ne_zero j), Nat.add_sub_cancel]
            rw [e3] at e2
            rw [e1] at hc1
            rw [e2] at hc2
            have v1 := HVB.out ((L.getD j (0, 0)).2) (by omega)
            have v2 := HVB.out (endAt L fr j) (by omega)
            have v3 := HVB.out fr (by omega)
            have E3 := Lib.hid e3
            clear e1 e2 e3
            rw [← r1] at v2 hc2 ⊢
            clear r1
            generalize hx : (L.getD j (0, 0)).1 = x at *
            generalize hy : (L.getD j (0, 0)).2 = y at *
            clear hx hy
            obtain ⟨P, hP⟩ : ∃ P, y = x + P := ⟨y - x, by omega⟩
            subst hP
            rw [Nat.add_sub_cancel_left] at hc1
            generalize hv1 : valE g (x + P) = V1 at *
            generalize hv2 : valE g x = V2 at *
            generalize hv3 : valE g fr = V3 at *
            have HV1 := Lib.hid hv1
            clear hv1 hv2 hv3
            have s5 : IntKind.i64.wrap (V2 - V3 + (V1 - V2)) = V1 - V3 := by rw [show V2 - V3 + (V1 - V2) = V1 - V3 by omega]; exact IntWalk.i64_in _ (by omega)
            go_wp2_with fail
            go_loopw [14, 17] (fun kk jj wr4 => ∃ (z q2 : Nat), z ≤ P ∧ kk = .int .i64 ((x : Int) + z) ∧ jj = .int .i64 z ∧ wr4 = w2.drewN q2) (fun _ jj _ => P - (intOf jj).toNat)
            case atStart => exact ⟨0, q, Nat.zero_le _, by simp, rfl, rfl⟩
            case round =>
              obtain ⟨z, q2, hz, rfl, rfl, rfl⟩ := hrel
              have hc1' : (w2.drewN q2).cell? ⟨b1, o1 + j, none⟩ = some (.int .i64 (P : Int)) := hc1
              by_cases hlt3 : z < P
              · obtain ⟨v, hv⟩ : ∃ v, endsB t b ((x : Int) + z) = v := ⟨_, rfl⟩
                have EK := C1.out ((x : Int) + z)
                rw [hv] at EK
                have EK := Lib.hid (fun w => (EK w).mono fun _ w' h => (⟨h.1, h.2.symm⟩ : _ ∧ w' = w))
                by_cases hlast : z + 1 = P
                · have hvk : v = true ∨ (v = false ∧ ((x : Int) + z != (tu : Int) - 1) = false) := by
                    have h := r5
                    unfold cutB at h
                    rw [show x + P - 1 = x + z by omega] at h
                    simp only [Int.natCast_add] at h
                    rw [hv] at h
                    cases v
                    · refine .inr ⟨rfl, ?_⟩
                      simp at h
                      rw [bne_eq_false_iff_eq]; omega
                    · exact .inl rfl
                  have hjp : ((z : Int) == (P : Int) - 1) = true := by rw [beq_iff_eq]; omega
                  clear hv
                  rcases hvk with rfl | ⟨rfl, htl⟩
                  all_goals
                    go_wp2_with fail
                    go_quiet (first | (go_at_call 12; exact (EK.out _).mono fun _ _ h => ⟨h.1, _, h.2⟩))
                    go_wp2
                    go_roundw
                  all_goals first
                    | (case rel => exact ⟨z + 1, _, by omega, by go_num, by go_num, rfl⟩)
                    | (case measure => simp [intOf]; omega)
                · have hv0 : v = false := by
                    have h := r6 (x + z) (by omega) (by omega)
                    unfold cutB at h
                    simp only [Int.natCast_add] at h
                    rw [hv] at h
                    cases v
                    · rfl
                    · simp at h
                  subst hv0
                  have hjp : ((z : Int) == (P : Int) - 1) = false := by rw [beq_eq_false_iff_ne]; omega
                  clear hv
                  go_wp2_with fail
                  go_quiet (first | (go_at_call 12; exact (EK.out _).mono fun _ _ h => ⟨h.1, _, h.2⟩))
                  go_wp2
                  go_roundw
                  case rel => exact ⟨z + 1, _, by omega, by go_num, by go_num, rfl⟩
                  case measure => simp [intOf]; omega
              · obtain rfl : z = P := by omega
                have hc2' : (w2.drewN q2).cell? ⟨b2, o2 + j, none⟩ = some (.int .i64 (V1 - V2)) := hc2
                go_wp2_with fail
                go_roundw
                case rel => exact ⟨j + 1, _, by omega, by rw [E3.out]; go_num, by rw [E3.out, HV1.out], by go_num, rfl⟩
                case measure => simp [intOf]; omega
          · obtain rfl : j = L.length := by omega
            rw [HEND.out]
            clear HEND H00
            have v1 := HVB.out tu (by omega)
            have v2 := HVB.out fr (by omega)
            rcases Nat.eq_or_lt_of_le hfrtu with hz | hz
            · subst hz
              rw [Int.sub_self]
              go_wp2_with fail
              go_ret
              exact ⟨rfl, below_drewN hB2 _⟩
            · obtain ⟨b3, o3, rfl, hl3, hc3⟩ := hI2.at_ (show tu - 1 < k by omega)
              have hc3' : (w2.drewN q).cell? ⟨b3, o3 + (tu - 1), none⟩ = some (.int .i64 (valE g tu)) := by rw [show valE g tu = g (tu - 1) by unfold valE; rw [if_neg (by omega)]]; exact hc3
              have g1 : (0 : Int) ≤ (tu : Int) - 1 := by omega
              have g2 : ((tu : Int) - 1).toNat = tu - 1 := by omega
              have g3 : (tu : Int) - 1 < k := by omega
              have g4 : (fr : Int) < tu := by omega
              rcases Nat.eq_zero_or_pos fr with hf0 | hf0
              · subst hf0
                rw [show valE g 0 = 0 from rfl, Int.sub_zero]
                go_wp2_with fail
                go_ret
                exact ⟨rfl, below_drewN hB2 _⟩
              · obtain ⟨b4, o4, h44, hl4, hc4⟩ := hI2.at_ (show fr - 1 < k by omega)
                injection h44 with h44
                injection h44 with h44 h45 _
                subst h44 h45
                have hc4' : (w2.drewN q).cell? ⟨b3, o3 + (fr - 1), none⟩ = some (.int .i64 (valE g fr)) := by rw [show valE g fr = g (fr - 1) by unfold valE; rw [if_neg (by omega)]]; exact hc4
                have k1 : (0 : Int) ≤ (fr : Int) - 1 := by omega
                have k2 : ((fr : Int) - 1).toNat = fr - 1 := by omega
                have k3 : (fr : Int) - 1 < k := by omega
                have k4 : (0 : Int) < fr := by omega
                have s6 : IntKind.i64.wrap (valE g tu - valE g fr) = valE g tu - valE g fr := IntWalk.i64_in _ (by omega)
                go_wp2_with fail
                go_ret
                exact ⟨rfl, below_drewN hB2 _⟩
      · skip
        go_wp2_with fail
        refine (within14e _ _ (by omega) (by omega) _).mono ?_
        rintro e w' ⟨tu, htu0, htu1, rfl, rfl⟩
        obtain ⟨tu, rfl⟩ := Int.eq_ofNat_of_zero_le htu0
        go_wp2_with fail
        refine (within14e _ _ (by omega) (by omega) _).mono ?_
        rintro e w' ⟨fr, hfr0, hfr1, rfl, rfl⟩
        obtain ⟨fr, rfl⟩ := Int.eq_ofNat_of_zero_le hfr0
        have hfrtu : fr ≤ tu := by omega
        go_wp2_with fail
        refine (S1.out fr tu X k cx g wr hI (by omega) (by omega) (by omega) (fun j hj => by have := hg j hj; omega)).mono ?_
        rintro e w2 ⟨A1, A2, d1, d2, L, hL, rfl, i1, i2, hb2⟩
        have hI2 := (hI.below hb2)
        have hB2 := below_trans hbel hb2
        clear S1 hI hb2 hbel
        have PI := pieces_inv (fun k => endsB t b k) tu fr (tu - fr)
        have PW := pieces_whole (fun k => endsB t b k) hfrtu
        have PL := piecesP_len (fun k => endsB t b k) tu fr (tu - fr)
        rw [← hL] at PI PL
        rw [PW] at PI
        clear hL PW
        have PI := Lib.hid PI
        have hLn : L.length ≤ 60 := by omega
        have hend : endAt L fr L.length = tu := PI.out.beg.symm
        have HEND := Lib.hid hend
        clear hend
        have hvb : ∀ x, x ≤ k → -4000 ≤ valE g x ∧ valE g x ≤ 4000 := by
          intro x hx
          unfold valE
          split
          · omega
          · have := hg (x - 1) (by omega); omega
        have HVB := Lib.hid hvb
        have h00 : endAt L fr 0 = fr := rfl
        have H00 := Lib.hid h00
        clear hvb h00
        go_wp2_with fail
        go_loopw [14, 15, 16] (fun kk n i wr3 => ∃ (j q : Nat), j ≤ L.length ∧ kk = .int .i64 (endAt L fr j : Nat) ∧ n = .int .i64 (valE g (endAt L fr j) - valE g fr) ∧ i = .int .i64 j ∧ wr3 = w2.drewN q) (fun _ _ i _ => L.length - (intOf i).toNat)
        case atStart => exact ⟨0, 0, Nat.zero_le _, rfl, by rw [H00.out, Int.sub_self], rfl, rfl⟩
        case round =>
          obtain ⟨j, q, hj, rfl, rfl, rfl, rfl⟩ := hrel
          by_cases hlt2 : j < L.length
          · obtain ⟨r1, r2, r3, r4, r5, r6⟩ := PI.out.row j hlt2
            obtain ⟨b1, o1, rfl, hl1, hc1⟩ := i1.at_ hlt2
            obtain ⟨b2, o2, rfl, hl2, hc2⟩ := i2.at_ hlt2
            have e1 : passF L j = (((L.getD j (0, 0)).2 - (L.getD j (0, 0)).1 : Nat) : Int) := by unfold passF; omega
            have e2 := byteF_at g fr L j
            have e3 : endAt L fr (j + 1) = (L.getD j (0, 0)).2 := by unfold endAt; rw [if_neg (Nat.succ_ne_zero j), Nat.add_sub_cancel]
            rw [e3] at e2
            rw [e1] at hc1
            rw [e2] at hc2
            have v1 := HVB.out ((L.getD j (0, 0)).2) (by omega)
            have v2 := HVB.out (endAt L fr j) (by omega)
            have v3 := HVB.out fr (by omega)
            have E3 := Lib.hid e3
            clear e1 e2 e3
            rw [← r1] at v2 hc2 ⊢
            clear r1
            generalize hx : (L.getD j (0, 0)).1 = x at *
            generalize hy : (L.getD j (0, 0)).2 = y at *
            clear hx hy
            obtain ⟨P, hP⟩ : ∃ P, y = x + P := ⟨y - x, by omega⟩
            subst hP
            rw [Nat.add_sub_cancel_left] at hc1
            generalize hv1 : valE g (x + P) = V1 at *
            generalize hv2 : valE g x = V2 at *
            generalize hv3 : valE g fr = V3 at *
            have HV1 := Lib.hid hv1
            clear hv1 hv2 hv3
            have s5 : IntKind.i64.wrap (V2 - V3 + (V1 - V2)) = V1 - V3 := by rw [show V2 - V3 + (V1 - V2) = V1 - V3 by omega]; exact IntWalk.i64_in _ (by omega)
            go_wp2_with fail
            go_loopw [14, 17] (fun kk jj wr4 => ∃ (z q2 : Nat), z ≤ P ∧ kk = .int .i64 ((x : Int) + z) ∧ jj = .int .i64 z ∧ wr4 = w2.drewN q2) (fun _ jj _ => P - (intOf jj).toNat)
            case atStart => exact ⟨0, q, Nat.zero_le _, by simp, rfl, rfl⟩
            case round =>
              obtain ⟨z, q2, hz, rfl, rfl, rfl⟩ := hrel
              have hc1' : (w2.drewN q2).cell? ⟨b1, o1 + j, none⟩ = some (.int .i64 (P : Int)) := hc1
              by_cases hlt3 : z < P
              · obtain ⟨v, hv⟩ : ∃ v, endsB t b ((x : Int) + z) = v := ⟨_, rfl⟩
                have EK := C1.out ((x : Int) + z)
                rw [hv] at EK
                have EK := Lib.hid (fun w => (EK w).mono fun _ w' h => (⟨h.1, h.2.symm⟩ : _ ∧ w' = w))
                by_cases hlast : z + 1 = P
                · have hvk : v = true ∨ (v = false ∧ ((x : Int) + z != (tu : Int) - 1) = false) := by
                    have h := r5
                    unfold cutB at h
                    rw [show x + P - 1 = x + z by omega] at h
                    simp only [Int.natCast_add] at h
                    rw [hv] at h
                    cases v
                    · refine .inr ⟨rfl, ?_⟩
                      simp at h
                      rw [bne_eq_false_iff_eq]; omega
                    · exact .inl rfl
                  have hjp : ((z : Int) == (P : Int) - 1) = true := by rw [beq_iff_eq]; omega
                  clear hv
                  rcases hvk with rfl | ⟨rfl, htl⟩
                  all_goals
                    go_wp2_with fail
                    go_quiet (first | (go_at_call 12; exact (EK.out _).mono fun _ _ h => ⟨h.1, _, h.2⟩))
                    go_wp2
                    go_roundw
                  all_goals first
                    | (case rel => exact ⟨z + 1, _, by omega, by go_num, by go_num, rfl⟩)
                    | (case measure => simp [intOf]; omega)
                · have hv0 : v = false := by
                    have h := r6 (x + z) (by omega) (by omega)
                    unfold cutB at h
                    simp only [Int.natCast_add] at h
                    rw [hv] at h
                    cases v
                    · rfl
                    · simp at h
                  subst hv0
                  have hjp : ((z : Int) == (P : Int) - 1) = false := by rw [beq_eq_false_iff_ne]; omega
                  clear hv
                  go_wp2_with fail
                  go_quiet (first | (go_at_call 12; exact (EK.out _).mono fun _ _ h => ⟨h.1, _, h.2⟩))
                  go_wp2
                  go_roundw
                  case rel => exact ⟨z + 1, _, by omega, by go_num, by go_num, rfl⟩
                  case measure => simp [intOf]; omega
              · obtain rfl : z = P := by omega
                have hc2' : (w2.drewN q2).cell? ⟨b2, o2 + j, none⟩ = some (.int .i64 (V1 - V2)) := hc2
                go_wp2_with fail
                go_roundw
                case rel => exact ⟨j + 1, _, by omega, by rw [E3.out]; go_num, by rw [E3.out, HV1.out], by go_num, rfl⟩
                case measure => simp [intOf]; omega
          · obtain rfl : j = L.length := by omega
            rw [HEND.out]
            clear HEND H00
            have v1 := HVB.out tu (by omega)
            have v2 := HVB.out fr (by omega)
            rcases Nat.eq_or_lt_of_le hfrtu with hz | hz
            · subst hz
              rw [Int.sub_self]
              go_wp2_with fail
              go_ret
              exact ⟨rfl, below_drewN hB2 _⟩
            · obtain ⟨b3, o3, rfl, hl3, hc3⟩ := hI2.at_ (show tu - 1 < k by omega)
              have hc3' : (w2.drewN q).cell? ⟨b3, o3 + (tu - 1), none⟩ = some (.int .i64 (valE g tu)) := by rw [show valE g tu = g (tu - 1) by unfold valE; rw [if_neg (by omega)]]; exact hc3
              have g1 : (0 : Int) ≤ (tu : Int) - 1 := by omega
              have g2 : ((tu : Int) - 1).toNat = tu - 1 := by omega
              have g3 : (tu : Int) - 1 < k := by omega
              have g4 : (fr : Int) < tu := by omega
              rcases Nat.eq_zero_or_pos fr with hf0 | hf0
              · subst hf0
                rw [show valE g 0 = 0 from rfl, Int.sub_zero]
                go_wp2_with fail
                go_ret
                exact ⟨rfl, below_drewN hB2 _⟩
              · obtain ⟨b4, o4, h44, hl4, hc4⟩ := hI2.at_ (show fr - 1 < k by omega)
                injection h44 with h44
                injection h44 with h44 h45 _
                subst h44 h45
                have hc4' : (w2.drewN q).cell? ⟨b3, o3 + (fr - 1), none⟩ = some (.int .i64 (valE g fr)) := by rw [show valE g fr = g (fr - 1) by unfold valE; rw [if_neg (by omega)]]; exact hc4
                have k1 : (0 : Int) ≤ (fr : Int) - 1 := by omega
                have k2 : ((fr : Int) - 1).toNat = fr - 1 := by omega
                have k3 : (fr : Int) - 1 < k := by omega
                have k4 : (0 : Int) < fr := by omega
                have s6 : IntKind.i64.wrap (valE g tu - valE g fr) = valE g tu - valE g fr := IntWalk.i64_in _ (by omega)
                go_wp2_with fail
                go_ret
                exact ⟨rfl, below_drewN hB2 _⟩
end Go.Proofs.Ytknbppolecahbaa
