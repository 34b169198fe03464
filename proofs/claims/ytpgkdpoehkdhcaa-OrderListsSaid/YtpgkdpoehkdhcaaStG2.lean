/- symMerge at order.spot: the step, the middle behind the left part. -/
import Derived.Test.YtpgkdpoehkdhcaaStI
import Derived.Test.YtpgkdpoehkdhcaaStR
import Derived.Test.YtpgkdpoehkdhcaaStG1
namespace Go.Proofs.Ytpgkdpoehkdhcaa
open Go.RowKit Go.Sort
attribute [local go_sem] opv opnd
set_option maxHeartbeats 40000000
set_option linter.unusedVariables false
set_option linter.unusedSimpArgs false
set_option maxRecDepth 1000000
theorem sym_gen2 (w0 : World) (base g c N : Nat) (a m b : Nat) (d : Array Spot) (W : World) (HC : ∀ x y, CmpAt x y) (S : SW w0 base g c d W) (hN : d.size = N) (h1 : a + 1 < m) (h2 : m + 1 < b) (h3 : b ≤ N) (hz : N ≤ 1099511627776) (hsA : SortedIn ltS a m d) (hsB : SortedIn ltS m b d) (IH : SymAt w0 base g c N (b - a))
    (hmm : m ≤ (a + b) / 2) :
    Calls Try.prog 58 #[.slice (some ⟨g, 0, none⟩) N c, .int .i64 a, .int .i64 m, .int .i64 b, .func (.func 30) #[] #[]] W fun e w' => e = .returned (.tuple #[]) ∧ ∃ d', PermIn a b d d' ∧ SortedIn ltS a b d' ∧ SW w0 base g c d' w' := by
  have HS0 := Lib.hid S
  have HCM := Lib.hid HC
  have HAB := Lib.hid (And.intro hsA hsB)
  have HIH := Lib.hid IH
  clear S HC hsA hsB IH
  obtain ⟨ab, hab⟩ : ∃ z, a + b = z := ⟨_, rfl⟩
  obtain ⟨mid, hmid⟩ : ∃ z, ab / 2 = z := ⟨_, rfl⟩
  rw [hab, hmid] at hmm
  obtain ⟨n, hn⟩ : ∃ z, mid + m = z := ⟨_, rfl⟩
  obtain ⟨p, hp⟩ : ∃ z, z + 1 = n := ⟨n - 1, by omega⟩
  obtain ⟨ma, hma⟩ : ∃ z, z + a = m := ⟨m - a, by omega⟩
  obtain ⟨bm, hbm⟩ : ∃ z, z + m = b := ⟨b - m, by omega⟩
  have hamid : a < mid := by omega
  have hmidb : mid < b := by omega
  have dgt : ¬ (mid : Int) < (m : Int) := by omega
  have W00 := wrap_sub (a := m) (b := a) hma (by omega)
  have W01 : ((ma : Int) == 1) = false := by simp; omega
  have W10 := wrap_sub (a := b) (b := m) hbm (by omega)
  have W11 : ((bm : Int) == 1) = false := by simp; omega
  have W20 := wrap_add (a := a) (b := b) hab (by omega)
  have W21 : (ab : Int) / 2 = (mid : Int) := by omega
  have W22 := wrap_add (a := mid) (b := m) hn (by omega)
  have W23 := wrap_sub1 hp (by omega)
  go_enter Try.func58, Try.ntmps58
  go_wp2
  clear W00 W01 W10 W11 W20 W21 W22 W23 dgt
  go_loopg [20, 21] (b - a) (fun kx s20 s21 wr => ∃ (s q : Nat), s20 = .int .i64 (s : Int) ∧ s21 = .int .i64 (q : Int) ∧ a ≤ s ∧ s ≤ q ∧ q ≤ m ∧ q - s ≤ kx ∧ Hid (SW w0 base g c d wr) ∧ Hid (s = a ∨ ltS d[p - (s - 1)]! d[s - 1]! = false) ∧ Hid (q = m ∨ ltS d[p - q]! d[q]! = true))
  case atStart => exact ⟨a, m, rfl, rfl, by omega, by omega, by omega, by omega, HS0, Lib.hid (Or.inl rfl), Lib.hid (Or.inl rfl)⟩
  case round =>
    clear HS0
    obtain ⟨s, q, rfl, rfl, b1, b2, b3, hk, HS, HL, HR⟩ := hrel
    by_cases hlt : s < q
    · have hltz : (s : Int) < (q : Int) := by omega
      obtain ⟨sq, hsq⟩ : ∃ z, s + q = z := ⟨_, rfl⟩
      obtain ⟨h, hh⟩ : ∃ z, sq / 2 = z := ⟨_, rfl⟩
      have hhz : (sq : Int) / 2 = (h : Int) := by omega
      have W1 := wrap_add (a := s) (b := q) hsq (by omega)
      obtain ⟨ph, hph⟩ : ∃ z, z + h = p := ⟨p - h, by omega⟩
      have WP := Lib.hid (wrap_sub (a := p) (b := h) hph (by omega))
      have lt_h : h < d.size := by omega
      have lt_ph : ph < d.size := by omega
      have la : h < N := by omega
      have lb : ph < N := by omega
      obtain ⟨xp, hxp⟩ : ∃ z, d[ph]! = z := ⟨_, rfl⟩
      have LD_ph : ∀ U : World, SW w0 base g c d U → (loadCells ⟨g, ph * 12, none⟩ 12).run Try.prog U = .ok (spotL xp).toArray U := fun U h => by rw [← hxp]; exact h.load _ lt_ph
      obtain ⟨xh, hxh⟩ : ∃ z, d[h]! = z := ⟨_, rfl⟩
      have LD_h : ∀ U : World, SW w0 base g c d U → (loadCells ⟨g, h * 12, none⟩ 12).run Try.prog U = .ok (spotL xh).toArray U := fun U h => by rw [← hxh]; exact h.load _ lt_h
      obtain ⟨r, hr⟩ : ∃ r, cfS xp xh = r := ⟨_, rfl⟩
      have HCR := Lib.hid (fun V : World => hr ▸ HCM.out xp xh V)
      have HLT := Lib.hid (show ltS d[ph]! d[h]! = decide (r < 0) by unfold ltS; rw [hxp, hxh, hr])
      clear hxp hxh
      go_wp2_with fail
      refine last_cut (by kernel_rfl) (fun U => SW w0 base g c d U) (fun aF a' W' => a' = ((((((((((((((aF.put (some 158) (.func (.func 30) #[] #[])).put (some 159) (.slice (some ⟨g, 0, none⟩) N c)).put (some 160) (.int .i64 (p : Int))).put (some 161) (.int .i64 (h : Int))).put (some 162) (.int .i64 (ph : Int))).put (some 163) (.pointer (some ⟨g, ph * 12, none⟩))).put (some 164) (.agg (spotL xp).toArray)).put (some 165) (.slice (some ⟨g, 0, none⟩) N c)).put (some 166) (.int .i64 (h : Int))).put (some 167) (.pointer (some ⟨g, h * 12, none⟩))).put (some 168) (.agg (spotL xh).toArray)).put (some 169) (.int .i64 r)).put (some 170) (.bool (decide (r < 0)))).put (some 171) (.bool (!decide (r < 0)))) ∧ SW w0 base g c d W') (HS.out.drew) (fun hS => ?_) ?_
      · skip
        have hSB : ∀ U : World, Below (wr.heap.size) wr U → SW w0 base g c d U := fun U h => ((HS.out).below h)
        have bV : Below wr.heap.size wr wr.drew := (Below.refl _ _).drew
        generalize wr.drew = V0 at *
        change wpAnyL _ _ _ _ _ 14 #[false, false, false, false, false, false, false, false, false, false, false, false, false, false] _ _
        refine wpAnyL_take (i := 0) (v := .func (.func 30) #[] #[]) (by simp only [List.getElem?_toArray, List.getElem?_cons_succ, List.getElem?_cons_zero]; rfl) (by as_aux_lemma => kernel_rfl) (by as_aux_lemma => kernel_rfl) (by as_aux_lemma => kernel_rfl) (fun _ _ _ h => h) (Or.inl ⟨by rfl, ?_⟩) hS ?_
        · intro U hU
          have s0 := hU
          show _ = _
          kernel_rfl
        simp only [Act.put, List.setIfInBounds_toArray, List.set_cons_zero, List.set_cons_succ]
        refine wpAnyL_take (i := 1) (v := .slice (some ⟨g, 0, none⟩) N c) (by simp only [List.getElem?_toArray, List.getElem?_cons_succ, List.getElem?_cons_zero]; rfl) (by as_aux_lemma => kernel_rfl) (by as_aux_lemma => kernel_rfl) (by as_aux_lemma => kernel_rfl) (fun _ _ _ h => h) (Or.inl ⟨by rfl, ?_⟩) hS ?_
        · intro U hU
          have s0 := hU
          show _ = _
          kernel_rfl
        simp only [Act.put, List.setIfInBounds_toArray, List.set_cons_zero, List.set_cons_succ]
        refine wpAnyL_take (i := 2) (v := .int .i64 (p : Int)) (by simp only [List.getElem?_toArray, List.getElem?_cons_succ, List.getElem?_cons_zero]; rfl) (by as_aux_lemma => kernel_rfl) (by as_aux_lemma => kernel_rfl) (by as_aux_lemma => kernel_rfl) (fun _ _ _ h => h) (Or.inl ⟨by rfl, ?_⟩) hS ?_
        · intro U hU
          have s0 := hU
          show _ = _
          kernel_rfl
        simp only [Act.put, List.setIfInBounds_toArray, List.set_cons_zero, List.set_cons_succ]
        refine wpAnyL_take (i := 3) (v := .int .i64 (h : Int)) (by simp only [List.getElem?_toArray, List.getElem?_cons_succ, List.getElem?_cons_zero]; rfl) (by as_aux_lemma => kernel_rfl) (by as_aux_lemma => kernel_rfl) (by as_aux_lemma => kernel_rfl) (fun _ _ _ h => h) (Or.inl ⟨by rfl, ?_⟩) hS ?_
        · intro U hU
          have s0 := hU
          show _ = _
          kernel_rfl
        simp only [Act.put, List.setIfInBounds_toArray, List.set_cons_zero, List.set_cons_succ]
        refine wpAnyL_take (i := 4) (v := .int .i64 (ph : Int)) (by simp only [List.getElem?_toArray, List.getElem?_cons_succ, List.getElem?_cons_zero]; rfl) (by as_aux_lemma => kernel_rfl) (by as_aux_lemma => kernel_rfl) (by as_aux_lemma => kernel_rfl) (fun _ _ _ h => h) (Or.inl ⟨by rfl, ?_⟩) hS ?_
        · intro U hU
          have s0 := hU
          show _ = _
          have hz := WP.out
          go_simp
        simp only [Act.put, List.setIfInBounds_toArray, List.set_cons_zero, List.set_cons_succ]
        refine wpAnyL_take (i := 5) (v := .pointer (some ⟨g, ph * 12, none⟩)) (by simp only [List.getElem?_toArray, List.getElem?_cons_succ, List.getElem?_cons_zero]; rfl) (by as_aux_lemma => kernel_rfl) (by as_aux_lemma => kernel_rfl) (by as_aux_lemma => kernel_rfl) (fun _ _ _ h => h) (Or.inl ⟨by rfl, ?_⟩) hS ?_
        · intro U hU
          have s0 := hU
          show _ = _
          go_simp
        simp only [Act.put, List.setIfInBounds_toArray, List.set_cons_zero, List.set_cons_succ]
        refine wpAnyL_take (i := 6) (v := .agg (spotL xp).toArray) (by simp only [List.getElem?_toArray, List.getElem?_cons_succ, List.getElem?_cons_zero]; rfl) (by as_aux_lemma => kernel_rfl) (by as_aux_lemma => kernel_rfl) (by as_aux_lemma => kernel_rfl) (fun _ _ _ h => h) (Or.inl ⟨by rfl, ?_⟩) hS ?_
        · intro U hU
          have s0 := hU
          show _ = _
          exact exec_loadK rfl rfl (by kernel_rfl) (by kernel_rfl) (LD_ph _ s0)
        simp only [Act.put, List.setIfInBounds_toArray, List.set_cons_zero, List.set_cons_succ]
        refine wpAnyL_take (i := 7) (v := .slice (some ⟨g, 0, none⟩) N c) (by simp only [List.getElem?_toArray, List.getElem?_cons_succ, List.getElem?_cons_zero]; rfl) (by as_aux_lemma => kernel_rfl) (by as_aux_lemma => kernel_rfl) (by as_aux_lemma => kernel_rfl) (fun _ _ _ h => h) (Or.inl ⟨by rfl, ?_⟩) hS ?_
        · intro U hU
          have s0 := hU
          show _ = _
          kernel_rfl
        simp only [Act.put, List.setIfInBounds_toArray, List.set_cons_zero, List.set_cons_succ]
        refine wpAnyL_take (i := 8) (v := .int .i64 (h : Int)) (by simp only [List.getElem?_toArray, List.getElem?_cons_succ, List.getElem?_cons_zero]; rfl) (by as_aux_lemma => kernel_rfl) (by as_aux_lemma => kernel_rfl) (by as_aux_lemma => kernel_rfl) (fun _ _ _ h => h) (Or.inl ⟨by rfl, ?_⟩) hS ?_
        · intro U hU
          have s0 := hU
          show _ = _
          kernel_rfl
        simp only [Act.put, List.setIfInBounds_toArray, List.set_cons_zero, List.set_cons_succ]
        refine wpAnyL_take (i := 9) (v := .pointer (some ⟨g, h * 12, none⟩)) (by simp only [List.getElem?_toArray, List.getElem?_cons_succ, List.getElem?_cons_zero]; rfl) (by as_aux_lemma => kernel_rfl) (by as_aux_lemma => kernel_rfl) (by as_aux_lemma => kernel_rfl) (fun _ _ _ h => h) (Or.inl ⟨by rfl, ?_⟩) hS ?_
        · intro U hU
          have s0 := hU
          show _ = _
          go_simp
        simp only [Act.put, List.setIfInBounds_toArray, List.set_cons_zero, List.set_cons_succ]
        refine wpAnyL_take (i := 10) (v := .agg (spotL xh).toArray) (by simp only [List.getElem?_toArray, List.getElem?_cons_succ, List.getElem?_cons_zero]; rfl) (by as_aux_lemma => kernel_rfl) (by as_aux_lemma => kernel_rfl) (by as_aux_lemma => kernel_rfl) (fun _ _ _ h => h) (Or.inl ⟨by rfl, ?_⟩) hS ?_
        · intro U hU
          have s0 := hU
          show _ = _
          exact exec_loadK rfl rfl (by kernel_rfl) (by kernel_rfl) (LD_h _ s0)
        simp only [Act.put, List.setIfInBounds_toArray, List.set_cons_zero, List.set_cons_succ]
        refine wpAnyL_ready (rs := [11]) (by as_aux_lemma => kernel_rfl) (by simp) ?_
        refine AllReadyL.cons (by simp only [List.getElem?_toArray, List.getElem?_cons_succ, List.getElem?_cons_zero]; rfl) (fun K' hK' => ?_) AllReadyL.nil
        go_simp
        go_at_call 30
        refine (HCR.out _).mono ?_
        rintro e' U11 ⟨rfl, hb11⟩
        have b11 := below_trans bV hb11
        have hS := hSB _ b11
        dsimp only
        refine hK'.out _ _ hS (fun _ => ?_)
        clear hb11
        clear hK' K'
        try simp only [Act.put, List.setIfInBounds_toArray, List.set_cons_zero, List.set_cons_succ]
        refine wpAnyL_take (i := 12) (v := .bool (decide (r < 0))) (by simp only [List.getElem?_toArray, List.getElem?_cons_succ, List.getElem?_cons_zero]; rfl) (by as_aux_lemma => kernel_rfl) (by as_aux_lemma => kernel_rfl) (by as_aux_lemma => kernel_rfl) (fun _ _ _ h => h) (Or.inl ⟨by rfl, ?_⟩) hS ?_
        · intro U hU
          have s0 := hU
          show _ = _
          go_simp
        simp only [Act.put, List.setIfInBounds_toArray, List.set_cons_zero, List.set_cons_succ]
        refine wpAnyL_take (i := 13) (v := .bool (!decide (r < 0))) (by simp only [List.getElem?_toArray, List.getElem?_cons_succ, List.getElem?_cons_zero]; rfl) (by as_aux_lemma => kernel_rfl) (by as_aux_lemma => kernel_rfl) (by as_aux_lemma => kernel_rfl) (fun _ _ _ h => h) (Or.inl ⟨by rfl, ?_⟩) hS ?_
        · intro U hU
          have s0 := hU
          show _ = _
          exact exec_notK rfl (by kernel_rfl)
        simp only [Act.put, List.setIfInBounds_toArray, List.set_cons_zero, List.set_cons_succ]
        refine wpAnyL_done (by as_aux_lemma => kernel_rfl) ?_ _
        simp only [OnlyN]
        refine ⟨?_, hS⟩
        (try simp only [Act.put, List.setIfInBounds_toArray, List.set_cons_zero, List.set_cons_succ])
      rintro a' W4 ⟨rfl, h4⟩
      simp only [Act.put, List.setIfInBounds_toArray, List.set_cons_zero, List.set_cons_succ]
      have HS4 := Lib.hid h4
      clear h4 HS HCR LD_h LD_ph
      have eph : p - h = ph := by omega
      have HPH := Lib.hid eph
      clear eph
      by_cases hrn : r < 0
      · have hd : decide (r < 0) = true := decide_eq_true hrn
        rw [hd]
        go_wp2_with fail
        go_roundg (h - s)
        case measure => omega
        case rel => exact ⟨s, h, rfl, rfl, b1, by omega, by omega, Nat.le_refl _, HS4, HL, Lib.hid (Or.inr (by rw [HPH.out, HLT.out]; exact hd))⟩
      · have hd : decide (r < 0) = false := decide_eq_false hrn
        have W2 := wrap_add1 (a := h) (c := h + 1) rfl (by omega)
        rw [hd]
        go_wp2_with fail
        go_roundg (q - (h + 1))
        case measure => omega
        case rel => exact ⟨h + 1, q, by go_num, rfl, by omega, by omega, b3, Nat.le_refl _, HS4, Lib.hid (Or.inr (by rw [Nat.add_sub_cancel, HPH.out, HLT.out]; exact hd)), HR⟩
    · have hltz : ¬ (s : Int) < (q : Int) := by omega
      have he : s = q := by omega
      subst he
      obtain ⟨e, hee⟩ : ∃ z, z + s = n := ⟨n - s, by omega⟩
      have HL2 := Lib.hid (show s = a ∨ e = b ∨ ltS d[e]! d[s - 1]! = false by
        rcases HL.out with h | h
        · left; exact h
        · by_cases h0 : s = a
          · exact Or.inl h0
          · rw [show p - (s - 1) = e by omega] at h
            exact Or.inr (Or.inr h))
      have HR2 := Lib.hid (show s = m ∨ e = m ∨ ltS d[e - 1]! d[s]! = true by
        rcases HR.out with h | h
        · left; exact h
        · rw [show p - s = e - 1 by omega] at h
          exact Or.inr (Or.inr h))
      have WE := wrap_sub (a := n) (b := s) hee (by omega)
      have has : a ≤ s := by omega
      have hsm : s ≤ m := by omega
      have hsd : s ≤ mid := by omega
      have hme : m ≤ e := by omega
      have heb : e ≤ b := by omega
      clear HL HR hltz hlt
      by_cases ct : s < m ∧ m < e
      · have t1 : (s : Int) < (m : Int) := by omega
        have t2 : (m : Int) < (e : Int) := by omega
        go_wp2_with fail
        refine (rotate_any w0 base g c N s m e d _ HS.out hN ct.1 ct.2 (by omega) hz).mono ?_
        rintro e' Wt ⟨rfl, d1, hp1, hr1, hs1⟩
        have HSt := Lib.hid hs1
        have HPT := Lib.hid (And.intro hp1 hr1)
        have hz1 : d1.size = d.size := hp1.1
        clear hs1 hp1 hr1
        have HST := Lib.hid (sym_step swoS (a := a) (m := m) (b := b) (mid := mid) (s := s) (e := e) (r0 := 0) (s0 := 0) (by omega) (by omega) (by omega) hamid hmidb (by omega) hme heb has hsm hsd HAB.out.1 HAB.out.2 HL2.out HR2.out hz1 HPT.out.2)
        have HPM := Lib.hid (permIn_mono _ _ _ _ _ _ has heb (by omega) HPT.out.1)
        by_cases cl : a < s ∧ s < mid
        · have z1 : (a : Int) < (s : Int) := by omega
          have z2 : (s : Int) < (mid : Int) := by omega
          go_wp2_with fail
          refine (HIH.out a s mid d1 _ (by omega) HSt.out (by omega) (by omega) (by omega) (by omega) HST.out.1 HST.out.2.1).mono ?_
          rintro e' Wl ⟨rfl, dl, pl, sl, hl⟩
          have HSl := Lib.hid hl
          have HPL := Lib.hid (And.intro pl sl)
          have hzl : dl.size = N := by rw [pl.1]; omega
          clear hl pl sl
          by_cases cr : mid < e ∧ e < b
          · have y1 : (mid : Int) < (e : Int) := by omega
            have y2 : (e : Int) < (b : Int) := by omega
            go_wp2_with fail
            all_goals
             refine (HIH.out mid e b dl _ (by omega) HSl.out hzl (by omega) (by omega) (by omega) (sortedIn_out HST.out.2.2.1 HPL.out.1 (Or.inr (Nat.le_refl _))) (sortedIn_out HST.out.2.2.2.1 HPL.out.1 (Or.inr (by omega)))).mono ?_
             rintro e' Wr ⟨rfl, dr, pr, sr, hr⟩
             have HRR := Lib.hid (And.intro hr (sym_join swoS (by omega) (by omega) (by omega) HST.out.2.2.2.2 HPL.out.1 HPL.out.2 pr sr))
             clear hr pr sr
             go_wp2_with fail
             go_end0
             exact ⟨rfl, dr, permIn_trans _ _ _ _ _ HPM.out HRR.out.2.1, HRR.out.2.2, HRR.out.1⟩
          · have yy : ¬ (mid : Int) < (e : Int) ∨ ((mid : Int) < (e : Int) ∧ ¬ (e : Int) < (b : Int)) := by omega
            have HJ := Lib.hid (sym_join swoS (by omega) (by omega) (by omega) HST.out.2.2.2.2 HPL.out.1 HPL.out.2 (permIn_refl _ _ _) (show SortedIn ltS mid b dl by
              rcases Nat.lt_or_ge mid e with h | h
              · have : e = b := by omega
                have h2 := sortedIn_out HST.out.2.2.1 HPL.out.1 (Or.inr (Nat.le_refl _))
                rw [this] at h2
                exact h2
              · have : e = mid := by omega
                have h2 := sortedIn_out HST.out.2.2.2.1 HPL.out.1 (Or.inr (by omega))
                rw [this] at h2
                exact h2))
            rcases yy with y1 | ⟨y1, y2⟩
            · go_wp2_with fail
              all_goals go_end0
              all_goals exact ⟨rfl, dl, permIn_trans _ _ _ _ _ HPM.out HJ.out.1, HJ.out.2, HSl.out⟩
            · go_wp2_with fail
              all_goals go_end0
              all_goals exact ⟨rfl, dl, permIn_trans _ _ _ _ _ HPM.out HJ.out.1, HJ.out.2, HSl.out⟩
        · have zz : ¬ (a : Int) < (s : Int) ∨ ((a : Int) < (s : Int) ∧ ¬ (s : Int) < (mid : Int)) := by omega
          have HPL := Lib.hid (show PermIn a mid d1 d1 ∧ SortedIn ltS a mid d1 from ⟨permIn_refl _ _ _, by
            rcases Nat.lt_or_ge a s with h | h
            · have : s = mid := by omega
              have h2 := HST.out.1
              rw [this] at h2
              exact h2
            · have : s = a := by omega
              have h2 := HST.out.2.1
              rw [this] at h2
              exact h2⟩)
          have hzl : d1.size = N := by omega
          rcases zz with z1 | ⟨z1, z2⟩
          · skip
            by_cases cr : mid < e ∧ e < b
            · have y1 : (mid : Int) < (e : Int) := by omega
              have y2 : (e : Int) < (b : Int) := by omega
              go_wp2_with fail
              all_goals
               refine (HIH.out mid e b d1 _ (by omega) HSt.out hzl (by omega) (by omega) (by omega) (sortedIn_out HST.out.2.2.1 HPL.out.1 (Or.inr (Nat.le_refl _))) (sortedIn_out HST.out.2.2.2.1 HPL.out.1 (Or.inr (by omega)))).mono ?_
               rintro e' Wr ⟨rfl, dr, pr, sr, hr⟩
               have HRR := Lib.hid (And.intro hr (sym_join swoS (by omega) (by omega) (by omega) HST.out.2.2.2.2 HPL.out.1 HPL.out.2 pr sr))
               clear hr pr sr
               go_wp2_with fail
               go_end0
               exact ⟨rfl, dr, permIn_trans _ _ _ _ _ HPM.out HRR.out.2.1, HRR.out.2.2, HRR.out.1⟩
            · have yy : ¬ (mid : Int) < (e : Int) ∨ ((mid : Int) < (e : Int) ∧ ¬ (e : Int) < (b : Int)) := by omega
              have HJ := Lib.hid (sym_join swoS (by omega) (by omega) (by omega) HST.out.2.2.2.2 HPL.out.1 HPL.out.2 (permIn_refl _ _ _) (show SortedIn ltS mid b d1 by
                rcases Nat.lt_or_ge mid e with h | h
                · have : e = b := by omega
                  have h2 := sortedIn_out HST.out.2.2.1 HPL.out.1 (Or.inr (Nat.le_refl _))
                  rw [this] at h2
                  exact h2
                · have : e = mid := by omega
                  have h2 := sortedIn_out HST.out.2.2.2.1 HPL.out.1 (Or.inr (by omega))
                  rw [this] at h2
                  exact h2))
              rcases yy with y1 | ⟨y1, y2⟩
              · go_wp2_with fail
                all_goals go_end0
                all_goals exact ⟨rfl, d1, permIn_trans _ _ _ _ _ HPM.out HJ.out.1, HJ.out.2, HSt.out⟩
              · go_wp2_with fail
                all_goals go_end0
                all_goals exact ⟨rfl, d1, permIn_trans _ _ _ _ _ HPM.out HJ.out.1, HJ.out.2, HSt.out⟩
          · skip
            by_cases cr : mid < e ∧ e < b
            · have y1 : (mid : Int) < (e : Int) := by omega
              have y2 : (e : Int) < (b : Int) := by omega
              go_wp2_with fail
              all_goals
               refine (HIH.out mid e b d1 _ (by omega) HSt.out hzl (by omega) (by omega) (by omega) (sortedIn_out HST.out.2.2.1 HPL.out.1 (Or.inr (Nat.le_refl _))) (sortedIn_out HST.out.2.2.2.1 HPL.out.1 (Or.inr (by omega)))).mono ?_
               rintro e' Wr ⟨rfl, dr, pr, sr, hr⟩
               have HRR := Lib.hid (And.intro hr (sym_join swoS (by omega) (by omega) (by omega) HST.out.2.2.2.2 HPL.out.1 HPL.out.2 pr sr))
               clear hr pr sr
               go_wp2_with fail
               go_end0
               exact ⟨rfl, dr, permIn_trans _ _ _ _ _ HPM.out HRR.out.2.1, HRR.out.2.2, HRR.out.1⟩
            · have yy : ¬ (mid : Int) < (e : Int) ∨ ((mid : Int) < (e : Int) ∧ ¬ (e : Int) < (b : Int)) := by omega
              have HJ := Lib.hid (sym_join swoS (by omega) (by omega) (by omega) HST.out.2.2.2.2 HPL.out.1 HPL.out.2 (permIn_refl _ _ _) (show SortedIn ltS mid b d1 by
                rcases Nat.lt_or_ge mid e with h | h
                · have : e = b := by omega
                  have h2 := sortedIn_out HST.out.2.2.1 HPL.out.1 (Or.inr (Nat.le_refl _))
                  rw [this] at h2
                  exact h2
                · have : e = mid := by omega
                  have h2 := sortedIn_out HST.out.2.2.2.1 HPL.out.1 (Or.inr (by omega))
                  rw [this] at h2
                  exact h2))
              rcases yy with y1 | ⟨y1, y2⟩
              · go_wp2_with fail
                all_goals go_end0
                all_goals exact ⟨rfl, d1, permIn_trans _ _ _ _ _ HPM.out HJ.out.1, HJ.out.2, HSt.out⟩
              · go_wp2_with fail
                all_goals go_end0
                all_goals exact ⟨rfl, d1, permIn_trans _ _ _ _ _ HPM.out HJ.out.1, HJ.out.2, HSt.out⟩
      · have tt : ¬ (s : Int) < (m : Int) ∨ ((s : Int) < (m : Int) ∧ ¬ (m : Int) < (e : Int)) := by omega
        rcases tt with t1 | ⟨t1, t2⟩
        · skip
          have HST := Lib.hid (sym_step swoS (a := a) (m := m) (b := b) (mid := mid) (s := s) (e := e) (r0 := 0) (s0 := 0) (by omega) (by omega) (by omega) hamid hmidb (by omega) hme heb has hsm hsd HAB.out.1 HAB.out.2 HL2.out HR2.out rfl (rot_idle (by omega) hsm hme))
          have HPM := Lib.hid (permIn_mono _ _ _ _ _ _ has heb (by omega) (permIn_refl d s e))
          by_cases cl : a < s ∧ s < mid
          · have z1 : (a : Int) < (s : Int) := by omega
            have z2 : (s : Int) < (mid : Int) := by omega
            go_wp2_with fail
            refine (HIH.out a s mid d _ (by omega) HS.out (by omega) (by omega) (by omega) (by omega) HST.out.1 HST.out.2.1).mono ?_
            rintro e' Wl ⟨rfl, dl, pl, sl, hl⟩
            have HSl := Lib.hid hl
            have HPL := Lib.hid (And.intro pl sl)
            have hzl : dl.size = N := by rw [pl.1]; omega
            clear hl pl sl
            by_cases cr : mid < e ∧ e < b
            · have y1 : (mid : Int) < (e : Int) := by omega
              have y2 : (e : Int) < (b : Int) := by omega
              go_wp2_with fail
              all_goals
               refine (HIH.out mid e b dl _ (by omega) HSl.out hzl (by omega) (by omega) (by omega) (sortedIn_out HST.out.2.2.1 HPL.out.1 (Or.inr (Nat.le_refl _))) (sortedIn_out HST.out.2.2.2.1 HPL.out.1 (Or.inr (by omega)))).mono ?_
               rintro e' Wr ⟨rfl, dr, pr, sr, hr⟩
               have HRR := Lib.hid (And.intro hr (sym_join swoS (by omega) (by omega) (by omega) HST.out.2.2.2.2 HPL.out.1 HPL.out.2 pr sr))
               clear hr pr sr
               go_wp2_with fail
               go_end0
               exact ⟨rfl, dr, permIn_trans _ _ _ _ _ HPM.out HRR.out.2.1, HRR.out.2.2, HRR.out.1⟩
            · have yy : ¬ (mid : Int) < (e : Int) ∨ ((mid : Int) < (e : Int) ∧ ¬ (e : Int) < (b : Int)) := by omega
              have HJ := Lib.hid (sym_join swoS (by omega) (by omega) (by omega) HST.out.2.2.2.2 HPL.out.1 HPL.out.2 (permIn_refl _ _ _) (show SortedIn ltS mid b dl by
                rcases Nat.lt_or_ge mid e with h | h
                · have : e = b := by omega
                  have h2 := sortedIn_out HST.out.2.2.1 HPL.out.1 (Or.inr (Nat.le_refl _))
                  rw [this] at h2
                  exact h2
                · have : e = mid := by omega
                  have h2 := sortedIn_out HST.out.2.2.2.1 HPL.out.1 (Or.inr (by omega))
                  rw [this] at h2
                  exact h2))
              rcases yy with y1 | ⟨y1, y2⟩
              · go_wp2_with fail
                all_goals go_end0
                all_goals exact ⟨rfl, dl, permIn_trans _ _ _ _ _ HPM.out HJ.out.1, HJ.out.2, HSl.out⟩
              · go_wp2_with fail
                all_goals go_end0
                all_goals exact ⟨rfl, dl, permIn_trans _ _ _ _ _ HPM.out HJ.out.1, HJ.out.2, HSl.out⟩
          · have zz : ¬ (a : Int) < (s : Int) ∨ ((a : Int) < (s : Int) ∧ ¬ (s : Int) < (mid : Int)) := by omega
            have HPL := Lib.hid (show PermIn a mid d d ∧ SortedIn ltS a mid d from ⟨permIn_refl _ _ _, by
              rcases Nat.lt_or_ge a s with h | h
              · have : s = mid := by omega
                have h2 := HST.out.1
                rw [this] at h2
                exact h2
              · have : s = a := by omega
                have h2 := HST.out.2.1
                rw [this] at h2
                exact h2⟩)
            have hzl : d.size = N := by omega
            rcases zz with z1 | ⟨z1, z2⟩
            · skip
              by_cases cr : mid < e ∧ e < b
              · have y1 : (mid : Int) < (e : Int) := by omega
                have y2 : (e : Int) < (b : Int) := by omega
                go_wp2_with fail
                all_goals
                 refine (HIH.out mid e b d _ (by omega) HS.out hzl (by omega) (by omega) (by omega) (sortedIn_out HST.out.2.2.1 HPL.out.1 (Or.inr (Nat.le_refl _))) (sortedIn_out HST.out.2.2.2.1 HPL.out.1 (Or.inr (by omega)))).mono ?_
                 rintro e' Wr ⟨rfl, dr, pr, sr, hr⟩
                 have HRR := Lib.hid (And.intro hr (sym_join swoS (by omega) (by omega) (by omega) HST.out.2.2.2.2 HPL.out.1 HPL.out.2 pr sr))
                 clear hr pr sr
                 go_wp2_with fail
                 go_end0
                 exact ⟨rfl, dr, permIn_trans _ _ _ _ _ HPM.out HRR.out.2.1, HRR.out.2.2, HRR.out.1⟩
              · have yy : ¬ (mid : Int) < (e : Int) ∨ ((mid : Int) < (e : Int) ∧ ¬ (e : Int) < (b : Int)) := by omega
                have HJ := Lib.hid (sym_join swoS (by omega) (by omega) (by omega) HST.out.2.2.2.2 HPL.out.1 HPL.out.2 (permIn_refl _ _ _) (show SortedIn ltS mid b d by
                  rcases Nat.lt_or_ge mid e with h | h
                  · have : e = b := by omega
                    have h2 := sortedIn_out HST.out.2.2.1 HPL.out.1 (Or.inr (Nat.le_refl _))
                    rw [this] at h2
                    exact h2
                  · have : e = mid := by omega
                    have h2 := sortedIn_out HST.out.2.2.2.1 HPL.out.1 (Or.inr (by omega))
                    rw [this] at h2
                    exact h2))
                rcases yy with y1 | ⟨y1, y2⟩
                · go_wp2_with fail
                  all_goals go_end0
                  all_goals exact ⟨rfl, d, permIn_trans _ _ _ _ _ HPM.out HJ.out.1, HJ.out.2, HS.out⟩
                · go_wp2_with fail
                  all_goals go_end0
                  all_goals exact ⟨rfl, d, permIn_trans _ _ _ _ _ HPM.out HJ.out.1, HJ.out.2, HS.out⟩
            · skip
              by_cases cr : mid < e ∧ e < b
              · have y1 : (mid : Int) < (e : Int) := by omega
                have y2 : (e : Int) < (b : Int) := by omega
                go_wp2_with fail
                all_goals
                 refine (HIH.out mid e b d _ (by omega) HS.out hzl (by omega) (by omega) (by omega) (sortedIn_out HST.out.2.2.1 HPL.out.1 (Or.inr (Nat.le_refl _))) (sortedIn_out HST.out.2.2.2.1 HPL.out.1 (Or.inr (by omega)))).mono ?_
                 rintro e' Wr ⟨rfl, dr, pr, sr, hr⟩
                 have HRR := Lib.hid (And.intro hr (sym_join swoS (by omega) (by omega) (by omega) HST.out.2.2.2.2 HPL.out.1 HPL.out.2 pr sr))
                 clear hr pr sr
                 go_wp2_with fail
                 go_end0
                 exact ⟨rfl, dr, permIn_trans _ _ _ _ _ HPM.out HRR.out.2.1, HRR.out.2.2, HRR.out.1⟩
              · have yy : ¬ (mid : Int) < (e : Int) ∨ ((mid : Int) < (e : Int) ∧ ¬ (e : Int) < (b : Int)) := by omega
                have HJ := Lib.hid (sym_join swoS (by omega) (by omega) (by omega) HST.out.2.2.2.2 HPL.out.1 HPL.out.2 (permIn_refl _ _ _) (show SortedIn ltS mid b d by
                  rcases Nat.lt_or_ge mid e with h | h
                  · have : e = b := by omega
                    have h2 := sortedIn_out HST.out.2.2.1 HPL.out.1 (Or.inr (Nat.le_refl _))
                    rw [this] at h2
                    exact h2
                  · have : e = mid := by omega
                    have h2 := sortedIn_out HST.out.2.2.2.1 HPL.out.1 (Or.inr (by omega))
                    rw [this] at h2
                    exact h2))
                rcases yy with y1 | ⟨y1, y2⟩
                · go_wp2_with fail
                  all_goals go_end0
                  all_goals exact ⟨rfl, d, permIn_trans _ _ _ _ _ HPM.out HJ.out.1, HJ.out.2, HS.out⟩
                · go_wp2_with fail
                  all_goals go_end0
                  all_goals exact ⟨rfl, d, permIn_trans _ _ _ _ _ HPM.out HJ.out.1, HJ.out.2, HS.out⟩
        · skip
          have HST := Lib.hid (sym_step swoS (a := a) (m := m) (b := b) (mid := mid) (s := s) (e := e) (r0 := 0) (s0 := 0) (by omega) (by omega) (by omega) hamid hmidb (by omega) hme heb has hsm hsd HAB.out.1 HAB.out.2 HL2.out HR2.out rfl (rot_idle (by omega) hsm hme))
          have HPM := Lib.hid (permIn_mono _ _ _ _ _ _ has heb (by omega) (permIn_refl d s e))
          by_cases cl : a < s ∧ s < mid
          · have z1 : (a : Int) < (s : Int) := by omega
            have z2 : (s : Int) < (mid : Int) := by omega
            go_wp2_with fail
            refine (HIH.out a s mid d _ (by omega) HS.out (by omega) (by omega) (by omega) (by omega) HST.out.1 HST.out.2.1).mono ?_
            rintro e' Wl ⟨rfl, dl, pl, sl, hl⟩
            have HSl := Lib.hid hl
            have HPL := Lib.hid (And.intro pl sl)
            have hzl : dl.size = N := by rw [pl.1]; omega
            clear hl pl sl
            by_cases cr : mid < e ∧ e < b
            · have y1 : (mid : Int) < (e : Int) := by omega
              have y2 : (e : Int) < (b : Int) := by omega
              go_wp2_with fail
              all_goals
               refine (HIH.out mid e b dl _ (by omega) HSl.out hzl (by omega) (by omega) (by omega) (sortedIn_out HST.out.2.2.1 HPL.out.1 (Or.inr (Nat.le_refl _))) (sortedIn_out HST.out.2.2.2.1 HPL.out.1 (Or.inr (by omega)))).mono ?_
               rintro e' Wr ⟨rfl, dr, pr, sr, hr⟩
               have HRR := Lib.hid (And.intro hr (sym_join swoS (by omega) (by omega) (by omega) HST.out.2.2.2.2 HPL.out.1 HPL.out.2 pr sr))
               clear hr pr sr
               go_wp2_with fail
               go_end0
               exact ⟨rfl, dr, permIn_trans _ _ _ _ _ HPM.out HRR.out.2.1, HRR.out.2.2, HRR.out.1⟩
            · have yy : ¬ (mid : Int) < (e : Int) ∨ ((mid : Int) < (e : Int) ∧ ¬ (e : Int) < (b : Int)) := by omega
              have HJ := Lib.hid (sym_join swoS (by omega) (by omega) (by omega) HST.out.2.2.2.2 HPL.out.1 HPL.out.2 (permIn_refl _ _ _) (show SortedIn ltS mid b dl by
                rcases Nat.lt_or_ge mid e with h | h
                · have : e = b := by omega
                  have h2 := sortedIn_out HST.out.2.2.1 HPL.out.1 (Or.inr (Nat.le_refl _))
                  rw [this] at h2
                  exact h2
                · have : e = mid := by omega
                  have h2 := sortedIn_out HST.out.2.2.2.1 HPL.out.1 (Or.inr (by omega))
                  rw [this] at h2
                  exact h2))
              rcases yy with y1 | ⟨y1, y2⟩
              · go_wp2_with fail
                all_goals go_end0
                all_goals exact ⟨rfl, dl, permIn_trans _ _ _ _ _ HPM.out HJ.out.1, HJ.out.2, HSl.out⟩
              · go_wp2_with fail
                all_goals go_end0
                all_goals exact ⟨rfl, dl, permIn_trans _ _ _ _ _ HPM.out HJ.out.1, HJ.out.2, HSl.out⟩
          · have zz : ¬ (a : Int) < (s : Int) ∨ ((a : Int) < (s : Int) ∧ ¬ (s : Int) < (mid : Int)) := by omega
            have HPL := Lib.hid (show PermIn a mid d d ∧ SortedIn ltS a mid d from ⟨permIn_refl _ _ _, by
              rcases Nat.lt_or_ge a s with h | h
              · have : s = mid := by omega
                have h2 := HST.out.1
                rw [this] at h2
                exact h2
              · have : s = a := by omega
                have h2 := HST.out.2.1
                rw [this] at h2
                exact h2⟩)
            have hzl : d.size = N := by omega
            rcases zz with z1 | ⟨z1, z2⟩
            · skip
              by_cases cr : mid < e ∧ e < b
              · have y1 : (mid : Int) < (e : Int) := by omega
                have y2 : (e : Int) < (b : Int) := by omega
                go_wp2_with fail
                all_goals
                 refine (HIH.out mid e b d _ (by omega) HS.out hzl (by omega) (by omega) (by omega) (sortedIn_out HST.out.2.2.1 HPL.out.1 (Or.inr (Nat.le_refl _))) (sortedIn_out HST.out.2.2.2.1 HPL.out.1 (Or.inr (by omega)))).mono ?_
                 rintro e' Wr ⟨rfl, dr, pr, sr, hr⟩
                 have HRR := Lib.hid (And.intro hr (sym_join swoS (by omega) (by omega) (by omega) HST.out.2.2.2.2 HPL.out.1 HPL.out.2 pr sr))
                 clear hr pr sr
                 go_wp2_with fail
                 go_end0
                 exact ⟨rfl, dr, permIn_trans _ _ _ _ _ HPM.out HRR.out.2.1, HRR.out.2.2, HRR.out.1⟩
              · have yy : ¬ (mid : Int) < (e : Int) ∨ ((mid : Int) < (e : Int) ∧ ¬ (e : Int) < (b : Int)) := by omega
                have HJ := Lib.hid (sym_join swoS (by omega) (by omega) (by omega) HST.out.2.2.2.2 HPL.out.1 HPL.out.2 (permIn_refl _ _ _) (show SortedIn ltS mid b d by
                  rcases Nat.lt_or_ge mid e with h | h
                  · have : e = b := by omega
                    have h2 := sortedIn_out HST.out.2.2.1 HPL.out.1 (Or.inr (Nat.le_refl _))
                    rw [this] at h2
                    exact h2
                  · have : e = mid := by omega
                    have h2 := sortedIn_out HST.out.2.2.2.1 HPL.out.1 (Or.inr (by omega))
                    rw [this] at h2
                    exact h2))
                rcases yy with y1 | ⟨y1, y2⟩
                · go_wp2_with fail
                  all_goals go_end0
                  all_goals exact ⟨rfl, d, permIn_trans _ _ _ _ _ HPM.out HJ.out.1, HJ.out.2, HS.out⟩
                · go_wp2_with fail
                  all_goals go_end0
                  all_goals exact ⟨rfl, d, permIn_trans _ _ _ _ _ HPM.out HJ.out.1, HJ.out.2, HS.out⟩
            · skip
              by_cases cr : mid < e ∧ e < b
              · have y1 : (mid : Int) < (e : Int) := by omega
                have y2 : (e : Int) < (b : Int) := by omega
                go_wp2_with fail
                all_goals
                 refine (HIH.out mid e b d _ (by omega) HS.out hzl (by omega) (by omega) (by omega) (sortedIn_out HST.out.2.2.1 HPL.out.1 (Or.inr (Nat.le_refl _))) (sortedIn_out HST.out.2.2.2.1 HPL.out.1 (Or.inr (by omega)))).mono ?_
                 rintro e' Wr ⟨rfl, dr, pr, sr, hr⟩
                 have HRR := Lib.hid (And.intro hr (sym_join swoS (by omega) (by omega) (by omega) HST.out.2.2.2.2 HPL.out.1 HPL.out.2 pr sr))
                 clear hr pr sr
                 go_wp2_with fail
                 go_end0
                 exact ⟨rfl, dr, permIn_trans _ _ _ _ _ HPM.out HRR.out.2.1, HRR.out.2.2, HRR.out.1⟩
              · have yy : ¬ (mid : Int) < (e : Int) ∨ ((mid : Int) < (e : Int) ∧ ¬ (e : Int) < (b : Int)) := by omega
                have HJ := Lib.hid (sym_join swoS (by omega) (by omega) (by omega) HST.out.2.2.2.2 HPL.out.1 HPL.out.2 (permIn_refl _ _ _) (show SortedIn ltS mid b d by
                  rcases Nat.lt_or_ge mid e with h | h
                  · have : e = b := by omega
                    have h2 := sortedIn_out HST.out.2.2.1 HPL.out.1 (Or.inr (Nat.le_refl _))
                    rw [this] at h2
                    exact h2
                  · have : e = mid := by omega
                    have h2 := sortedIn_out HST.out.2.2.2.1 HPL.out.1 (Or.inr (by omega))
                    rw [this] at h2
                    exact h2))
                rcases yy with y1 | ⟨y1, y2⟩
                · go_wp2_with fail
                  all_goals go_end0
                  all_goals exact ⟨rfl, d, permIn_trans _ _ _ _ _ HPM.out HJ.out.1, HJ.out.2, HS.out⟩
                · go_wp2_with fail
                  all_goals go_end0
                  all_goals exact ⟨rfl, d, permIn_trans _ _ _ _ _ HPM.out HJ.out.1, HJ.out.2, HS.out⟩
end Go.Proofs.Ytpgkdpoehkdhcaa
