/- insertionSort at order.spot: the walk. -/
import Derived.Test.YtpgkdpoehkdhcaaSw
import Derived.Test.YtpgkdpoehkdhcaaLoad
import Derived.Deep.LoopGhost
namespace Go.Proofs.Ytpgkdpoehkdhcaa
open Go.RowKit Go.Sort
attribute [local go_sem] opv opnd
set_option maxHeartbeats 40000000
set_option linter.unusedVariables false
set_option linter.unusedSimpArgs false
set_option maxRecDepth 1000000
theorem ins_go {a jp : Nat} {d : Array Spot} (h : a < jp + 1) (hl : ltS d[jp + 1]! d[jp]! = true) : insInner ltS a (jp + 1) d = insInner ltS a jp (swp d (jp + 1) jp) := by
  rw [insInner, if_pos (by simp [hl]; omega)]
theorem ins_stop {a jp : Nat} {d : Array Spot} (hl : ltS d[jp + 1]! d[jp]! = false) : insInner ltS a (jp + 1) d = d := by
  rw [insInner, if_neg (by simp [hl])]
theorem ins_end {a : Nat} {d : Array Spot} : insInner ltS a a d = d := by
  cases a with
  | zero => rfl
  | succ a => rw [insInner, if_neg (by simp)]
theorem out_go {a b i : Nat} {d : Array Spot} (h : i < b) : insOuter ltS a b i d = insOuter ltS a b (i + 1) (insInner ltS a i d) := by rw [insOuter, if_pos h]
theorem out_stop {a b i : Nat} {d : Array Spot} (h : ¬ i < b) : insOuter ltS a b i d = d := by rw [insOuter, if_neg h]
theorem wrap_add1 {a c : Nat} (h : a + 1 = c) (hc : c ≤ 9223372036854775807) : IntKind.i64.wrap ((a : Int) + 1) = (c : Int) := by
  rw [IntKind.wrap_i64]; omega
theorem wrap_sub1 {a c : Nat} (h : c + 1 = a) (hc : a ≤ 9223372036854775807) : IntKind.i64.wrap ((a : Int) - 1) = (c : Int) := by
  rw [IntKind.wrap_i64]; omega
theorem ins_size (a : Nat) : ∀ (j : Nat) (d : Array Spot), (insInner ltS a j d).size = d.size
  | 0, d => rfl
  | j + 1, d => by
    rw [insInner]
    split
    · rw [ins_size a j, size_swp]
    · rfl
/-- what is asked of cmp -/
def CmpAt (x y : Spot) : Prop := ∀ W : World, Calls Try.prog 30 #[.agg (spotL x).toArray, .agg (spotL y).toArray] W fun e w' => e = .returned (.int .i64 (cfS x y)) ∧ Below W.heap.size W w'
theorem insertion_any (w0 : World) (base g c N : Nat) (a b : Nat) (d : Array Spot) (W : World) (HC : ∀ x y, CmpAt x y) (S : SW w0 base g c d W) (hN : d.size = N) (h1 : a ≤ b) (h2 : b ≤ N) (hz : N ≤ 1099511627776) :
    Calls Try.prog 57 #[.slice (some ⟨g, 0, none⟩) N c, .int .i64 a, .int .i64 b, .func (.func 30) #[] #[]] W fun e w' => e = .returned (.tuple #[]) ∧ SW w0 base g c (insertionSort ltS d a b) w' := by
  have HS0 := Lib.hid S
  have HCM := Lib.hid HC
  clear S HC
  go_enter Try.func57, Try.ntmps57
  have W0 := wrap_add1 (a := a) (c := a + 1) rfl (by omega)
  go_wp2
  clear W0
  go_loopg [8] (b - a) (fun kx s8 wr => ∃ (i : Nat) (dk : Array Spot), s8 = .int .i64 (i : Int) ∧ a < i ∧ i ≤ b + 1 ∧ b + 1 - i ≤ kx + 1 ∧ dk.size = N ∧ Hid (SW w0 base g c dk wr) ∧ Hid (insOuter ltS a b i dk = insOuter ltS a b (a + 1) d))
  case atStart => exact ⟨a + 1, d, by go_num, by omega, by omega, by omega, hN, HS0, Lib.hid rfl⟩
  case round =>
    clear HS0
    obtain ⟨i, dk, rfl, b1, b2, hk, hs, HS, HO⟩ := hrel
    by_cases hlt : i < b
    · have hltz : (i : Int) < (b : Int) := by omega
      have W0 := wrap_add1 (a := i) (c := i + 1) rfl (by omega)
      go_wp2
      go_loopg [9] i (fun ky s9 wr2 => ∃ (j : Nat) (dj : Array Spot), s9 = .int .i64 (j : Int) ∧ a ≤ j ∧ j ≤ i ∧ j ≤ ky ∧ dj.size = N ∧ Hid (SW w0 base g c dj wr2) ∧ Hid (insInner ltS a j dj = insInner ltS a i dk))
      case atStart => exact ⟨i, dk, rfl, by omega, Nat.le_refl _, Nat.le_refl _, hs, HS, Lib.hid rfl⟩
      case round =>
        clear HS
        obtain ⟨j, dj, rfl, c1, c2, hk2, hsj, HS, HI⟩ := hrel
        by_cases hja : a < j
        · have hjaz : (a : Int) < (j : Int) := by omega
          obtain ⟨jp, hjp⟩ : ∃ z, z + 1 = j := ⟨j - 1, by omega⟩
          have WJ := Lib.hid (wrap_sub1 hjp (by omega))
          have lt_j : j < dj.size := by omega
          have lt_jp : jp < dj.size := by omega
          obtain ⟨xj, hxj⟩ : ∃ z, dj[j]! = z := ⟨_, rfl⟩
          have LD_j : ∀ U : World, SW w0 base g c dj U → (loadCells ⟨g, j * 12, none⟩ 12).run Try.prog U = .ok (spotL xj).toArray U := fun U h => by rw [← hxj]; exact h.load _ lt_j
          obtain ⟨xp, hxp⟩ : ∃ z, dj[jp]! = z := ⟨_, rfl⟩
          have LD_jp : ∀ U : World, SW w0 base g c dj U → (loadCells ⟨g, jp * 12, none⟩ 12).run Try.prog U = .ok (spotL xp).toArray U := fun U h => by rw [← hxp]; exact h.load _ lt_jp
          obtain ⟨r, hr⟩ : ∃ r, cfS xj xp = r := ⟨_, rfl⟩
          have HCR := Lib.hid (fun V : World => hr ▸ HCM.out xj xp V)
          have HE := Lib.hid (And.intro hxj hxp)
          clear hxj hxp
          have la : j < N := by omega
          have lb : jp < N := by omega
          go_wp2_with fail
          refine last_cut (by kernel_rfl) (fun U => SW w0 base g c dj U) (fun aF a' W' => a' = (((((((((((((((((aF.put (some 18) (.int .i64 (j : Int))).put (some 19) (.int .i64 (a : Int))).put (some 20) (.bool true)).put (some 21) (.bool true)).put (some 22) (.func (.func 30) #[] #[])).put (some 23) (.slice (some ⟨g, 0, none⟩) N c)).put (some 24) (.int .i64 (j : Int))).put (some 25) (.pointer (some ⟨g, j * 12, none⟩))).put (some 26) (.agg (spotL xj).toArray)).put (some 27) (.slice (some ⟨g, 0, none⟩) N c)).put (some 28) (.int .i64 (j : Int))).put (some 29) (.int .i64 (jp : Int))).put (some 30) (.pointer (some ⟨g, jp * 12, none⟩))).put (some 31) (.agg (spotL xp).toArray)).put (some 32) (.int .i64 r)).put (some 33) (.bool (decide (r < 0)))).put (some 34) (.bool (decide (r < 0)))) ∧ SW w0 base g c dj W') (HS.out.drew) (fun hS => ?_) ?_
          · skip
            have hSB : ∀ U : World, Below (wr.heap.size) wr U → SW w0 base g c dj U := fun U h => ((HS.out).below h)
            have bV : Below wr.heap.size wr wr.drew := (Below.refl _ _).drew
            generalize wr.drew = V0 at *
            change wpAnyL _ _ _ _ _ 17 #[false, false, false, false, false, false, false, false, false, false, false, false, false, false, false, false, false] _ _
            refine wpAnyL_take (i := 0) (v := .int .i64 (j : Int)) (by simp only [List.getElem?_toArray, List.getElem?_cons_succ, List.getElem?_cons_zero]; rfl) (by as_aux_lemma => kernel_rfl) (by as_aux_lemma => kernel_rfl) (by as_aux_lemma => kernel_rfl) (fun _ _ _ h => h) (Or.inl ⟨by rfl, ?_⟩) hS ?_
            · intro U hU
              have s0 := hU
              show _ = _
              kernel_rfl
            simp only [Act.put, List.setIfInBounds_toArray, List.set_cons_zero, List.set_cons_succ]
            refine wpAnyL_take (i := 1) (v := .int .i64 (a : Int)) (by simp only [List.getElem?_toArray, List.getElem?_cons_succ, List.getElem?_cons_zero]; rfl) (by as_aux_lemma => kernel_rfl) (by as_aux_lemma => kernel_rfl) (by as_aux_lemma => kernel_rfl) (fun _ _ _ h => h) (Or.inl ⟨by rfl, ?_⟩) hS ?_
            · intro U hU
              have s0 := hU
              show _ = _
              kernel_rfl
            simp only [Act.put, List.setIfInBounds_toArray, List.set_cons_zero, List.set_cons_succ]
            refine wpAnyL_take (i := 2) (v := .bool true) (by simp only [List.getElem?_toArray, List.getElem?_cons_succ, List.getElem?_cons_zero]; rfl) (by as_aux_lemma => kernel_rfl) (by as_aux_lemma => kernel_rfl) (by as_aux_lemma => kernel_rfl) (fun _ _ _ h => h) (Or.inl ⟨by rfl, ?_⟩) hS ?_
            · intro U hU
              have s0 := hU
              show _ = _
              go_simp
            simp only [Act.put, List.setIfInBounds_toArray, List.set_cons_zero, List.set_cons_succ]
            refine wpAnyL_take (i := 3) (v := .bool true) (by simp only [List.getElem?_toArray, List.getElem?_cons_succ, List.getElem?_cons_zero]; rfl) (by as_aux_lemma => kernel_rfl) (by as_aux_lemma => kernel_rfl) (by as_aux_lemma => kernel_rfl) (fun _ _ _ h => h) (Or.inl ⟨by rfl, ?_⟩) hS ?_
            · intro U hU
              have s0 := hU
              show _ = _
              kernel_rfl
            simp only [Act.put, List.setIfInBounds_toArray, List.set_cons_zero, List.set_cons_succ]
            refine wpAnyL_take (i := 4) (v := .func (.func 30) #[] #[]) (by simp only [List.getElem?_toArray, List.getElem?_cons_succ, List.getElem?_cons_zero]; rfl) (by as_aux_lemma => kernel_rfl) (by as_aux_lemma => kernel_rfl) (by as_aux_lemma => kernel_rfl) (fun _ _ _ h => h) (Or.inl ⟨by rfl, ?_⟩) hS ?_
            · intro U hU
              have s0 := hU
              show _ = _
              kernel_rfl
            simp only [Act.put, List.setIfInBounds_toArray, List.set_cons_zero, List.set_cons_succ]
            refine wpAnyL_take (i := 5) (v := .slice (some ⟨g, 0, none⟩) N c) (by simp only [List.getElem?_toArray, List.getElem?_cons_succ, List.getElem?_cons_zero]; rfl) (by as_aux_lemma => kernel_rfl) (by as_aux_lemma => kernel_rfl) (by as_aux_lemma => kernel_rfl) (fun _ _ _ h => h) (Or.inl ⟨by rfl, ?_⟩) hS ?_
            · intro U hU
              have s0 := hU
              show _ = _
              kernel_rfl
            simp only [Act.put, List.setIfInBounds_toArray, List.set_cons_zero, List.set_cons_succ]
            refine wpAnyL_take (i := 6) (v := .int .i64 (j : Int)) (by simp only [List.getElem?_toArray, List.getElem?_cons_succ, List.getElem?_cons_zero]; rfl) (by as_aux_lemma => kernel_rfl) (by as_aux_lemma => kernel_rfl) (by as_aux_lemma => kernel_rfl) (fun _ _ _ h => h) (Or.inl ⟨by rfl, ?_⟩) hS ?_
            · intro U hU
              have s0 := hU
              show _ = _
              kernel_rfl
            simp only [Act.put, List.setIfInBounds_toArray, List.set_cons_zero, List.set_cons_succ]
            refine wpAnyL_take (i := 7) (v := .pointer (some ⟨g, j * 12, none⟩)) (by simp only [List.getElem?_toArray, List.getElem?_cons_succ, List.getElem?_cons_zero]; rfl) (by as_aux_lemma => kernel_rfl) (by as_aux_lemma => kernel_rfl) (by as_aux_lemma => kernel_rfl) (fun _ _ _ h => h) (Or.inl ⟨by rfl, ?_⟩) hS ?_
            · intro U hU
              have s0 := hU
              show _ = _
              go_simp
            simp only [Act.put, List.setIfInBounds_toArray, List.set_cons_zero, List.set_cons_succ]
            refine wpAnyL_take (i := 8) (v := .agg (spotL xj).toArray) (by simp only [List.getElem?_toArray, List.getElem?_cons_succ, List.getElem?_cons_zero]; rfl) (by as_aux_lemma => kernel_rfl) (by as_aux_lemma => kernel_rfl) (by as_aux_lemma => kernel_rfl) (fun _ _ _ h => h) (Or.inl ⟨by rfl, ?_⟩) hS ?_
            · intro U hU
              have s0 := hU
              show _ = _
              exact exec_loadK rfl rfl (by kernel_rfl) (by kernel_rfl) (LD_j _ s0)
            simp only [Act.put, List.setIfInBounds_toArray, List.set_cons_zero, List.set_cons_succ]
            refine wpAnyL_take (i := 9) (v := .slice (some ⟨g, 0, none⟩) N c) (by simp only [List.getElem?_toArray, List.getElem?_cons_succ, List.getElem?_cons_zero]; rfl) (by as_aux_lemma => kernel_rfl) (by as_aux_lemma => kernel_rfl) (by as_aux_lemma => kernel_rfl) (fun _ _ _ h => h) (Or.inl ⟨by rfl, ?_⟩) hS ?_
            · intro U hU
              have s0 := hU
              show _ = _
              kernel_rfl
            simp only [Act.put, List.setIfInBounds_toArray, List.set_cons_zero, List.set_cons_succ]
            refine wpAnyL_take (i := 10) (v := .int .i64 (j : Int)) (by simp only [List.getElem?_toArray, List.getElem?_cons_succ, List.getElem?_cons_zero]; rfl) (by as_aux_lemma => kernel_rfl) (by as_aux_lemma => kernel_rfl) (by as_aux_lemma => kernel_rfl) (fun _ _ _ h => h) (Or.inl ⟨by rfl, ?_⟩) hS ?_
            · intro U hU
              have s0 := hU
              show _ = _
              kernel_rfl
            simp only [Act.put, List.setIfInBounds_toArray, List.set_cons_zero, List.set_cons_succ]
            refine wpAnyL_take (i := 11) (v := .int .i64 (jp : Int)) (by simp only [List.getElem?_toArray, List.getElem?_cons_succ, List.getElem?_cons_zero]; rfl) (by as_aux_lemma => kernel_rfl) (by as_aux_lemma => kernel_rfl) (by as_aux_lemma => kernel_rfl) (fun _ _ _ h => h) (Or.inl ⟨by rfl, ?_⟩) hS ?_
            · intro U hU
              have s0 := hU
              show _ = _
              have hz := WJ.out
              go_simp
            simp only [Act.put, List.setIfInBounds_toArray, List.set_cons_zero, List.set_cons_succ]
            refine wpAnyL_take (i := 12) (v := .pointer (some ⟨g, jp * 12, none⟩)) (by simp only [List.getElem?_toArray, List.getElem?_cons_succ, List.getElem?_cons_zero]; rfl) (by as_aux_lemma => kernel_rfl) (by as_aux_lemma => kernel_rfl) (by as_aux_lemma => kernel_rfl) (fun _ _ _ h => h) (Or.inl ⟨by rfl, ?_⟩) hS ?_
            · intro U hU
              have s0 := hU
              show _ = _
              go_simp
            simp only [Act.put, List.setIfInBounds_toArray, List.set_cons_zero, List.set_cons_succ]
            refine wpAnyL_take (i := 13) (v := .agg (spotL xp).toArray) (by simp only [List.getElem?_toArray, List.getElem?_cons_succ, List.getElem?_cons_zero]; rfl) (by as_aux_lemma => kernel_rfl) (by as_aux_lemma => kernel_rfl) (by as_aux_lemma => kernel_rfl) (fun _ _ _ h => h) (Or.inl ⟨by rfl, ?_⟩) hS ?_
            · intro U hU
              have s0 := hU
              show _ = _
              exact exec_loadK rfl rfl (by kernel_rfl) (by kernel_rfl) (LD_jp _ s0)
            simp only [Act.put, List.setIfInBounds_toArray, List.set_cons_zero, List.set_cons_succ]
            refine wpAnyL_ready (rs := [14]) (by as_aux_lemma => kernel_rfl) (by simp) ?_
            refine AllReadyL.cons (by simp only [List.getElem?_toArray, List.getElem?_cons_succ, List.getElem?_cons_zero]; rfl) (fun K' hK' => ?_) AllReadyL.nil
            go_simp
            go_at_call 30
            refine (HCR.out _).mono ?_
            rintro e' U14 ⟨rfl, hb14⟩
            have b14 := below_trans bV hb14
            have hS := hSB _ b14
            dsimp only
            refine hK'.out _ _ hS (fun _ => ?_)
            clear hb14
            clear hK' K'
            try simp only [Act.put, List.setIfInBounds_toArray, List.set_cons_zero, List.set_cons_succ]
            refine wpAnyL_take (i := 15) (v := .bool (decide (r < 0))) (by simp only [List.getElem?_toArray, List.getElem?_cons_succ, List.getElem?_cons_zero]; rfl) (by as_aux_lemma => kernel_rfl) (by as_aux_lemma => kernel_rfl) (by as_aux_lemma => kernel_rfl) (fun _ _ _ h => h) (Or.inl ⟨by rfl, ?_⟩) hS ?_
            · intro U hU
              have s0 := hU
              show _ = _
              go_simp
            simp only [Act.put, List.setIfInBounds_toArray, List.set_cons_zero, List.set_cons_succ]
            refine wpAnyL_take (i := 16) (v := .bool (decide (r < 0))) (by simp only [List.getElem?_toArray, List.getElem?_cons_succ, List.getElem?_cons_zero]; rfl) (by as_aux_lemma => kernel_rfl) (by as_aux_lemma => kernel_rfl) (by as_aux_lemma => kernel_rfl) (fun _ _ _ h => h) (Or.inl ⟨by rfl, ?_⟩) hS ?_
            · intro U hU
              have s0 := hU
              show _ = _
              kernel_rfl
            simp only [Act.put, List.setIfInBounds_toArray, List.set_cons_zero, List.set_cons_succ]
            refine wpAnyL_done (by as_aux_lemma => kernel_rfl) ?_ _
            simp only [OnlyN]
            refine ⟨?_, hS⟩
            (try simp only [Act.put, List.setIfInBounds_toArray, List.set_cons_zero, List.set_cons_succ])
          rintro a' W4 ⟨rfl, h4⟩
          simp only [Act.put, List.setIfInBounds_toArray, List.set_cons_zero, List.set_cons_succ]
          have HS4 := Lib.hid h4
          clear h4 HS HCR LD_j LD_jp
          by_cases hrn : r < 0
          · have hd : decide (r < 0) = true := decide_eq_true hrn
            rw [hd]
            go_wp2_with fail
            refine last_cut (by kernel_rfl) (fun U => True) (fun aF a' W' => a' = ((((((((((((((((aF.put (some 37) (.slice (some ⟨g, 0, none⟩) N c)).put (some 38) (.int .i64 (j : Int))).put (some 39) (.slice (some ⟨g, 0, none⟩) N c)).put (some 40) (.int .i64 (j : Int))).put (some 41) (.int .i64 (jp : Int))).put (some 42) (.slice (some ⟨g, 0, none⟩) N c)).put (some 43) (.int .i64 (j : Int))).put (some 44) (.int .i64 (jp : Int))).put (some 45) (.pointer (some ⟨g, jp * 12, none⟩))).put (some 46) (.agg (spotL dj[jp]!).toArray)).put (some 47) (.slice (some ⟨g, 0, none⟩) N c)).put (some 48) (.int .i64 (j : Int))).put (some 49) (.pointer (some ⟨g, j * 12, none⟩))).put (some 50) (.agg (spotL dj[j]!).toArray)).put (some 51) (.pointer (some ⟨g, j * 12, none⟩))).put (some 52) (.pointer (some ⟨g, jp * 12, none⟩))) ∧ SW w0 base g c (swp dj j jp) W') trivial (fun hS => ?_) ?_
            · skip
              have hSB : ∀ U : World, Below (0) W4 U → True := fun _ _ => trivial
              have bV : Below W4.heap.size W4 W4.drew := (Below.refl _ _).drew
              have SV : SW w0 base g c dj W4.drew := (HS4.out).drew
              generalize W4.drew = V0 at *
              change wpAnyL _ _ _ _ _ 18 #[false, false, false, false, false, false, false, false, false, false, false, false, false, false, false, false, false, false] _ _
              refine wpAnyL_take (i := 0) (v := .slice (some ⟨g, 0, none⟩) N c) (by simp only [List.getElem?_toArray, List.getElem?_cons_succ, List.getElem?_cons_zero]; rfl) (by as_aux_lemma => kernel_rfl) (by as_aux_lemma => kernel_rfl) (by as_aux_lemma => kernel_rfl) (fun _ _ _ h => h) (Or.inl ⟨by rfl, ?_⟩) hS ?_
              · intro U hU
                show _ = _
                kernel_rfl
              simp only [Act.put, List.setIfInBounds_toArray, List.set_cons_zero, List.set_cons_succ]
              refine wpAnyL_take (i := 1) (v := .int .i64 (j : Int)) (by simp only [List.getElem?_toArray, List.getElem?_cons_succ, List.getElem?_cons_zero]; rfl) (by as_aux_lemma => kernel_rfl) (by as_aux_lemma => kernel_rfl) (by as_aux_lemma => kernel_rfl) (fun _ _ _ h => h) (Or.inl ⟨by rfl, ?_⟩) hS ?_
              · intro U hU
                show _ = _
                kernel_rfl
              simp only [Act.put, List.setIfInBounds_toArray, List.set_cons_zero, List.set_cons_succ]
              refine wpAnyL_take (i := 2) (v := .slice (some ⟨g, 0, none⟩) N c) (by simp only [List.getElem?_toArray, List.getElem?_cons_succ, List.getElem?_cons_zero]; rfl) (by as_aux_lemma => kernel_rfl) (by as_aux_lemma => kernel_rfl) (by as_aux_lemma => kernel_rfl) (fun _ _ _ h => h) (Or.inl ⟨by rfl, ?_⟩) hS ?_
              · intro U hU
                show _ = _
                kernel_rfl
              simp only [Act.put, List.setIfInBounds_toArray, List.set_cons_zero, List.set_cons_succ]
              refine wpAnyL_take (i := 3) (v := .int .i64 (j : Int)) (by simp only [List.getElem?_toArray, List.getElem?_cons_succ, List.getElem?_cons_zero]; rfl) (by as_aux_lemma => kernel_rfl) (by as_aux_lemma => kernel_rfl) (by as_aux_lemma => kernel_rfl) (fun _ _ _ h => h) (Or.inl ⟨by rfl, ?_⟩) hS ?_
              · intro U hU
                show _ = _
                kernel_rfl
              simp only [Act.put, List.setIfInBounds_toArray, List.set_cons_zero, List.set_cons_succ]
              refine wpAnyL_take (i := 4) (v := .int .i64 (jp : Int)) (by simp only [List.getElem?_toArray, List.getElem?_cons_succ, List.getElem?_cons_zero]; rfl) (by as_aux_lemma => kernel_rfl) (by as_aux_lemma => kernel_rfl) (by as_aux_lemma => kernel_rfl) (fun _ _ _ h => h) (Or.inl ⟨by rfl, ?_⟩) hS ?_
              · intro U hU
                show _ = _
                have hz := WJ.out
                go_simp
              simp only [Act.put, List.setIfInBounds_toArray, List.set_cons_zero, List.set_cons_succ]
              refine wpAnyL_take (i := 5) (v := .slice (some ⟨g, 0, none⟩) N c) (by simp only [List.getElem?_toArray, List.getElem?_cons_succ, List.getElem?_cons_zero]; rfl) (by as_aux_lemma => kernel_rfl) (by as_aux_lemma => kernel_rfl) (by as_aux_lemma => kernel_rfl) (fun _ _ _ h => h) (Or.inl ⟨by rfl, ?_⟩) hS ?_
              · intro U hU
                show _ = _
                kernel_rfl
              simp only [Act.put, List.setIfInBounds_toArray, List.set_cons_zero, List.set_cons_succ]
              refine wpAnyL_take (i := 6) (v := .int .i64 (j : Int)) (by simp only [List.getElem?_toArray, List.getElem?_cons_succ, List.getElem?_cons_zero]; rfl) (by as_aux_lemma => kernel_rfl) (by as_aux_lemma => kernel_rfl) (by as_aux_lemma => kernel_rfl) (fun _ _ _ h => h) (Or.inl ⟨by rfl, ?_⟩) hS ?_
              · intro U hU
                show _ = _
                kernel_rfl
              simp only [Act.put, List.setIfInBounds_toArray, List.set_cons_zero, List.set_cons_succ]
              refine wpAnyL_take (i := 7) (v := .int .i64 (jp : Int)) (by simp only [List.getElem?_toArray, List.getElem?_cons_succ, List.getElem?_cons_zero]; rfl) (by as_aux_lemma => kernel_rfl) (by as_aux_lemma => kernel_rfl) (by as_aux_lemma => kernel_rfl) (fun _ _ _ h => h) (Or.inl ⟨by rfl, ?_⟩) hS ?_
              · intro U hU
                show _ = _
                have hz := WJ.out
                go_simp
              simp only [Act.put, List.setIfInBounds_toArray, List.set_cons_zero, List.set_cons_succ]
              refine wpAnyL_take (i := 8) (v := .pointer (some ⟨g, jp * 12, none⟩)) (by simp only [List.getElem?_toArray, List.getElem?_cons_succ, List.getElem?_cons_zero]; rfl) (by as_aux_lemma => kernel_rfl) (by as_aux_lemma => kernel_rfl) (by as_aux_lemma => kernel_rfl) (fun _ _ _ h => h) (Or.inl ⟨by rfl, ?_⟩) hS ?_
              · intro U hU
                show _ = _
                go_simp
              simp only [Act.put, List.setIfInBounds_toArray, List.set_cons_zero, List.set_cons_succ]
              refine wpAnyL_take (i := 10) (v := .slice (some ⟨g, 0, none⟩) N c) (by simp only [List.getElem?_toArray, List.getElem?_cons_succ, List.getElem?_cons_zero]; rfl) (by as_aux_lemma => kernel_rfl) (by as_aux_lemma => kernel_rfl) (by as_aux_lemma => kernel_rfl) (fun _ _ _ h => h) (Or.inl ⟨by rfl, ?_⟩) hS ?_
              · intro U hU
                show _ = _
                kernel_rfl
              simp only [Act.put, List.setIfInBounds_toArray, List.set_cons_zero, List.set_cons_succ]
              refine wpAnyL_take (i := 11) (v := .int .i64 (j : Int)) (by simp only [List.getElem?_toArray, List.getElem?_cons_succ, List.getElem?_cons_zero]; rfl) (by as_aux_lemma => kernel_rfl) (by as_aux_lemma => kernel_rfl) (by as_aux_lemma => kernel_rfl) (fun _ _ _ h => h) (Or.inl ⟨by rfl, ?_⟩) hS ?_
              · intro U hU
                show _ = _
                kernel_rfl
              simp only [Act.put, List.setIfInBounds_toArray, List.set_cons_zero, List.set_cons_succ]
              refine wpAnyL_take (i := 12) (v := .pointer (some ⟨g, j * 12, none⟩)) (by simp only [List.getElem?_toArray, List.getElem?_cons_succ, List.getElem?_cons_zero]; rfl) (by as_aux_lemma => kernel_rfl) (by as_aux_lemma => kernel_rfl) (by as_aux_lemma => kernel_rfl) (fun _ _ _ h => h) (Or.inl ⟨by rfl, ?_⟩) hS ?_
              · intro U hU
                show _ = _
                go_simp
              simp only [Act.put, List.setIfInBounds_toArray, List.set_cons_zero, List.set_cons_succ]
              refine wpAnyL_ready (rs := [9, 13]) (by as_aux_lemma => kernel_rfl) (by simp) ?_
              refine AllReadyL.cons (by simp only [List.getElem?_toArray, List.getElem?_cons_succ, List.getElem?_cons_zero]; rfl) (fun K' hK' => ?_) (AllReadyL.cons (by simp only [List.getElem?_toArray, List.getElem?_cons_succ, List.getElem?_cons_zero]; rfl) (fun K' hK' => ?_) AllReadyL.nil)
              · refine step_loadK rfl rfl rfl (by kernel_rfl) (by kernel_rfl) (SV.load _ lt_jp) ?_
                refine hK'.out _ _ hS (fun _ => ?_)
                clear hK' K'
                try simp only [Act.put, List.setIfInBounds_toArray, List.set_cons_zero, List.set_cons_succ]
                refine wpAnyL_ready (rs := [13]) (by as_aux_lemma => kernel_rfl) (by simp) ?_
                refine AllReadyL.cons (by simp only [List.getElem?_toArray, List.getElem?_cons_succ, List.getElem?_cons_zero]; rfl) (fun K' hK' => ?_) AllReadyL.nil
                refine step_loadK rfl rfl rfl (by kernel_rfl) (by kernel_rfl) (SV.load _ lt_j) ?_
                refine hK'.out _ _ hS (fun _ => ?_)
                clear hK' K'
                try simp only [Act.put, List.setIfInBounds_toArray, List.set_cons_zero, List.set_cons_succ]
                refine wpAnyL_take (i := 14) (v := .pointer (some ⟨g, j * 12, none⟩)) (by simp only [List.getElem?_toArray, List.getElem?_cons_succ, List.getElem?_cons_zero]; rfl) (by as_aux_lemma => kernel_rfl) (by as_aux_lemma => kernel_rfl) (by as_aux_lemma => kernel_rfl) (fun _ _ _ h => h) (Or.inl ⟨by rfl, ?_⟩) hS ?_
                · intro U hU
                  show _ = _
                  go_simp
                simp only [Act.put, List.setIfInBounds_toArray, List.set_cons_zero, List.set_cons_succ]
                refine wpAnyL_ready (rs := [15]) (by as_aux_lemma => kernel_rfl) (by simp) ?_
                refine AllReadyL.cons (by simp only [List.getElem?_toArray, List.getElem?_cons_succ, List.getElem?_cons_zero]; rfl) (fun K' hK' => ?_) AllReadyL.nil
                refine step_storeK (ad := ⟨g, j * 12, none⟩) (cs := spotL dj[jp]!) rfl rfl (by kernel_rfl) (by kernel_rfl) (by kernel_rfl) (SV.store _ lt_j dj[jp]!) ?_
                refine hK'.out _ _ hS (fun _ => ?_)
                have SV1 := SV.stored lt_j dj[jp]!
                generalize V0.setCells g (j * 12) (spotL dj[jp]!) = V1 at SV1 ⊢
                clear hK' K'
                try simp only [Act.put, List.setIfInBounds_toArray, List.set_cons_zero, List.set_cons_succ]
                refine wpAnyL_take (i := 16) (v := .pointer (some ⟨g, jp * 12, none⟩)) (by simp only [List.getElem?_toArray, List.getElem?_cons_succ, List.getElem?_cons_zero]; rfl) (by as_aux_lemma => kernel_rfl) (by as_aux_lemma => kernel_rfl) (by as_aux_lemma => kernel_rfl) (fun _ _ _ h => h) (Or.inl ⟨by rfl, ?_⟩) hS ?_
                · intro U hU
                  show _ = _
                  go_simp
                simp only [Act.put, List.setIfInBounds_toArray, List.set_cons_zero, List.set_cons_succ]
                refine wpAnyL_ready (rs := [17]) (by as_aux_lemma => kernel_rfl) (by simp) ?_
                refine AllReadyL.last (by simp only [List.getElem?_toArray, List.getElem?_cons_succ, List.getElem?_cons_zero]; rfl) (by as_aux_lemma => kernel_rfl) (fun K' hK' => ?_)
                refine step_storeK (ad := ⟨g, jp * 12, none⟩) (cs := spotL dj[j]!) rfl rfl (by kernel_rfl) (by kernel_rfl) (by kernel_rfl) (SV1.store _ (by simpa using lt_jp) dj[j]!) ?_
                refine hK'.out _ _ ?_
                have SV2 := SV1.stored (k := jp) (by simpa using lt_jp) dj[j]!
                generalize V1.setCells g (jp * 12) (spotL dj[j]!) = V2 at SV2 ⊢
                clear hK' K'
                try simp only [Act.put, List.setIfInBounds_toArray, List.set_cons_zero, List.set_cons_succ]
                refine wpAnyL_done (by as_aux_lemma => kernel_rfl) ?_ _
                simp only [OnlyN]
                refine ⟨?_, SV2⟩
                (try simp only [Act.put, List.setIfInBounds_toArray, List.set_cons_zero, List.set_cons_succ])
              · refine step_loadK rfl rfl rfl (by kernel_rfl) (by kernel_rfl) (SV.load _ lt_j) ?_
                refine hK'.out _ _ hS (fun _ => ?_)
                clear hK' K'
                try simp only [Act.put, List.setIfInBounds_toArray, List.set_cons_zero, List.set_cons_succ]
                refine wpAnyL_ready (rs := [9]) (by as_aux_lemma => kernel_rfl) (by simp) ?_
                refine AllReadyL.cons (by simp only [List.getElem?_toArray, List.getElem?_cons_succ, List.getElem?_cons_zero]; rfl) (fun K' hK' => ?_) AllReadyL.nil
                refine step_loadK rfl rfl rfl (by kernel_rfl) (by kernel_rfl) (SV.load _ lt_jp) ?_
                refine hK'.out _ _ hS (fun _ => ?_)
                clear hK' K'
                try simp only [Act.put, List.setIfInBounds_toArray, List.set_cons_zero, List.set_cons_succ]
                refine wpAnyL_take (i := 14) (v := .pointer (some ⟨g, j * 12, none⟩)) (by simp only [List.getElem?_toArray, List.getElem?_cons_succ, List.getElem?_cons_zero]; rfl) (by as_aux_lemma => kernel_rfl) (by as_aux_lemma => kernel_rfl) (by as_aux_lemma => kernel_rfl) (fun _ _ _ h => h) (Or.inl ⟨by rfl, ?_⟩) hS ?_
                · intro U hU
                  show _ = _
                  go_simp
                simp only [Act.put, List.setIfInBounds_toArray, List.set_cons_zero, List.set_cons_succ]
                refine wpAnyL_ready (rs := [15]) (by as_aux_lemma => kernel_rfl) (by simp) ?_
                refine AllReadyL.cons (by simp only [List.getElem?_toArray, List.getElem?_cons_succ, List.getElem?_cons_zero]; rfl) (fun K' hK' => ?_) AllReadyL.nil
                refine step_storeK (ad := ⟨g, j * 12, none⟩) (cs := spotL dj[jp]!) rfl rfl (by kernel_rfl) (by kernel_rfl) (by kernel_rfl) (SV.store _ lt_j dj[jp]!) ?_
                refine hK'.out _ _ hS (fun _ => ?_)
                have SV1 := SV.stored lt_j dj[jp]!
                generalize V0.setCells g (j * 12) (spotL dj[jp]!) = V1 at SV1 ⊢
                clear hK' K'
                try simp only [Act.put, List.setIfInBounds_toArray, List.set_cons_zero, List.set_cons_succ]
                refine wpAnyL_take (i := 16) (v := .pointer (some ⟨g, jp * 12, none⟩)) (by simp only [List.getElem?_toArray, List.getElem?_cons_succ, List.getElem?_cons_zero]; rfl) (by as_aux_lemma => kernel_rfl) (by as_aux_lemma => kernel_rfl) (by as_aux_lemma => kernel_rfl) (fun _ _ _ h => h) (Or.inl ⟨by rfl, ?_⟩) hS ?_
                · intro U hU
                  show _ = _
                  go_simp
                simp only [Act.put, List.setIfInBounds_toArray, List.set_cons_zero, List.set_cons_succ]
                refine wpAnyL_ready (rs := [17]) (by as_aux_lemma => kernel_rfl) (by simp) ?_
                refine AllReadyL.last (by simp only [List.getElem?_toArray, List.getElem?_cons_succ, List.getElem?_cons_zero]; rfl) (by as_aux_lemma => kernel_rfl) (fun K' hK' => ?_)
                refine step_storeK (ad := ⟨g, jp * 12, none⟩) (cs := spotL dj[j]!) rfl rfl (by kernel_rfl) (by kernel_rfl) (by kernel_rfl) (SV1.store _ (by simpa using lt_jp) dj[j]!) ?_
                refine hK'.out _ _ ?_
                have SV2 := SV1.stored (k := jp) (by simpa using lt_jp) dj[j]!
                generalize V1.setCells g (jp * 12) (spotL dj[j]!) = V2 at SV2 ⊢
                clear hK' K'
                try simp only [Act.put, List.setIfInBounds_toArray, List.set_cons_zero, List.set_cons_succ]
                refine wpAnyL_done (by as_aux_lemma => kernel_rfl) ?_ _
                simp only [OnlyN]
                refine ⟨?_, SV2⟩
                (try simp only [Act.put, List.setIfInBounds_toArray, List.set_cons_zero, List.set_cons_succ])
            rintro a' W6 ⟨rfl, h6⟩
            simp only [Act.put, List.setIfInBounds_toArray, List.set_cons_zero, List.set_cons_succ]
            have HS6 := Lib.hid h6
            clear h6 HS4
            have WJ1 := WJ.out
            go_wp2_with fail
            go_roundg jp
            case measure => omega
            case rel =>
              refine ⟨jp, swp dj j jp, rfl, by omega, by omega, Nat.le_refl _, by rw [size_swp]; exact hsj, HS6, Lib.hid ?_⟩
              subst hjp
              rw [← HI.out, ins_go hja (by unfold ltS; rw [HE.out.1, HE.out.2, hr]; exact hd)]
          · have hd : decide (r < 0) = false := decide_eq_false hrn
            rw [hd]
            go_wp2_with fail
            go_roundg (b - (i + 1))
            case measure => omega
            case rel =>
              refine ⟨i + 1, dj, by go_num, by omega, by omega, by omega, hsj, HS4, Lib.hid ?_⟩
              subst hjp
              rw [← HO.out, out_go hlt, ← HI.out, ins_stop (by unfold ltS; rw [HE.out.1, HE.out.2, hr]; exact hd)]
        · have hjaz : decide ((j : Int) > (a : Int)) = false := by simp; omega
          have hjaz2 : ¬ (a : Int) < (j : Int) := by omega
          have he := Lib.hid (show j = a by omega)
          go_wp2_with fail
          refine last_cut (by kernel_rfl) (fun U => True) (fun aF a' W' => a' = (((((((((((((((((aF.put (some 18) (.int .i64 (j : Int))).put (some 19) (.int .i64 (a : Int))).put (some 20) (.bool false)).put (some 21) (.bool false)).put (some 22) (undef)).put (some 23) (undef)).put (some 24) (undef)).put (some 25) (undef)).put (some 26) (undef)).put (some 27) (undef)).put (some 28) (undef)).put (some 29) (undef)).put (some 30) (undef)).put (some 31) (undef)).put (some 32) (undef)).put (some 33) (undef)).put (some 34) (.bool false)) ∧ SW w0 base g c dj W') trivial (fun hS => ?_) ?_
          · skip
            have hSB : ∀ U : World, Below (0) wr U → True := fun _ _ => trivial
            have bV : Below wr.heap.size wr wr.drew := (Below.refl _ _).drew
            have SV : SW w0 base g c dj wr.drew := HS.out.drew
            generalize wr.drew = V0 at *
            change wpAnyL _ _ _ _ _ 17 #[false, false, false, false, false, false, false, false, false, false, false, false, false, false, false, false, false] _ _
            refine wpAnyL_take (i := 0) (v := .int .i64 (j : Int)) (by simp only [List.getElem?_toArray, List.getElem?_cons_succ, List.getElem?_cons_zero]; rfl) (by as_aux_lemma => kernel_rfl) (by as_aux_lemma => kernel_rfl) (by as_aux_lemma => kernel_rfl) (fun _ _ _ h => h) (Or.inl ⟨by rfl, ?_⟩) hS ?_
            · intro U hU
              show _ = _
              kernel_rfl
            simp only [Act.put, List.setIfInBounds_toArray, List.set_cons_zero, List.set_cons_succ]
            refine wpAnyL_take (i := 1) (v := .int .i64 (a : Int)) (by simp only [List.getElem?_toArray, List.getElem?_cons_succ, List.getElem?_cons_zero]; rfl) (by as_aux_lemma => kernel_rfl) (by as_aux_lemma => kernel_rfl) (by as_aux_lemma => kernel_rfl) (fun _ _ _ h => h) (Or.inl ⟨by rfl, ?_⟩) hS ?_
            · intro U hU
              show _ = _
              kernel_rfl
            simp only [Act.put, List.setIfInBounds_toArray, List.set_cons_zero, List.set_cons_succ]
            refine wpAnyL_take (i := 2) (v := .bool false) (by simp only [List.getElem?_toArray, List.getElem?_cons_succ, List.getElem?_cons_zero]; rfl) (by as_aux_lemma => kernel_rfl) (by as_aux_lemma => kernel_rfl) (by as_aux_lemma => kernel_rfl) (fun _ _ _ h => h) (Or.inl ⟨by rfl, ?_⟩) hS ?_
            · intro U hU
              show _ = _
              go_simp
            simp only [Act.put, List.setIfInBounds_toArray, List.set_cons_zero, List.set_cons_succ]
            refine wpAnyL_take (i := 3) (v := .bool false) (by simp only [List.getElem?_toArray, List.getElem?_cons_succ, List.getElem?_cons_zero]; rfl) (by as_aux_lemma => kernel_rfl) (by as_aux_lemma => kernel_rfl) (by as_aux_lemma => kernel_rfl) (fun _ _ _ h => h) (Or.inl ⟨by rfl, ?_⟩) hS ?_
            · intro U hU
              show _ = _
              kernel_rfl
            simp only [Act.put, List.setIfInBounds_toArray, List.set_cons_zero, List.set_cons_succ]
            refine wpAnyL_take (i := 4) (v := undef) (by simp only [List.getElem?_toArray, List.getElem?_cons_succ, List.getElem?_cons_zero]; rfl) (by as_aux_lemma => kernel_rfl) (by as_aux_lemma => kernel_rfl) (by as_aux_lemma => kernel_rfl) (fun _ _ _ h => h) (Or.inr ⟨by rfl, rfl⟩) hS ?_
            simp only [Act.put, List.setIfInBounds_toArray, List.set_cons_zero, List.set_cons_succ]
            refine wpAnyL_take (i := 5) (v := undef) (by simp only [List.getElem?_toArray, List.getElem?_cons_succ, List.getElem?_cons_zero]; rfl) (by as_aux_lemma => kernel_rfl) (by as_aux_lemma => kernel_rfl) (by as_aux_lemma => kernel_rfl) (fun _ _ _ h => h) (Or.inr ⟨by rfl, rfl⟩) hS ?_
            simp only [Act.put, List.setIfInBounds_toArray, List.set_cons_zero, List.set_cons_succ]
            refine wpAnyL_take (i := 6) (v := undef) (by simp only [List.getElem?_toArray, List.getElem?_cons_succ, List.getElem?_cons_zero]; rfl) (by as_aux_lemma => kernel_rfl) (by as_aux_lemma => kernel_rfl) (by as_aux_lemma => kernel_rfl) (fun _ _ _ h => h) (Or.inr ⟨by rfl, rfl⟩) hS ?_
            simp only [Act.put, List.setIfInBounds_toArray, List.set_cons_zero, List.set_cons_succ]
            refine wpAnyL_take (i := 7) (v := undef) (by simp only [List.getElem?_toArray, List.getElem?_cons_succ, List.getElem?_cons_zero]; rfl) (by as_aux_lemma => kernel_rfl) (by as_aux_lemma => kernel_rfl) (by as_aux_lemma => kernel_rfl) (fun _ _ _ h => h) (Or.inr ⟨by rfl, rfl⟩) hS ?_
            simp only [Act.put, List.setIfInBounds_toArray, List.set_cons_zero, List.set_cons_succ]
            refine wpAnyL_take (i := 8) (v := undef) (by simp only [List.getElem?_toArray, List.getElem?_cons_succ, List.getElem?_cons_zero]; rfl) (by as_aux_lemma => kernel_rfl) (by as_aux_lemma => kernel_rfl) (by as_aux_lemma => kernel_rfl) (fun _ _ _ h => h) (Or.inr ⟨by rfl, rfl⟩) hS ?_
            simp only [Act.put, List.setIfInBounds_toArray, List.set_cons_zero, List.set_cons_succ]
            refine wpAnyL_take (i := 9) (v := undef) (by simp only [List.getElem?_toArray, List.getElem?_cons_succ, List.getElem?_cons_zero]; rfl) (by as_aux_lemma => kernel_rfl) (by as_aux_lemma => kernel_rfl) (by as_aux_lemma => kernel_rfl) (fun _ _ _ h => h) (Or.inr ⟨by rfl, rfl⟩) hS ?_
            simp only [Act.put, List.setIfInBounds_toArray, List.set_cons_zero, List.set_cons_succ]
            refine wpAnyL_take (i := 10) (v := undef) (by simp only [List.getElem?_toArray, List.getElem?_cons_succ, List.getElem?_cons_zero]; rfl) (by as_aux_lemma => kernel_rfl) (by as_aux_lemma => kernel_rfl) (by as_aux_lemma => kernel_rfl) (fun _ _ _ h => h) (Or.inr ⟨by rfl, rfl⟩) hS ?_
            simp only [Act.put, List.setIfInBounds_toArray, List.set_cons_zero, List.set_cons_succ]
            refine wpAnyL_take (i := 11) (v := undef) (by simp only [List.getElem?_toArray, List.getElem?_cons_succ, List.getElem?_cons_zero]; rfl) (by as_aux_lemma => kernel_rfl) (by as_aux_lemma => kernel_rfl) (by as_aux_lemma => kernel_rfl) (fun _ _ _ h => h) (Or.inr ⟨by rfl, rfl⟩) hS ?_
            simp only [Act.put, List.setIfInBounds_toArray, List.set_cons_zero, List.set_cons_succ]
            refine wpAnyL_take (i := 12) (v := undef) (by simp only [List.getElem?_toArray, List.getElem?_cons_succ, List.getElem?_cons_zero]; rfl) (by as_aux_lemma => kernel_rfl) (by as_aux_lemma => kernel_rfl) (by as_aux_lemma => kernel_rfl) (fun _ _ _ h => h) (Or.inr ⟨by rfl, rfl⟩) hS ?_
            simp only [Act.put, List.setIfInBounds_toArray, List.set_cons_zero, List.set_cons_succ]
            refine wpAnyL_take (i := 13) (v := undef) (by simp only [List.getElem?_toArray, List.getElem?_cons_succ, List.getElem?_cons_zero]; rfl) (by as_aux_lemma => kernel_rfl) (by as_aux_lemma => kernel_rfl) (by as_aux_lemma => kernel_rfl) (fun _ _ _ h => h) (Or.inr ⟨by rfl, rfl⟩) hS ?_
            simp only [Act.put, List.setIfInBounds_toArray, List.set_cons_zero, List.set_cons_succ]
            refine wpAnyL_take (i := 14) (v := undef) (by simp only [List.getElem?_toArray, List.getElem?_cons_succ, List.getElem?_cons_zero]; rfl) (by as_aux_lemma => kernel_rfl) (by as_aux_lemma => kernel_rfl) (by as_aux_lemma => kernel_rfl) (fun _ _ _ h => h) (Or.inr ⟨by rfl, rfl⟩) hS ?_
            simp only [Act.put, List.setIfInBounds_toArray, List.set_cons_zero, List.set_cons_succ]
            refine wpAnyL_take (i := 15) (v := undef) (by simp only [List.getElem?_toArray, List.getElem?_cons_succ, List.getElem?_cons_zero]; rfl) (by as_aux_lemma => kernel_rfl) (by as_aux_lemma => kernel_rfl) (by as_aux_lemma => kernel_rfl) (fun _ _ _ h => h) (Or.inr ⟨by rfl, rfl⟩) hS ?_
            simp only [Act.put, List.setIfInBounds_toArray, List.set_cons_zero, List.set_cons_succ]
            refine wpAnyL_take (i := 16) (v := .bool false) (by simp only [List.getElem?_toArray, List.getElem?_cons_succ, List.getElem?_cons_zero]; rfl) (by as_aux_lemma => kernel_rfl) (by as_aux_lemma => kernel_rfl) (by as_aux_lemma => kernel_rfl) (fun _ _ _ h => h) (Or.inl ⟨by rfl, ?_⟩) hS ?_
            · intro U hU
              show _ = _
              kernel_rfl
            simp only [Act.put, List.setIfInBounds_toArray, List.set_cons_zero, List.set_cons_succ]
            refine wpAnyL_done (by as_aux_lemma => kernel_rfl) ?_ _
            simp only [OnlyN]
            refine ⟨?_, SV⟩
            (try simp only [Act.put, List.setIfInBounds_toArray, List.set_cons_zero, List.set_cons_succ])
          rintro a' W4 ⟨rfl, h4⟩
          simp only [Act.put, List.setIfInBounds_toArray, List.set_cons_zero, List.set_cons_succ]
          have HS4 := Lib.hid h4
          clear h4 HS
          go_wp2_with fail
          go_roundg (b - (i + 1))
          case measure => omega
          case rel =>
            refine ⟨i + 1, dj, by go_num, by omega, by omega, by omega, hsj, HS4, Lib.hid ?_⟩
            have e := he.out
            subst e
            rw [← HO.out, out_go hlt, ← HI.out, ins_end]
    · have hltz : ¬ (i : Int) < (b : Int) := by omega
      go_wp2
      go_end0
      refine ⟨rfl, ?_⟩
      unfold Sort.insertionSort
      rw [← HO.out, out_stop hlt]
      exact HS.out
end Go.Proofs.Ytpgkdpoehkdhcaa
