/- CONTRACTS of waveletref9.near and waveletref9.Split. -/
import Derived.Test.YtmcdhdofgaoadaaLift6
import Derived.Test.YtmcdhdofgaoadaaMem3
import Derived.BigQuiet
import Derived.StillTailTactics
namespace Go.Proofs.Ytmcdhdofgaoadaa
open Go.RowKit
set_option maxHeartbeats 8000000
set_option linter.unusedVariables false
set_option linter.unusedSimpArgs false

theorem near_lft (k n : Nat) (hn : 2 ≤ n) (hk : k < n) (hn2 : n ≤ 1099511627776) (w : World) :
    Calls Try.prog 36 #[.int .i64 ((k : Int) - 1), .int .i64 n] w fun e w' => e = .returned (.int .i64 (lft k : Nat)) ∧ w' = w := by
  by_cases h : k = 0
  · subst h
    have e : ((lft 0 : Nat) : Int) = 1 := rfl
    rw [e]
    clear e
    go_enter Try.func36, Try.ntmps36
    go_wp2
    go_ret
    exact ⟨rfl, rfl⟩
  · have e : ((lft k : Nat) : Int) = (k : Int) - 1 := by unfold lft; rw [if_neg h]; omega
    rw [e]
    clear e
    have h1 : ¬ ((k : Int) - 1 < 0) := by omega
    have h2 : ¬ ((n : Int) ≤ (k : Int) - 1) := by omega
    go_enter Try.func36, Try.ntmps36
    go_wp2
    go_ret
    exact ⟨rfl, rfl⟩
theorem near_rgt (k n : Nat) (hn : 2 ≤ n) (hk : k < n) (hn2 : n ≤ 1099511627776) (w : World) :
    Calls Try.prog 36 #[.int .i64 ((k : Int) + 1), .int .i64 n] w fun e w' => e = .returned (.int .i64 (rgt n k : Nat)) ∧ w' = w := by
  have h1 : ¬ ((k : Int) + 1 < 0) := by omega
  by_cases h : k + 1 = n
  · have e : ((rgt n k : Nat) : Int) = (k : Int) - 1 := by unfold rgt; rw [if_pos h]; omega
    rw [e]
    clear e
    subst h
    have s1 : IntKind.i64.wrap (2 * (k : Int)) = 2 * (k : Int) := IntWalk.i64_in _ (by omega)
    have s2 : IntKind.i64.wrap (2 * (k : Int) - ((k : Int) + 1)) = (k : Int) - 1 := by rw [show 2 * (k : Int) - ((k : Int) + 1) = (k : Int) - 1 by omega]; exact IntWalk.i64_in _ (by omega)
    go_enter Try.func36, Try.ntmps36
    go_wp2
    go_ret
    exact ⟨ret_int (by omega), rfl⟩
  · have e : ((rgt n k : Nat) : Int) = (k : Int) + 1 := by unfold rgt; rw [if_neg h]; omega
    rw [e]
    clear e
    have h2 : ¬ ((n : Int) ≤ (k : Int) + 1) := by omega
    go_enter Try.func36, Try.ntmps36
    go_wp2
    go_ret
    exact ⟨rfl, rfl⟩

theorem OwnI.set_ {w : World} {B T g n c : Nat} {f : Nat → Int} (h : OwnI w B T (.slice (some ⟨g, 0, none⟩) n c) n f) (j : Nat) (u : Int) : OwnI (w.setCell ⟨g, j, none⟩ (.int .i64 u)) B T (.slice (some ⟨g, 0, none⟩) n c) n (fun k => if k = j then u else f k) := OwnI.stored h j u

theorem lift1_ref {n o m : Nat} {f : Nat → Int} (hn : 2 ≤ n) (hm : m < n) (ho : o ≤ 1) (hp : m % 2 ≠ o) (k : Nat) (hk : k < n) :
    (if k = m then lift1 n o f m m - (f (lft m) + f (rgt n m)) / 2 else lift1 n o f m k) = lift1 n o f (m + 2) k := by
  have hb : besF n (lift1 n o f m) m = besF n f m := besF_congr hn hm fun j hj hp' => by unfold lift1; rw [if_neg (by omega)]
  have := lift1_step (f := f) hn hm ho hp k hk
  rw [hb] at this
  exact this
theorem lift1_full {n o m : Nat} {f : Nat → Int} (hm : n ≤ m) (k : Nat) (hk : k < n) : lift1 n o f m k = lift1 n o f n k := by
  unfold lift1
  have : (k % 2 ≠ o ∧ k < m) = (k % 2 ≠ o ∧ k < n) := by apply propext; omega
  simp only [this]
theorem lift2_full {n o m : Nat} {f : Nat → Int} (hm : n ≤ m) (k : Nat) (hk : k < n) : lift2 n o f m k = lift2 n o f n k := by
  unfold lift2
  have : (k % 2 = o ∧ k < m) = (k % 2 = o ∧ k < n) := by apply propext; omega
  simp only [this]

set_option maxRecDepth 100000 in
theorem rsplit_many (a : Nat) (A : Option Addr) (n c : Nat) (f : Nat → Int) (w : World) (ha : IntsAt w w.heap.size A n f) (h2 : 2 ≤ n) (hn : n ≤ 1099511627775) (hb : Within n 72057594037927936 f) (hat : a ≤ 4611686018427387904) :
    Calls Try.prog 18 #[.int .i64 a, .slice A n c] w fun e w' => ∃ A' c', e = .returned (.slice A' n c') ∧ OwnI w' w.heap.size 3 (.slice A' n c') n (splitF n (a % 2) f) ∧ Below w.heap.size w w' := by
  have hbit := and_one a (by omega)
  obtain ⟨o, ho⟩ : ∃ o, o = a % 2 := ⟨_, rfl⟩
  have ho1 : o ≤ 1 := by omega
  rw [← ho] at hbit ⊢
  clear ho
  have hn1 : ¬ ((n : Int) = 1) := by omega
  have hne1 : ((n : Int) == 1) = false := by rw [beq_eq_false_iff_ne]; exact hn1
  have sO : (1 : Int) - (o : Int) = ((1 - o : Nat) : Int) := by omega
  have NL := Lib.hid (fun (k : Nat) (hk : k < n) (w : World) => near_lft k n h2 hk (by omega) w)
  have NR := Lib.hid (fun (k : Nat) (hk : k < n) (w : World) => near_rgt k n h2 hk (by omega) w)
  go_enter Try.func18, Try.ntmps18
  go_wp2_with (at_builtin; refine wpList_copyE rfl _ _ 24 rfl 3 int_info Try.underlying24 w.heap.size rfl _ A n c f rfl ha (Nat.le_refl _) (by omega) (Nat.le_refl _) ?_; intro A' cap w1 o1 hb1)
  obtain ⟨g, rfl⟩ := o1.row (by omega)
  have hgb := o1.lt g rfl
  have o1 := o1.congr (g := lift1 n o f (1 - o)) (fun k hk => by unfold lift1; rw [if_neg (by omega)])
  go_loopw [8] (fun i wr => ∃ m : Nat, m ≤ n + 1 ∧ m % 2 ≠ o ∧ i = .int .i64 m ∧ OwnI wr w.heap.size 3 (.slice (some ⟨g, 0, none⟩) n cap) n (lift1 n o f m) ∧ Below w.heap.size w wr) (fun i _ => n + 2 - (intOf i).toNat)
  case atStart => exact ⟨1 - o, by omega, by omega, by rw [← sO], o1, hb1⟩
  case round =>
    obtain ⟨m, hm, hp, rfl, own, hbel⟩ := hrel
    clear o1 hb1
    by_cases hlt : m < n
    · have hL := lft_lt h2 hlt
      have hR := rgt_lt h2 hlt
      have hb' := hb
      have bm := lift1_bd (o := o) (m := m) h2 hb m hlt
      have bL := hb _ hL
      have bR := hb _ hR
      have cX := own.cell hlt
      have fz := own.frozen m
      obtain ⟨vb, vo, rfl, hvl, cL⟩ := (ha.below hbel).at_ hL
      have cR := (ha.below hbel).cells hR
      have nl := NL.out m hlt
      have nr := NR.out m hlt
      have OW := Lib.hid ((own.set_ m (lift1 n o f m m - (f (lft m) + f (rgt n m)) / 2)).congr (fun k hk => lift1_ref h2 hlt ho1 hp k hk))
      have BW := Lib.hid (hbel.setCell (p := ⟨g, m, none⟩) hgb.1 (.int .i64 (lift1 n o f m m - (f (lft m) + f (rgt n m)) / 2)))
      generalize lft m = La at *
      generalize rgt n m = Ra at *
      generalize f La = fL at *
      generalize f Ra = fR at *
      generalize lift1 n o f m m = X1 at *
      have NLm := Lib.hid nl
      have NRm := Lib.hid nr
      have w1' : IntKind.i64.wrap ((m : Int) - 1) = (m : Int) - 1 := IntWalk.i64_in _ (by omega)
      have w2' : IntKind.i64.wrap ((m : Int) + 1) = (m : Int) + 1 := IntWalk.i64_in _ (by omega)
      have w3' : IntKind.i64.wrap (fL + fR) = fL + fR := IntWalk.i64_in _ (by omega)
      have w5' : IntKind.i64.wrap ((fL + fR) / 2) = (fL + fR) / 2 := IntWalk.i64_in _ (by omega)
      have w4' : IntKind.i64.wrap (X1 - (fL + fR) / 2) = X1 - (fL + fR) / 2 := IntWalk.i64_in _ (by omega)
      clear nl nr own hbel hb'
      go_wp2_with fail
      refine wp_region_still_tail 24 (by kernel_rfl) (by kernel_rfl) ?_
      simp only [List.take_succ_cons, List.take_zero, List.drop_succ_cons, List.drop_zero]
      change wpStill _ _ wr.drew (fun a' => wpList _ _ _ _ a' wr.drew) _ _
      repeat (first | still_step | (refine wpStill_step (fun K hK => ?_); go_simp; (first | (with_reducible refine ⟨_, NLm.out _, hK _ ?_⟩) | (with_reducible refine ⟨_, NRm.out _, hK _ ?_⟩)); clear hK K))
      refine wpStill_nil ?_
      go_wp2_with fail
      go_roundw
      case rel => exact ⟨m + 2, by omega, by omega, by go_num, OW.out, BW.out.drew⟩
      case measure => simp [intOf]; omega
    · have o2 := own.congr (g := lift2 n o (lift1 n o f n) o) (fun k hk => by
        rw [lift1_full (by omega) k hk]
        unfold lift2
        rw [if_neg (by omega)])
      have hb2 := lift1_bd (o := o) (m := n) h2 hb
      have hres : ∀ k, k < n → lift2 n o (lift1 n o f n) n (spot n o k) = splitF n o f k := fun k hk => by unfold splitF; rw [if_neg (by omega)]
      generalize lift1 n o f n = h at *
      clear own
      go_wp2_with fail
      go_loopw [9] (fun i wr => ∃ m : Nat, m ≤ n + 1 ∧ m % 2 = o ∧ i = .int .i64 m ∧ OwnI wr w.heap.size 3 (.slice (some ⟨g, 0, none⟩) n cap) n (lift2 n o h m) ∧ Below w.heap.size w wr) (fun i _ => n + 2 - (intOf i).toNat)
      case atStart => exact ⟨o, by omega, by omega, rfl, o2, hbel⟩
      case round =>
        clear o2 hbel hlt hm hp
        obtain ⟨m, hm, hp, rfl, own, hbel⟩ := hrel
        by_cases hlt : m < n
        · have hL := lft_lt h2 hlt
          have hR := rgt_lt h2 hlt
          have hb3 := lift2_bd (o := o) (m := m) h2 hb2
          have bm := hb3 m hlt
          have bL := hb3 _ hL
          have bR := hb3 _ hR
          have cX := own.cell hlt
          have cL := own.cell hL
          have cR := own.cell hR
          have fz := own.frozen m
          have nl := NL.out m hlt
          have nr := NR.out m hlt
          have hst := fun k (hk : k < n) => lift2_step (f := h) h2 hlt ho1 hp k hk
          have OW := Lib.hid ((own.set_ m (lift2 n o h m m + (lift2 n o h m (lft m) + lift2 n o h m (rgt n m) + 2) / 4)).congr (fun k hk => hst k hk))
          have BW := Lib.hid (hbel.setCell (p := ⟨g, m, none⟩) hgb.1 (.int .i64 (lift2 n o h m m + (lift2 n o h m (lft m) + lift2 n o h m (rgt n m) + 2) / 4)))
          clear hst hb3
          generalize lft m = La at *
          generalize rgt n m = Ra at *
          generalize lift2 n o h m La = fL at *
          generalize lift2 n o h m Ra = fR at *
          generalize lift2 n o h m m = X1 at *
          have NLm := Lib.hid nl
          have NRm := Lib.hid nr
          have w1' : IntKind.i64.wrap ((m : Int) - 1) = (m : Int) - 1 := IntWalk.i64_in _ (by omega)
          have w2' : IntKind.i64.wrap ((m : Int) + 1) = (m : Int) + 1 := IntWalk.i64_in _ (by omega)
          have w3' : IntKind.i64.wrap (fL + fR) = fL + fR := IntWalk.i64_in _ (by omega)
          have w6' : IntKind.i64.wrap (fL + fR + 2) = fL + fR + 2 := IntWalk.i64_in _ (by omega)
          have w5' : IntKind.i64.wrap ((fL + fR + 2) / 4) = (fL + fR + 2) / 4 := IntWalk.i64_in _ (by omega)
          have w4' : IntKind.i64.wrap (X1 + (fL + fR + 2) / 4) = X1 + (fL + fR + 2) / 4 := IntWalk.i64_in _ (by omega)
          clear nl nr own hbel
          go_wp2_with fail
          refine wp_region_still_tail 25 (by kernel_rfl) (by kernel_rfl) ?_
          simp only [List.take_succ_cons, List.take_zero, List.drop_succ_cons, List.drop_zero]
          change wpStill _ _ wr.drew (fun a' => wpList _ _ _ _ a' wr.drew) _ _
          repeat (first | still_step | (refine wpStill_step (fun K hK => ?_); go_simp; (first | (with_reducible refine ⟨_, NLm.out _, hK _ ?_⟩) | (with_reducible refine ⟨_, NRm.out _, hK _ ?_⟩)); clear hK K))
          refine wpStill_nil ?_
          go_wp2_with fail
          go_roundw
          case rel => exact ⟨m + 2, by omega, by omega, by go_num, OW.out, BW.out.drew⟩
          case measure => simp [intOf]; omega
        · have ox := own.congr (g := lift2 n o h n) (fun k hk => lift2_full (by omega) k hk)
          obtain ⟨F, hF⟩ : ∃ F, F = fun k => lift2 n o h n (spot n o k) := ⟨_, rfl⟩
          have hF3 : ∀ j, j < low n o → lift2 n o h n (2 * j + o) = F j := fun j hj => by
            rw [hF]; simp only; unfold spot; rw [if_pos hj]
          have hF4 : ∀ j, lift2 n o h n (2 * j + (1 - o)) = F (low n o + j) := fun j => by
            rw [hF]; simp only; unfold spot; rw [if_neg (by omega)]; congr 1; omega
          have hlo := low_le (n := n) ho1
          have hlo2 : (n + 1 - o) / 2 = low n o := rfl
          have hbx : Below w.heap.size w wr := hbel
          have FINAL : ∀ k, k < n → F k = splitF n o f k := fun k hk => by rw [hF]; exact hres k hk
          have H3 := Lib.hid hF3
          have H4 := Lib.hid hF4
          have HFIN := Lib.hid FINAL
          clear hF3 hF4 FINAL hF own
          generalize lift2 n o h n = G at *
          generalize low n o = lo at *
          go_wp2_with fail
          go_loopw [10, 11] (fun out i wr => ∃ (j cx : Nat) (X : Option Addr), j ≤ lo ∧ out = .slice X j cx ∧ i = .int .i64 (2 * (j : Int) + o) ∧ OwnI wr w.heap.size 3 (.slice X j cx) j F ∧ OwnI wr w.heap.size 3 (.slice (some ⟨g, 0, none⟩) n cap) n G ∧ Sep (.slice X j cx) (.slice (some ⟨g, 0, none⟩) n cap) ∧ Below w.heap.size w wr) (fun _ i _ => n + 2 - (intOf i).toNat)
          case atStart => exact ⟨0, 0, none, Nat.zero_le _, rfl, by simp, OwnI.nil_ _ _ _ _, ox, Sep.nil_ _, hbx⟩
          case round =>
            clear ox hbx hbel
            obtain ⟨j, cx, X, hj, rfl, rfl, oX, ox, sp, hbel⟩ := hrel
            by_cases hlt3 : j < lo
            · have hin : 2 * j + o < n := by omega
              have cX := ox.cell hin
              rw [H3.out j hlt3] at cX
              have hsz := hbel.size
              have e1 : (2 * (j : Int) + o).toNat = 2 * j + o := by omega
              have e2 : (2 * (j : Int) + o) < n := by omega
              have e3 : (0 : Int) ≤ 2 * (j : Int) + o := by omega
              go_wp2_with (first
                | (at_builtin; refine wpList_app1 wr ((Below.refl _ _).alloc (Nat.le_refl _) _) rfl _ _ 24 rfl 3 int_info Try.underlying24 w.heap.size X j cx F rfl oX wr.heap.size rfl (by simp) (by omega) (by omega) ?_; intro gg cap2 w2 oY st lt2))
              have ox2 := st.keep _ _ _ _ ox sp
              have sp2 := st.sep _ _ _ _ ox sp
              have hb4 := hbel.trans st.below
              clear st oX ox sp hbel cX
              go_wp2_with fail
              go_roundw
              case rel => exact ⟨j + 1, cap2, _, by omega, rfl, by go_num, oY, ox2, sp2, hb4⟩
              case measure => simp [intOf]; omega
            · obtain rfl : j = lo := by omega
              have e9 : ¬ (2 * (j : Int) + o < n) := by omega
              go_wp2_with fail
              go_loopw [10, 12] (fun out i wr => ∃ (z cx : Nat) (X : Option Addr), j + z ≤ n ∧ out = .slice X (j + z) cx ∧ i = .int .i64 (2 * (z : Int) + ((1 - o : Nat) : Int)) ∧ OwnI wr w.heap.size 3 (.slice X (j + z) cx) (j + z) F ∧ OwnI wr w.heap.size 3 (.slice (some ⟨g, 0, none⟩) n cap) n G ∧ Sep (.slice X (j + z) cx) (.slice (some ⟨g, 0, none⟩) n cap) ∧ Below w.heap.size w wr) (fun _ i _ => n + 2 - (intOf i).toNat)
              case atStart => exact ⟨0, cx, X, by omega, rfl, by rw [← sO]; simp, oX, ox, sp, hbel⟩
              case round =>
                clear oX ox sp hbel e9
                obtain ⟨z, cx, X, hz, rfl, rfl, oX, ox, sp, hbel⟩ := hrel
                by_cases hlt4 : j + z < n
                · have hin : 2 * z + (1 - o) < n := by omega
                  have cX := ox.cell hin
                  rw [H4.out z] at cX
                  have hsz := hbel.size
                  obtain ⟨q, hq⟩ : ∃ q, 1 - o = q := ⟨_, rfl⟩
                  rw [hq] at cX hin ⊢
                  have e1 : (2 * (z : Int) + q).toNat = 2 * z + q := by omega
                  have e2 : (2 * (z : Int) + q) < n := by omega
                  have e3 : (0 : Int) ≤ 2 * (z : Int) + q := by omega
                  have HQ := Lib.hid hq
                  clear hq
                  go_wp2_with (first
                    | (at_builtin; refine wpList_app1 wr ((Below.refl _ _).alloc (Nat.le_refl _) _) rfl _ _ 24 rfl 3 int_info Try.underlying24 w.heap.size X (j + z) cx F rfl oX wr.heap.size rfl (by simp) (by omega) (by omega) ?_; intro gg cap2 w2 oY st lt2))
                  have ox2 := st.keep _ _ _ _ ox sp
                  have sp2 := st.sep _ _ _ _ ox sp
                  have hb4 := hbel.trans st.below
                  clear st oX ox sp hbel cX
                  go_wp2_with fail
                  go_roundw
                  case rel => exact ⟨z + 1, cap2, _, by omega, rfl, by go_num, oY, ox2, sp2, hb4⟩
                  case measure => simp [intOf]; omega
                · have hzn : j + z = n := by omega
                  have e9 : ¬ (2 * (z : Int) + ((1 - o : Nat) : Int) < n) := by omega
                  rw [hzn] at oX ⊢
                  have oF := oX.congr (fun k hk => HFIN.out k hk)
                  go_wp2_with fail
                  go_ret
                  exact ⟨X, cx, rfl, oF, hbel⟩
end Go.Proofs.Ytmcdhdofgaoadaa
