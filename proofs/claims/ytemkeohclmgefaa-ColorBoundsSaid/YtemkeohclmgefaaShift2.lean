/- CONTRACT of waveletref11.Unshift. -/
import Derived.Test.YtemkeohclmgefaaShift
namespace Go.Proofs.Ytemkeohclmgefaa
open Go.RowKit
set_option maxHeartbeats 1000000
set_option linter.unusedVariables false

theorem clip_cases (d : Nat) (h1 : 1 ≤ d) (h2 : d ≤ 16) (s : Bool) (x v lo hi : Int) (hv : v = x + shiftBy d s) (hlo : lo = shiftBy d s - halfOf d) (hhi : hi = halfOf d - 1 + shiftBy d s) :
    (¬ lo < v ∧ v < hi ∧ clip d s x = lo) ∨ (lo < v ∧ v < hi ∧ clip d s x = v) ∨ (¬ v < hi ∧ lo < hi ∧ clip d s x = hi) := by
  have hh := halfOf_bd h1 h2
  unfold clip
  omega

theorem runshift_any (d : Nat) (h1 : 1 ≤ d) (h2 : d ≤ 16) (s : Bool) (A : Option Addr) (n c : Nat) (f : Nat → Int) (w : World) (ha : IntsAt w w.heap.size A n f) (hn : n ≤ 1099511627776) (hb : ∀ k, k < n → -1099511627776 ≤ f k ∧ f k ≤ 1099511627776) :
    Calls Try.prog 24 #[.int .i64 d, .bool s, .slice A n c] w fun e w' => ∃ A' c', e = .returned (.slice A' n c') ∧ IntsAt w' w'.heap.size A' n (fun k => clip d s (f k)) ∧ Below w.heap.size w w' := by
  have hh := halfOf_bd h1 h2
  have hw := half_wrap h1 h2
  have hm := shiftBy_bd h1 h2 s
  have CC := Lib.hid (clip_cases d h1 h2 s)
  have BD := Lib.hid (bounds_any d h1 h2 s)
  obtain ⟨lo, hlo⟩ : ∃ lo, lo = shiftBy d s - halfOf d := ⟨_, rfl⟩
  obtain ⟨hi, hhi⟩ : ∃ hi, hi = halfOf d - 1 + shiftBy d s := ⟨_, rfl⟩
  have bl : -32768 ≤ lo ∧ lo ≤ 0 := by cases s <;> simp [shiftBy] at hlo hm <;> omega
  have bhi : 0 ≤ hi ∧ hi ≤ 65536 := by omega
  cases s
  · go_enter Try.func24, Try.ntmps24
    go_wp2_with (at_builtin; refine wpList_copyE rfl _ _ 22 rfl 3 int_info Try.underlying22 w.heap.size rfl _ A n c f rfl ha (Nat.le_refl _) hn (Nat.le_refl _) ?_; intro A' cap w1 o1 hb1)
    refine (BD.out w1).mono ?_
    rw [← hlo, ← hhi]
    have CC := Lib.hid (fun x => CC.out x _ lo hi rfl hlo hhi)
    clear hlo hhi BD
    rintro e w2 ⟨rfl, rfl⟩
    go_wp2_with fail
    go_loopw [10] (fun i wr => ∃ k : Nat, k ≤ n ∧ i = .int .i64 k ∧ OwnI wr w.heap.size 3 (.slice A' n cap) n (fun j => if j < k then clip d false (f j) else f j) ∧ Below w.heap.size w wr) (fun i _ => n - (intOf i).toNat)
    case atStart => exact ⟨0, Nat.zero_le _, rfl, o1.congr (fun k _ => by simp), hb1⟩
    case round =>
      obtain ⟨k, hk, rfl, own, hbel⟩ := hrel
      by_cases hlt : k < n
      · obtain ⟨g, rfl⟩ := own.row (by omega)
        have hc := own.cell hlt
        have hc : wr.cell? ⟨g, k, none⟩ = some (.int .i64 (f k)) := by rw [hc]; simp
        have hfr := own.frozen k
        have hg := own.lt g rfl
        have bk := hb k hlt
        have hcap := own.cap
        have e0 : shiftBy d false = halfOf d := rfl
        have CK := CC.out (f k)
        rw [e0] at CK hm
        generalize hH : halfOf d = H at *
        have s1 : IntKind.i64.wrap (f k + H) = f k + H := IntWalk.i64_in _ (by omega)
        have s2 : IntKind.i64.wrap (2 * H - 1) = 2 * H - 1 := IntWalk.i64_in _ (by omega)
        have own2 := own.stored k (f k + H)
        have hc2 := own2.cell hlt
        have hc2 : (wr.setCell ⟨g, k, none⟩ (.int .i64 (f k + H))).cell? ⟨g, k, none⟩ = some (.int .i64 (f k + H)) := by rw [hc2]; simp
        have hfr2 := own2.frozen k
        have hb2 := hbel.setCell (p := ⟨g, k, none⟩) hg.1 (.int .i64 (f k + H))
        have HO := Lib.hid (fun r (hr : clip d false (f k) = r) => (own2.stored k r).congr (g := fun j => if j < k + 1 then clip d false (f j) else f j) (fun j hj => by
          by_cases e : j = k
          · subst e; simp [hr]
          · have : (j < k + 1) = (j < k) := by simp; omega
            simp [e, this]))
        have HB := Lib.hid (fun r => hb2.setCell (p := ⟨g, k, none⟩) hg.1 (.int .i64 r))
        clear own hbel own2 hb2
        rcases CK with ⟨x1, x2, hr⟩ | ⟨x1, x2, hr⟩ | ⟨x1, x2, hr⟩
        all_goals
          have HO := Lib.hid (HO.out _ hr)
          clear CC hr hH
          go_wp2_with fail
          go_roundw
          case rel => exact ⟨k + 1, by omega, by go_num, HO.out, HB.out _⟩
          case measure => simp [intOf]; omega
      · obtain rfl : k = n := by omega
        have i1 := (own.congr (g := fun j => clip d false (f j)) (fun j hj => by simp [hj])).ints
        go_wp2_with fail
        go_ret
        exact ⟨_, _, rfl, i1, hbel⟩
  · go_enter Try.func24, Try.ntmps24
    go_wp2_with (at_builtin; refine wpList_copyE rfl _ _ 22 rfl 3 int_info Try.underlying22 w.heap.size rfl _ A n c f rfl ha (Nat.le_refl _) hn (Nat.le_refl _) ?_; intro A' cap w1 o1 hb1)
    refine (BD.out w1).mono ?_
    rw [← hlo, ← hhi]
    have CC := Lib.hid (fun x => CC.out x _ lo hi rfl hlo hhi)
    clear hlo hhi BD
    rintro e w2 ⟨rfl, rfl⟩
    go_wp2_with fail
    go_loopw [10] (fun i wr => ∃ k : Nat, k ≤ n ∧ i = .int .i64 k ∧ OwnI wr w.heap.size 3 (.slice A' n cap) n (fun j => if j < k then clip d true (f j) else f j) ∧ Below w.heap.size w wr) (fun i _ => n - (intOf i).toNat)
    case atStart => exact ⟨0, Nat.zero_le _, rfl, o1.congr (fun k _ => by simp), hb1⟩
    case round =>
      obtain ⟨k, hk, rfl, own, hbel⟩ := hrel
      by_cases hlt : k < n
      · obtain ⟨g, rfl⟩ := own.row (by omega)
        have hc := own.cell hlt
        have hc : wr.cell? ⟨g, k, none⟩ = some (.int .i64 (f k)) := by rw [hc]; simp
        have hfr := own.frozen k
        have hg := own.lt g rfl
        have bk := hb k hlt
        have hcap := own.cap
        have e0 : f k + shiftBy d true = f k := Int.add_zero _
        have CK := CC.out (f k)
        rw [e0] at CK
        have HO := Lib.hid (fun r (hr : clip d true (f k) = r) => (own.stored k r).congr (g := fun j => if j < k + 1 then clip d true (f j) else f j) (fun j hj => by
          by_cases e : j = k
          · subst e; simp [hr]
          · have : (j < k + 1) = (j < k) := by simp; omega
            simp [e, this]))
        have HB := Lib.hid (fun r => hbel.setCell (p := ⟨g, k, none⟩) hg.1 (.int .i64 r))
        clear own hbel
        rcases CK with ⟨x1, x2, hr⟩ | ⟨x1, x2, hr⟩ | ⟨x1, x2, hr⟩
        all_goals
          have HO := Lib.hid (HO.out _ hr)
          clear CC hr
          go_wp2_with fail
          go_roundw
          case rel => exact ⟨k + 1, by omega, by go_num, HO.out, HB.out _⟩
          case measure => simp [intOf]; omega
      · obtain rfl : k = n := by omega
        have i1 := (own.congr (g := fun j => clip d true (f j)) (fun j hj => by simp [hj])).ints
        go_wp2_with fail
        go_ret
        exact ⟨_, _, rfl, i1, hbel⟩
end Go.Proofs.Ytemkeohclmgefaa
