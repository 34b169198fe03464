/- CONTRACTS of package color: middle, Shift, Unshift; of waveletref11: Bounds, Shift, Unshift. -/
import Derived.Test.YtemkeohclmgefaaColor
import Derived.Test.YtemkeohclmgefaaMem3
namespace Go.Proofs.Ytemkeohclmgefaa
open Go.RowKit
set_option maxHeartbeats 1000000
set_option linter.unusedVariables false

theorem cell_new' (w : World) (x : Value) (T : TypeId) : (w.alloc (.cells #[x] T)).cell? ⟨w.heap.size, 0, none⟩ = some x := by simp
theorem cell_new'' (w : World) (x : Value) (T : TypeId) (b : Nat) (h : w.heap.size = b) : (w.alloc (.cells #[x] T)).cell? ⟨b, 0, none⟩ = some x := by subst h; simp
theorem cell_al' {w : World} {a : Addr} {v : Value} (h : w.cell? a = some v) (o : Obj) : (w.alloc o).cell? a = some v := by rw [World.cell?_alloc_lt _ _ _ (World.block_lt_of_cell? _ _ h), h]
/-- half of what samples of depth d can be -/
def halfOf (d : Nat) : Int := 2 ^ (d - 1)
theorem halfOf_bd {d : Nat} (h1 : 1 ≤ d) (h2 : d ≤ 16) : 1 ≤ halfOf d ∧ halfOf d ≤ 32768 := by
  unfold halfOf
  have e : (2 : Int) ^ (d - 1) = ((2 ^ (d - 1) : Nat) : Int) := by simp
  have a : 2 ^ (d - 1) ≤ 2 ^ 15 := Nat.pow_le_pow_right (by omega) (by omega)
  have b : 0 < 2 ^ (d - 1) := Nat.pow_pos (by omega)
  rw [e]
  omega
theorem half_wrap {d : Nat} (h1 : 1 ≤ d) (h2 : d ≤ 16) : IntKind.i64.wrap (2 ^ (d - 1)) = halfOf d := by
  have := halfOf_bd h1 h2
  exact IntWalk.i64_in _ (show _ ∧ _ by unfold halfOf at this; omega)

def shiftBy (d : Nat) (s : Bool) : Int := if s then 0 else halfOf d
theorem shiftBy_bd {d : Nat} (h1 : 1 ≤ d) (h2 : d ≤ 16) (s : Bool) : 0 ≤ shiftBy d s ∧ shiftBy d s ≤ 32768 := by
  have := halfOf_bd h1 h2
  unfold shiftBy
  split <;> omega

theorem middle_any (d : Nat) (h1 : 1 ≤ d) (h2 : d ≤ 16) (s : Bool) (w : World) :
    Calls Try.prog 28 #[.int .i64 d, .bool s] w fun e w' => e = .returned (.int .i64 (shiftBy d s)) ∧ w = w' := by
  have hd : ¬ ((d : Int) < 1) := by omega
  have hw := half_wrap h1 h2
  cases s
  · go_enter Try.func28, Try.ntmps28
    go_wp2_with fail
    go_ret
    exact ⟨rfl, rfl⟩
  · go_enter Try.func28, Try.ntmps28
    go_wp2_with fail
    go_ret
    exact ⟨rfl, rfl⟩

theorem shift1_any (x m : Int) (p : Nat) (w : World) (hc : w.cell? ⟨p, 0, none⟩ = some (.int .i64 m)) (hx : -1099511627776 ≤ x ∧ x ≤ 1099511627776) (hm : -1099511627776 ≤ m ∧ m ≤ 1099511627776) :
    Calls Try.prog 30 #[.int .i64 x, .pointer (some ⟨p, 0, none⟩)] w fun e w' => e = .returned (.int .i64 (x - m)) ∧ w' = w := by
  have s1 : IntKind.i64.wrap (x - m) = x - m := IntWalk.i64_in _ (by omega)
  go_enter Try.func30, Try.ntmps30
  go_wp2_with fail
  go_ret
  exact ⟨rfl, rfl⟩

theorem shift_any (d : Nat) (h1 : 1 ≤ d) (h2 : d ≤ 16) (s : Bool) (A : Option Addr) (n c : Nat) (f : Nat → Int) (w : World) (ha : IntsAt w w.heap.size A n f) (hn : n ≤ 1099511627776) (hb : ∀ k, k < n → -1099511627776 ≤ f k ∧ f k ≤ 1099511627776) :
    Calls Try.prog 20 #[.int .i64 d, .bool s, .slice A n c] w fun e w' => ∃ A', e = .returned (.slice A' n n) ∧ IntsAt w' w'.heap.size A' n (fun k => f k - shiftBy d s) ∧ Below w.heap.size w w' := by
  have hF : ∀ (args : Array Value) (w : World), (callFunc 30 args).run Try.prog w = .ok (.enter 30 args) w := fun _ _ => by kernel_rfl
  have HF := Lib.hid hF
  have hm := shiftBy_bd h1 h2 s
  clear hF
  go_enter Try.func20, Try.ntmps20
  go_wp2_with fail
  refine (middle_any d h1 h2 s w).mono ?_
  rintro e w1 ⟨rfl, rfl⟩
  go_wp2_with fail
  refine (each_ints _ _ HF.out A n c f (fun k => f k - shiftBy d s) _ ((ha.alloc (Nat.le_refl _) _).more (by simp)) hn ?_).mono ?_
  · intro k w1 hk hb1
    exact Lib.hid ((shift1_any _ _ _ w1 (by rw [hb1.cell (by simp)]; exact cell_new' _ _ _) (hb k hk) (by omega)).mono fun _ _ ⟨h, h'⟩ => ⟨h, 0, h'⟩)
  · rintro e w2 ⟨B, rfl, j1, hb1⟩
    have hB := below_trans (below_alloc (Below.refl _ w) (.cells #[.int .i64 (shiftBy d s)] 3)) hb1
    go_wp2_with fail
    go_ret
    exact ⟨B, rfl, j1, hB⟩

/-- what Unshift makes of one sample -/
def clip (d : Nat) (s : Bool) (x : Int) : Int := min (max x (-halfOf d)) (halfOf d - 1) + shiftBy d s

theorem unshift1_any (x m : Int) (d : Nat) (s : Bool) (h1 : 1 ≤ d) (h2 : d ≤ 16) (p q : Nat) (w : World) (hc : w.cell? ⟨p, 0, none⟩ = some (.int .i64 (halfOf d))) (hc' : w.cell? ⟨q, 0, none⟩ = some (.int .i64 (shiftBy d s))) (hx : -1099511627776 ≤ x ∧ x ≤ 1099511627776) :
    Calls Try.prog 31 #[.int .i64 x, .pointer (some ⟨p, 0, none⟩), .pointer (some ⟨q, 0, none⟩)] w fun e w' => e = .returned (.int .i64 (clip d s x)) ∧ w' = w := by
  have hh := halfOf_bd h1 h2
  have hm := shiftBy_bd h1 h2 s
  unfold clip
  generalize halfOf d = H at *
  generalize shiftBy d s = M at *
  have s0 : IntKind.i64.wrap (-H) = -H := IntWalk.i64_in _ (by omega)
  have s1 : IntKind.i64.wrap (H - 1) = H - 1 := IntWalk.i64_in _ (by omega)
  by_cases hlo : x < -H
  · have e1 : min (max x (-H)) (H - 1) + M = -H + M := by omega
    have s2 : IntKind.i64.wrap (-H + M) = -H + M := IntWalk.i64_in _ (by omega)
    have n1 : ¬ (H - 1 < -H) := by omega
    rw [e1]
    clear e1
    go_enter Try.func31, Try.ntmps31
    go_wp2_with fail
    go_ret
    exact ⟨rfl, rfl⟩
  · by_cases hhi : H - 1 < x
    · have e1 : min (max x (-H)) (H - 1) + M = H - 1 + M := by omega
      have s2 : IntKind.i64.wrap (H - 1 + M) = H - 1 + M := IntWalk.i64_in _ (by omega)
      rw [e1]
      clear e1
      go_enter Try.func31, Try.ntmps31
      go_wp2_with fail
      go_ret
      exact ⟨rfl, rfl⟩
    · have e1 : min (max x (-H)) (H - 1) + M = x + M := by omega
      have s2 : IntKind.i64.wrap (x + M) = x + M := IntWalk.i64_in _ (by omega)
      rw [e1]
      clear e1
      go_enter Try.func31, Try.ntmps31
      go_wp2_with fail
      go_ret
      exact ⟨rfl, rfl⟩

theorem unshift_any (d : Nat) (h1 : 1 ≤ d) (h2 : d ≤ 16) (s : Bool) (A : Option Addr) (n c : Nat) (f : Nat → Int) (w : World) (ha : IntsAt w w.heap.size A n f) (hn : n ≤ 1099511627776) (hb : ∀ k, k < n → -1099511627776 ≤ f k ∧ f k ≤ 1099511627776) :
    Calls Try.prog 22 #[.int .i64 d, .bool s, .slice A n c] w fun e w' => ∃ A', e = .returned (.slice A' n n) ∧ IntsAt w' w'.heap.size A' n (fun k => clip d s (f k)) ∧ Below w.heap.size w w' := by
  have hF : ∀ (args : Array Value) (w : World), (callFunc 31 args).run Try.prog w = .ok (.enter 31 args) w := fun _ _ => by kernel_rfl
  have HF := Lib.hid hF
  clear hF
  go_enter Try.func22, Try.ntmps22
  go_wp2_with fail
  refine (middle_any d h1 h2 s w).mono ?_
  rintro e w1 ⟨rfl, rfl⟩
  go_wp2_with fail
  refine (middle_any d h1 h2 false _).mono ?_
  rintro e w1 ⟨rfl, rfl⟩
  go_wp2_with fail
  have hB0 := below_alloc (below_alloc (Below.refl _ w) (.cells #[.int .i64 (shiftBy d s)] 3)) (.cells #[.int .i64 (shiftBy d false)] 3)
  refine (each_ints _ _ HF.out A n c f (fun k => clip d s (f k)) _ ((ha.below hB0).more hB0.size) hn ?_).mono ?_
  · intro k w1 hk hb1
    refine Lib.hid ((unshift1_any _ 0 d s h1 h2 _ _ w1 ?_ ?_ (hb k hk)).mono fun _ _ ⟨h, h'⟩ => ⟨h, 0, h'⟩)
    · rw [hb1.cell (by simp)]
      exact cell_new'' _ _ _ _ (by simp)
    · rw [hb1.cell (by simp; omega)]
      exact cell_al' (cell_new' _ _ _) _
  · rintro e w2 ⟨B, rfl, j1, hb1⟩
    have hB := below_trans hB0 hb1
    go_wp2_with fail
    go_ret
    exact ⟨B, rfl, j1, hB⟩

theorem bounds_any (d : Nat) (h1 : 1 ≤ d) (h2 : d ≤ 16) (s : Bool) (w : World) :
    Calls Try.prog 21 #[.int .i64 d, .bool s] w fun e w' => e = .returned (.tuple #[.int .i64 (shiftBy d s - halfOf d), .int .i64 (halfOf d - 1 + shiftBy d s)]) ∧ w' = w := by
  have hd : ¬ ((d : Int) < 1) := by omega
  have hw := half_wrap h1 h2
  have hh := halfOf_bd h1 h2
  cases s
  · have e1 : shiftBy d false - halfOf d = 0 := by show halfOf d - halfOf d = 0; omega
    have e2 : halfOf d - 1 + shiftBy d false = 2 * halfOf d - 1 := by show halfOf d - 1 + halfOf d = _; omega
    rw [e1, e2]
    clear e1 e2
    go_enter Try.func21, Try.ntmps21
    go_wp2_with fail
    go_ret2
    exact ⟨rfl, rfl⟩
  · have e1 : shiftBy d true - halfOf d = 0 - halfOf d := rfl
    have e2 : halfOf d - 1 + shiftBy d true = halfOf d - 1 := by show halfOf d - 1 + 0 = _; omega
    rw [e1, e2]
    clear e1 e2
    go_enter Try.func21, Try.ntmps21
    go_wp2_with fail
    go_ret2
    exact ⟨rfl, rfl⟩
theorem rshift_any (d : Nat) (h1 : 1 ≤ d) (h2 : d ≤ 16) (s : Bool) (A : Option Addr) (n c : Nat) (f : Nat → Int) (w : World) (ha : IntsAt w w.heap.size A n f) (hn : n ≤ 1099511627776) (hb : ∀ k, k < n → -1099511627776 ≤ f k ∧ f k ≤ 1099511627776) :
    Calls Try.prog 23 #[.int .i64 d, .bool s, .slice A n c] w fun e w' => ∃ A' c', e = .returned (.slice A' n c') ∧ IntsAt w' w'.heap.size A' n (fun k => f k - shiftBy d s) ∧ Below w.heap.size w w' := by
  have hh := halfOf_bd h1 h2
  have hw := half_wrap h1 h2
  cases s
  · have em : ∀ j, f j - shiftBy d false = f j - halfOf d := fun _ => rfl
    go_enter Try.func23, Try.ntmps23
    go_wp2_with (at_builtin; refine wpList_copyE rfl _ _ 22 rfl 3 int_info Try.underlying22 w.heap.size rfl _ A n c f rfl ha (Nat.le_refl _) hn (Nat.le_refl _) ?_; intro A' cap w1 o1 hb1)
    go_loopw [8] (fun i wr => ∃ k : Nat, k ≤ n ∧ i = .int .i64 k ∧ OwnI wr w.heap.size 3 (.slice A' n cap) n (fun j => if j < k then f j - halfOf d else f j) ∧ Below w.heap.size w wr) (fun i _ => n - (intOf i).toNat)
    case atStart => exact ⟨0, Nat.zero_le _, rfl, o1.congr (fun k _ => by simp), hb1⟩
    case round =>
      obtain ⟨k, hk, rfl, own, hbel⟩ := hrel
      by_cases hlt : k < n
      · obtain ⟨g, rfl⟩ := own.row (by omega)
        have hc := own.cell hlt
        have hc : wr.cell? ⟨g, k, none⟩ = some (.int .i64 (f k)) := by rw [hc]; simp
        have hfr := own.frozen k
        have hg := own.lt g rfl
        have bk := hb k hlt
        have hcap := own.cap
        have s1 : IntKind.i64.wrap (f k - halfOf d) = f k - halfOf d := IntWalk.i64_in _ (by omega)
        have HO := Lib.hid ((own.stored k (f k - halfOf d)).congr (g := fun j => if j < k + 1 then f j - halfOf d else f j) (fun j hj => by
          by_cases e : j = k
          · subst e; simp
          · have : (j < k + 1) = (j < k) := by simp; omega
            simp [e, this]))
        have HB := Lib.hid (hbel.setCell (p := ⟨g, k, none⟩) hg.1 (.int .i64 (f k - halfOf d)))
        clear own hbel
        go_wp2_with fail
        go_roundw
        case rel => exact ⟨k + 1, by omega, by go_num, HO.out, HB.out⟩
        case measure => simp [intOf]; omega
      · obtain rfl : k = n := by omega
        have i1 := (own.congr (g := fun j => f j - halfOf d) (fun j hj => by simp [hj])).ints
        go_wp2_with fail
        go_ret
        exact ⟨_, _, rfl, i1, hbel⟩
  · go_enter Try.func23, Try.ntmps23
    go_wp2_with (at_builtin; refine wpList_copyE rfl _ _ 22 rfl 3 int_info Try.underlying22 w.heap.size rfl _ A n c f rfl ha (Nat.le_refl _) hn (Nat.le_refl _) ?_; intro A' cap w1 o1 hb1)
    have i1 := (o1.congr (g := fun j => f j - shiftBy d true) (fun j hj => by show f j = f j - 0; omega)).ints
    go_loopw [8] (fun i wr => i = .int .i64 0 ∧ wr = w1) (fun i _ => 1)
    case atStart => exact ⟨rfl, rfl⟩
    case round =>
      obtain ⟨rfl, rfl⟩ := hrel
      by_cases hn0 : 0 < n
      · go_wp2_with fail
        go_ret
        exact ⟨_, _, rfl, i1, hb1⟩
      · go_wp2_with fail
        go_ret
        exact ⟨_, _, rfl, i1, hb1⟩
end Go.Proofs.Ytemkeohclmgefaa
