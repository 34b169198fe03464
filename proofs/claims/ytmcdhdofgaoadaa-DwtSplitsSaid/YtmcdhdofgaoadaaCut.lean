/- CONTRACT of dwt.cut: a part of a plane. -/
import Derived.Test.YtmcdhdofgaoadaaParts
import Derived.Deep.Onto
namespace Go.Proofs.Ytmcdhdofgaoadaa
open Go.RowKit
set_option maxHeartbeats 4000000
set_option linter.unusedVariables false
set_option linter.unusedSimpArgs false

theorem OwnI.base {w : World} {B B' : Nat} {T : TypeId} {v : Value} {n : Nat} {f : Nat → Int} (h : OwnI w B T v n f) (hb : B' ≤ B) : OwnI w B' T v n f := World.ownsRow.mono h hb

/-- a part of a plane of width W: n wide, from column a and row b on -/
def cutF (W a b n : Nat) (f : Nat → Int) (k : Nat) : Int := f ((b + k / n) * W + a + k % n)

theorem mul_le_of {j m W H b : Nat} (h : b + m ≤ H) (hj : j < m) : (b + j) * W + W ≤ H * W := by
  have : (b + j) * W + W = (b + j + 1) * W := by rw [Nat.add_mul (b + j) 1 W, Nat.one_mul]
  rw [this]; exact Nat.mul_le_mul_right W (by omega)
theorem join_cut {W a b n j : Nat} {f : Nat → Int} {Q P : Nat} (hQ : j * n = Q) (hP : (b + j) * W = P) (k : Nat) (hk : k < Q + n) : joinRow Q (cutF W a b n f) (fun i => f (P + a + i)) k = cutF W a b n f k := by
  unfold joinRow
  split
  · rfl
  · rename_i h
    obtain ⟨i, hi⟩ : ∃ i, k = Q + i := ⟨k - Q, by omega⟩
    subst hi
    have hin : i < n := by omega
    unfold cutF
    rw [← hQ, Nat.mul_comm j n, Nat.add_comm (n * j) i, Nat.add_mul_div_left _ _ (by omega), Nat.add_mul_mod_self_left, Nat.div_eq_of_lt hin, Nat.mod_eq_of_lt hin, Nat.zero_add, hP, Nat.mul_comm n j, hQ, Nat.add_sub_cancel]

/-- a part of a row: as a value, and what lies there -/
theorem slice_ints {P : Program} (t e : TypeId) (hinfo : (P.info? e).map (fun i => (i.zero, i.size, i.bytes)) = some (some (.int .i64 0), 1, 8)) (ht : P.underlying t = some (.slice e)) {w : World} {B : Nat} {A : Option Addr} {N c lo n : Nat} {f : Nat → Int} (h : IntsAt w B A N f) (hN : lo + n ≤ N) (hc : N ≤ c) (l r : Int) (hl : l = lo) (hr : r = ((lo + n : Nat) : Int)) :
    ∃ A' c', n ≤ c' ∧ (∀ u, (Instr.sliceAt t (.slice A N c) (some (.int .i64 l)) (some (.int .i64 r)) none).run P u = .ok (.slice A' n c') u) ∧ IntsAt w B A' n (fun j => f (lo + j)) := by
  obtain ⟨i, hi, hz0, hz1, hz2⟩ := info_parts hinfo
  have he : P.elem t = e := by simp [Program.elem, ht]
  have ht' : P.underlying t = some (.slice (P.elem t)) := by rw [he]; exact ht
  subst hl hr
  refine ⟨_, c - lo, by omega, fun u => ?_, h.shift (k := lo) (m := n) (cap := c) hN hc⟩
  rw [run_sliceAt_slice _ _ _ _ _ _ ht', run_slice_lh _ _ _ _ _ ht' _ _ _ _ (by omega) (by omega) (by omega)]
  have e1 : ((lo : Nat) : Int).toNat = lo := by omega
  have e2 : (((lo + n : Nat) : Nat) : Int).toNat = lo + n := by omega
  rw [e1, e2, he]
  simp [sizeOf, typeInfo, hi, hz1, sliced]

theorem cut_any (A : Option Addr) (W H c : Nat) (f : Nat → Int) (a b n m : Nat) (w : World) (N : Nat) (hN : H * W = N) (ha : IntsAt w w.heap.size A N f) (hc : N ≤ c) (hN2 : N ≤ 1099511627776) (hW : W ≤ 1048576) (hH : H ≤ 1048576) (h1 : a + n ≤ W) (h2 : b + m ≤ H) :
    Calls Try.prog 30 #[.slice A N c, .int .i64 W, rectV a b n m] w fun e w' => ∃ A' c', e = .returned (.slice A' (m * n) c') ∧ OwnI w' w.heap.size 3 (.slice A' (m * n) c') (m * n) (cutF W a b n f) ∧ Below w.heap.size w w' := by
  obtain ⟨M, hM⟩ : ∃ M, m * n = M := ⟨_, rfl⟩
  have hM2 : M ≤ N := by rw [← hM, ← hN]; exact Nat.mul_le_mul (by omega) (by omega)
  rw [hM]
  have s0 : IntKind.i64.wrap ((n : Int) * m) = (M : Int) := by
    rw [show (n : Int) * m = (M : Int) by rw [← hM, Nat.mul_comm m n]; simp]
    exact IntWalk.i64_in _ (by omega)
  have s1 : IntKind.i64.wrap ((a : Int) + n - a) = n := by rw [show (a : Int) + n - a = n by omega]; exact IntWalk.i64_in _ (by omega)
  have s2 : IntKind.i64.wrap ((b : Int) + m - b) = m := by rw [show (b : Int) + m - b = m by omega]; exact IntWalk.i64_in _ (by omega)
  have hmk := fun u => run_make0 (P := Try.prog) 24 3 int_info Try.underlying24 .i64 .i64 M (by omega) u
  have HM := Lib.hid hM
  have HN := Lib.hid hN
  clear hM hN
  unfold rectV
  go_enter Try.func30, Try.ntmps30
  go_wp2_with fail
  clear hmk s0 s1 s2
  generalize hwa : World.alloc w _ = wa
  have c0 : wa.cell? ⟨w.heap.size, 0, none⟩ = some (.int .i64 a) := by rw [← hwa]; simp
  have c1 : wa.cell? ⟨w.heap.size, 1, none⟩ = some (.int .i64 b) := by rw [← hwa]; simp
  have c2 : wa.cell? ⟨w.heap.size, 2, none⟩ = some (.int .i64 ((a : Int) + n)) := by rw [← hwa]; simp
  have c3 : wa.cell? ⟨w.heap.size, 3, none⟩ = some (.int .i64 ((b : Int) + m)) := by rw [← hwa]; simp
  have hba : Below w.heap.size w wa := by rw [← hwa]; exact below_alloc (Below.refl _ _) _
  have hsa : wa.heap.size = w.heap.size + 1 := by rw [← hwa]; simp
  clear hwa
  have ho : OwnI (wa.alloc (.cells (madeCells #[.int .i64 0] M) 3)) wa.heap.size 3 (.slice (some ⟨wa.heap.size, 0, none⟩) 0 M) 0 (cutF W a b n f) := OwnI.made0 wa wa.heap.size M _ _ (Nat.le_refl _) (by omega)
  rw [hsa] at ho
  go_loopw [7, 8] (fun out y wr => ∃ (j Q cx : Nat) (X : Option Addr), j ≤ m ∧ j * n = Q ∧ out = .slice X Q cx ∧ y = .int .i64 ((b : Int) + j) ∧ OwnI wr (w.heap.size + 1) 3 (.slice X Q cx) Q (cutF W a b n f) ∧ Below (w.heap.size + 1) wa wr) (fun _ y _ => m + b - (intOf y).toNat)
  case atStart => exact ⟨0, 0, M, _, Nat.zero_le _, Nat.zero_mul _, rfl, by simp, ho, by rw [← hsa]; exact below_alloc (Below.refl _ _) _⟩
  case round =>
    obtain ⟨j, Q, cx, X, hj, hQ, rfl, rfl, own, hbel⟩ := hrel
    have HQ := Lib.hid hQ
    clear hQ ho
    have c0 := (hbel.cell (p := ⟨w.heap.size, 0, none⟩) (Nat.lt_succ_self _)).trans c0
    have c1 := (hbel.cell (p := ⟨w.heap.size, 1, none⟩) (Nat.lt_succ_self _)).trans c1
    have c2 := (hbel.cell (p := ⟨w.heap.size, 2, none⟩) (Nat.lt_succ_self _)).trans c2
    have c3 := (hbel.cell (p := ⟨w.heap.size, 3, none⟩) (Nat.lt_succ_self _)).trans c3
    have hsz := hbel.size
    by_cases hlt : j < m
    · have hPW := mul_le_of (W := W) h2 hlt
      rw [HN.out] at hPW
      obtain ⟨P, hP⟩ : ∃ P, (b + j) * W = P := ⟨_, rfl⟩
      rw [hP] at hPW
      have sP : IntKind.i64.wrap (((b : Int) + j) * W) = (P : Int) := by
        rw [show ((b : Int) + j) * W = (P : Int) by rw [← hP]; simp]
        exact IntWalk.i64_in _ (by omega)
      have HP := Lib.hid hP
      clear hP
      obtain ⟨A', c', hc', hsl, hI⟩ := slice_ints (P := Try.prog) 24 3 int_info Try.underlying24 (lo := P + a) (n := n) ((ha.below hba).below (hbel.mono (Nat.le_succ _))) (by omega) hc ((P : Int) + a) ((P : Int) + ((a : Int) + n)) (by omega) (by omega)
      have hQM : Q + n ≤ M := by
        have := Nat.mul_le_mul_right n (show j + 1 ≤ m by omega)
        rw [HM.out, Nat.add_mul, HQ.out, Nat.one_mul] at this
        exact this
      clear ha
      go_wp2_with (first
        | (at_builtin; refine wpList_appN rfl _ _ 24 rfl 3 int_info Try.underlying24 (w.heap.size + 1) X Q cx (cutF W a b n f) rfl own _ A' n c' _ rfl hI (by omega) (by omega) ?_; intro A2 c2 w2 o2 st2))
      have hb1 : Below (w.heap.size + 1) wa w2 := hbel.trans st2.below
      have o3 := o2.congr (fun k hk => join_cut HQ.out HP.out k hk)
      clear o2 st2 hbel own
      go_wp2_with fail
      go_roundw
      case rel => exact ⟨j + 1, Q + n, c2, A2, by omega, by rw [Nat.add_mul, HQ.out, Nat.one_mul], rfl, by go_num, o3, hb1⟩
      case measure => simp [intOf]; omega
    · obtain rfl : j = m := by omega
      obtain rfl : Q = M := HQ.out.symm.trans HM.out
      have hb1 : Below w.heap.size w wr := hba.trans (hbel.mono (Nat.le_succ _))
      have o3 := own.base (Nat.le_succ _)
      go_wp2_with fail
      go_ret
      exact ⟨X, cx, rfl, o3, hb1⟩
end Go.Proofs.Ytmcdhdofgaoadaa
