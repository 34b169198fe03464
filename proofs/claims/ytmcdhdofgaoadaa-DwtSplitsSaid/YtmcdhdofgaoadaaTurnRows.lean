/- CONTRACT of dwt.rows: each row is turned by a function. -/
import Derived.Test.YtmcdhdofgaoadaaColumns
import Derived.Deep.RegionHeld3
namespace Go.Proofs.Ytmcdhdofgaoadaa
open Go.RowKit
set_option maxHeartbeats 4000000
set_option linter.unusedVariables false
set_option linter.unusedSimpArgs false

/-- each row turned by D -/
def rowsF (W : Nat) (D : (Nat → Int) → Nat → Int) (f : Nat → Int) (k : Nat) : Int := D (fun x => f (k / W * W + x)) (k % W)
/-- .. those above row y -/
def rowP (W : Nat) (D : (Nat → Int) → Nat → Int) (f : Nat → Int) (y k : Nat) : Int := if k / W < y then rowsF W D f k else f k

theorem slice_plane {P : Program} (t : TypeId) (hinfo : (P.info? 3).map (fun i => (i.zero, i.size, i.bytes)) = some (some (.int .i64 0), 1, 8)) (ht : P.underlying t = some (.slice 3)) {w : World} {B g : Nat} {N lo n : Nat} {f : Nat → Int} (h : PInt w g N f) (hgB : g < B) (hN : lo + n ≤ N) (l r : Int) (hl : l = lo) (hr : r = ((lo + n : Nat) : Int)) :
    ∃ A' c', n ≤ c' ∧ (0 < n → A' = some ⟨g, lo, none⟩) ∧ (∀ u, (Instr.sliceAt t (.slice (some ⟨g, 0, none⟩) N N) (some (.int .i64 l)) (some (.int .i64 r)) none).run P u = .ok (.slice A' n c') u) ∧ IntsAt w B A' n (fun j => f (lo + j)) := by
  obtain ⟨i, hi, hz0, hz1, hz2⟩ := info_parts hinfo
  have he : P.elem t = 3 := by simp [Program.elem, ht]
  have ht' : P.underlying t = some (.slice (P.elem t)) := by rw [he]; exact ht
  subst hl hr
  refine ⟨_, N - lo, by omega, fun h0 => ?_, fun u => ?_, (h.ints hgB).shift (k := lo) (m := n) (cap := N) hN (Nat.le_refl _)⟩
  · rw [if_neg (by omega)]
    simp [Addr.add]
    intro h; exact h.symm
  · rw [run_sliceAt_slice _ _ _ _ _ _ ht', run_slice_lh _ _ _ _ _ ht' _ _ _ _ (by omega) (by omega) (by omega)]
    have e1 : ((lo : Nat) : Int).toNat = lo := by omega
    have e2 : (((lo + n : Nat) : Nat) : Int).toNat = lo + n := by omega
    rw [e1, e2, he]
    simp [sizeOf, typeInfo, hi, hz1, sliced]

theorem rowP_step {W P y k : Nat} (D : (Nat → Int) → Nat → Int) (f : Nat → Int) (hP : y * W = P) (hW : 0 < W) : overF P W (D fun x => f (P + x)) (rowP W D f y) k = rowP W D f (y + 1) k := by
  unfold overF
  by_cases h : P ≤ k ∧ k < P + W
  · rw [if_pos h]
    obtain ⟨x, hx⟩ : ∃ x, k = P + x := ⟨k - P, by omega⟩
    subst hx
    have hxW : x < W := by omega
    unfold rowP
    rw [at_div hP hxW, if_pos (Nat.lt_succ_self y)]
    unfold rowsF
    rw [at_div hP hxW, at_mod hP hxW, hP, Nat.add_sub_cancel_left]
  · rw [if_neg h]
    have hne : k / W ≠ y := by
      intro e
      apply h
      have h1 := Nat.div_add_mod k W
      have h2 := Nat.mod_lt k hW
      rw [e, Nat.mul_comm, hP] at h1
      omega
    unfold rowP
    have : (k / W < y) = (k / W < y + 1) := by apply propext; omega
    simp only [this]

theorem rows_any (F : FuncId) (caps : Array Value) (hF : ∀ (args : Array Value) (w : World), (callFunc F args).run Try.prog w = .ok (.enter F args) w)
    (g N W H : Nat) (hN : H * W = N) (hN2 : N ≤ 1099511627776) (hW : W ≤ 1048576) (hH : H ≤ 1048576) (D : (Nat → Int) → Nat → Int) (M : Int) (f : Nat → Int) (B : Nat) (w0 w : World) (hp : PInt w g N f) (hb : Below B w0 w) (hBg : B ≤ g) (hM : Within N M f)
    (hdo : ∀ (A : Option Addr) (c : Nat) (h : Nat → Int) (w1 : World), Below B w0 w1 → IntsAt w1 w1.heap.size A W h → Within W M h → Hid (Calls Try.prog F (#[.slice A W c] ++ caps) w1 fun e w2 => ∃ A' c', e = .returned (.slice A' W c') ∧ OwnI w2 w1.heap.size 3 (.slice A' W c') W (D h) ∧ Below w1.heap.size w1 w2)) :
    Calls Try.prog 26 #[.slice (some ⟨g, 0, none⟩) N N, .int .i64 W, .int .i64 H, .func (.func F) #[] caps] w fun e w' => e = .returned (.tuple #[]) ∧ PInt w' g N (rowsF W D f) ∧ Below B w0 w' := by
  have HF := Lib.hid hF
  have HN := Lib.hid hN
  clear hF hN
  go_enter Try.func26, Try.ntmps26
  go_wp2_with fail
  go_loopw [10] (fun i wr => ∃ y : Nat, y ≤ H ∧ i = .int .i64 y ∧ PInt wr g N (rowP W D f y) ∧ Below B w0 wr) (fun i _ => H - (intOf i).toNat)
  case atStart => exact ⟨0, Nat.zero_le _, rfl, hp.congr fun k hk => by unfold rowP; rw [if_neg (Nat.not_lt_zero _)], hb⟩
  case round =>
    obtain ⟨y, hy, rfl, pl, hbel⟩ := hrel
    clear hp hb
    by_cases hlt : y < H
    · obtain ⟨P, hP⟩ : ∃ P, y * W = P := ⟨_, rfl⟩
      have hPW : P + W ≤ N := by
        have := Nat.mul_le_mul_right W (show y + 1 ≤ H by omega)
        rw [HN.out, Nat.add_mul, hP, Nat.one_mul] at this
        exact this
      have sP : IntKind.i64.wrap ((y : Int) * W) = (P : Int) := by
        rw [show (y : Int) * W = (P : Int) by rw [← hP]; simp]
        exact IntWalk.i64_in _ (by omega)
      have sP2 : IntKind.i64.wrap (((y : Int) + 1) * W) = (P : Int) + W := by
        rw [show ((y : Int) + 1) * W = (P : Int) + W by rw [← hP, Int.add_mul]; simp]
        exact IntWalk.i64_in _ (by omega)
      have s3 : IntKind.i64.wrap ((y : Int) + 1) = (y : Int) + 1 := IntWalk.i64_in _ (by omega)
      obtain ⟨A', c', hc', hA', hsl, hI⟩ := slice_plane (P := Try.prog) 24 int_info Try.underlying24 (lo := P) (n := W) pl pl.lt hPW (P : Int) ((P : Int) + W) rfl (by omega)
      have hI2 := hI.congr (g := fun x => f (P + x)) (fun x hx => by unfold rowP; rw [at_div hP hx, if_neg (Nat.lt_irrefl _)])
      have pld : PInt wr.drew g N (rowP W D f y) := pl
      have hbd : Below B w0 wr.drew := hbel.drew
      have hI3 : IntsAt wr.drew wr.drew.heap.size A' W (fun x => f (P + x)) := hI2
      obtain ⟨wd, hwd⟩ : ∃ wd, wd = wr.drew := ⟨_, rfl⟩
      rw [← hwd] at pld hbd hI3
      have DO := hdo A' c' _ wd hbd hI3 (fun x hx => hM _ (by omega))
      rw [hwd] at DO
      have HWD := Lib.hid hwd
      have HP := Lib.hid hP
      have hF := HF.out
      have HA := Lib.hid hA'
      clear hI hI2 hI3 hP hA' pl hbel hwd
      go_wp2_with fail
      go_region_law (first
          | (go_simp; refine DO.out.mono ?_; rintro e w2 ⟨A2, c2, rfl, o2, hb2⟩; dsimp only; rw [← HWD.out] at o2 hb2; have p2 := pld.below hb2 pld.lt; have b2 := hbd.trans (hb2.mono (Nat.le_of_lt (Nat.lt_of_le_of_lt hBg pld.lt))); have i2 := o2.ints)
          | (refine step_copyI rfl _ _ 24 (by rfl) Try.underlying24 (by kernel_rfl) A' A2 W c' W c2 (by rfl) (by rfl) g N P W _ _ p2 (Nat.min_self W).symm HA.out _ i2 hPW B w0 b2 hBg ?_; intro w3 p3 b3)
          | fail)
      all_goals
        clear p2 b2 i2 o2 hb2 DO hF
        rename_i hw0
        have p4 := p3.congr (h := rowP W D f (y + 1)) (fun k hk => by
          rcases Nat.eq_zero_or_pos W with h0 | h0
          · have := HN.out; rw [h0, Nat.mul_zero] at this; omega
          · exact rowP_step D f HP.out h0)
        clear p3
        go_wp2_with fail
        go_roundw
        case rel => exact ⟨y + 1, by omega, by go_num, p4, b3⟩
        case measure => simp [intOf]; omega
    · obtain rfl : y = H := by omega
      have p4 := pl.congr (h := rowsF W D f) (fun k hk => by
        unfold rowP
        rw [if_pos]
        rw [← HN.out] at hk
        exact Nat.div_lt_of_lt_mul (by rwa [Nat.mul_comm] at hk))
      go_wp2_with fail
      go_end0
      exact ⟨rfl, p4, hbel⟩
end Go.Proofs.Ytmcdhdofgaoadaa
