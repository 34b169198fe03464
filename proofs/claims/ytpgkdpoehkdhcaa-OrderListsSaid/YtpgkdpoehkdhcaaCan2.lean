/- COMPONENTS IN MEMORY; CONTRACT of canvas.picture. -/
import Derived.Test.YtpgkdpoehkdhcaaCan1
namespace Go.Proofs.Ytpgkdpoehkdhcaa
open Go.RowKit
set_option maxHeartbeats 8000000
set_option linter.unusedVariables false
set_option linter.unusedSimpArgs false

/-- a component's numbers, and where its samples lie -/
structure CompD where
  dp : Int
  sg : Bool
  dx : Int
  dy : Int
  A : Option Addr
  n : Nat
  c : Nat
/-- a slice of components -/
def CompsAt (w : World) (B : Nat) (A : Option Addr) (n : Nat) (F : Nat → CompD) : Prop :=
  0 < n → ∃ b off, A = some ⟨b, off, none⟩ ∧ b < B ∧ ∀ k, k < n → w.cell? ⟨b, off + k * 5, none⟩ = some (.int .i64 (F k).dp) ∧ w.cell? ⟨b, off + k * 5 + 1, none⟩ = some (.bool (F k).sg) ∧ w.cell? ⟨b, off + k * 5 + 2, none⟩ = some (.int .i64 (F k).dx) ∧ w.cell? ⟨b, off + k * 5 + 3, none⟩ = some (.int .i64 (F k).dy) ∧ w.cell? ⟨b, off + k * 5 + 4, none⟩ = some (.slice (F k).A (F k).n (F k).c)
theorem CompsAt.below {w w' : World} {B : Nat} {A : Option Addr} {n : Nat} {F : Nat → CompD} (h : CompsAt w B A n F) (hb : Below B w w') : CompsAt w' B A n F := fun h0 => by
  obtain ⟨b, off, rfl, hlt, hk⟩ := h h0
  refine ⟨b, off, rfl, hlt, fun k hkn => ?_⟩
  obtain ⟨h1, h2, h3, h4, h5⟩ := hk k hkn
  exact ⟨(hb.cell (p := ⟨b, off + k * 5, none⟩) hlt).trans h1, (hb.cell (p := ⟨b, off + k * 5 + 1, none⟩) hlt).trans h2, (hb.cell (p := ⟨b, off + k * 5 + 2, none⟩) hlt).trans h3, (hb.cell (p := ⟨b, off + k * 5 + 3, none⟩) hlt).trans h4, (hb.cell (p := ⟨b, off + k * 5 + 4, none⟩) hlt).trans h5⟩
theorem CompsAt.more {w : World} {B B' : Nat} {A : Option Addr} {n : Nat} {F : Nat → CompD} (h : CompsAt w B A n F) (hb : B ≤ B') : CompsAt w B' A n F := fun h0 => by
  obtain ⟨b, off, rfl, hlt, hk⟩ := h h0
  exact ⟨b, off, rfl, by omega, hk⟩
theorem CompsAt.at_ {w : World} {B : Nat} {A : Option Addr} {n k : Nat} {F : Nat → CompD} (h : CompsAt w B A n F) (hkn : k < n) : ∃ b off, A = some ⟨b, off, none⟩ ∧ b < B ∧ w.cell? ⟨b, off + k * 5, none⟩ = some (.int .i64 (F k).dp) ∧ w.cell? ⟨b, off + k * 5 + 1, none⟩ = some (.bool (F k).sg) ∧ w.cell? ⟨b, off + k * 5 + 2, none⟩ = some (.int .i64 (F k).dx) ∧ w.cell? ⟨b, off + k * 5 + 3, none⟩ = some (.int .i64 (F k).dy) ∧ w.cell? ⟨b, off + k * 5 + 4, none⟩ = some (.slice (F k).A (F k).n (F k).c) := by
  obtain ⟨b, off, rfl, hlt, hk⟩ := h (by omega)
  exact ⟨b, off, rfl, hlt, hk k hkn⟩
theorem CompsAt.drewN {w : World} {B : Nat} {A : Option Addr} {n : Nat} {F : Nat → CompD} (h : CompsAt w B A n F) (q : Nat) : CompsAt (w.drewN q) B A n F := h

def imgV (X Y Ox Oy : Int) (A : Option Addr) (n c : Nat) : Value := .agg #[.int .i64 X, .int .i64 Y, .int .i64 Ox, .int .i64 Oy, .slice A n c]
def compOk (d : CompD) : Bool := inB d.dp 1 16 && (inB d.dx 1 4 && inB d.dy 1 4)
def allOk (n : Nat) (F : Nat → CompD) : Bool := (List.range n).all fun k => compOk (F k)
theorem allOk_zero (F : Nat → CompD) : allOk 0 F = true := rfl
theorem allOk_succ (n : Nat) (F : Nat → CompD) : allOk (n + 1) F = (allOk n F && compOk (F n)) := by
  unfold allOk
  rw [List.range_succ, List.all_append]
  simp
theorem allOk_bad {n k : Nat} {F : Nat → CompD} (hk : k < n) (h : compOk (F k) = false) : allOk n F = false := by
  unfold allOk
  rw [List.all_eq_false]
  exact ⟨k, List.mem_range.2 hk, by simp [h]⟩
def pictureE (X Y Ox Oy : Int) (n : Nat) (F : Nat → CompD) : Int :=
  if Ox < 0 ∨ Oy < 0 ∨ X ≤ Ox ∨ Y ≤ Oy then 1 else if X > 64 ∨ Y > 64 then 14 else if inB n 1 4 then (if allOk n F then 0 else 1) else 4

theorem picture_any (X Y Ox Oy : Int) (A : Option Addr) (n c : Nat) (F : Nat → CompD) (w : World) (ha : CompsAt w w.heap.size A n F) :
    Calls Try.prog 38 #[imgV X Y Ox Oy A n c] w fun e w' => e = .returned (.int .i64 (pictureE X Y Ox Oy n F)) ∧ Below w.heap.size w w' := by
  unfold imgV
  have hb := below_alloc (Below.refl w.heap.size w) (.cells #[.int .i64 X, .int .i64 Y, .int .i64 Ox, .int .i64 Oy, .slice A n c] 28)
  have W0 := Lib.hid (fun v => in_any n 1 4 v)
  unfold pictureE
  by_cases h1 : Ox < 0
  · rw [if_pos (.inl h1)]
    go_enter Try.func38, Try.ntmps38
    go_wp2_with fail
    go_ret
    exact ⟨rfl, hb⟩
  by_cases h2 : Oy < 0
  · rw [if_pos (.inr (.inl h2))]
    go_enter Try.func38, Try.ntmps38
    go_wp2_with fail
    go_ret
    exact ⟨rfl, hb⟩
  by_cases h3 : X ≤ Ox
  · rw [if_pos (.inr (.inr (.inl h3)))]
    go_enter Try.func38, Try.ntmps38
    go_wp2_with fail
    go_ret
    exact ⟨rfl, hb⟩
  by_cases h4 : Y ≤ Oy
  · rw [if_pos (.inr (.inr (.inr h4)))]
    go_enter Try.func38, Try.ntmps38
    go_wp2_with fail
    go_ret
    exact ⟨rfl, hb⟩
  rw [if_neg (by omega)]
  by_cases h5 : X > 64
  · rw [if_pos (.inl h5)]
    go_enter Try.func38, Try.ntmps38
    go_wp2_with fail
    go_ret
    exact ⟨rfl, hb⟩
  by_cases h6 : Y > 64
  · rw [if_pos (.inr h6)]
    go_enter Try.func38, Try.ntmps38
    go_wp2_with fail
    go_ret
    exact ⟨rfl, hb⟩
  rw [if_neg (by omega)]
  obtain ⟨b0, hb0⟩ : ∃ b0, inB n 1 4 = b0 := ⟨_, rfl⟩
  rw [hb0] at W0 ⊢
  rcases b0 with _ | _
  · clear hb0
    go_enter Try.func38, Try.ntmps38
    go_wp2_with (first | (go_at_call 39; refine (W0.out _).mono ?_; rintro e w' ⟨rfl, rfl⟩))
    go_ret
    exact ⟨rfl, hb⟩
  have hn := inB_true.1 hb0
  clear hb0
  rw [if_pos rfl]
  obtain ⟨E, hE⟩ : ∃ E : Int, (if allOk n F = true then (0:Int) else 1) = E := ⟨_, rfl⟩
  rw [hE]
  have HE := Lib.hid hE
  clear hE
  go_enter Try.func38, Try.ntmps38
  go_wp2_with (first | (go_at_call 39; refine (W0.out _).mono ?_; rintro e w' ⟨rfl, rfl⟩))
  go_loopw [46] (fun i wr => ∃ k : Nat, k ≤ n ∧ i = .int .i64 k ∧ allOk k F = true ∧ Below w.heap.size w wr) (fun i _ => n - (intOf i).toNat)
  case atStart => exact ⟨0, Nat.zero_le _, rfl, rfl, hb⟩
  case round =>
    obtain ⟨k, hk, rfl, hok, hbel⟩ := hrel
    by_cases hlt : k < n
    · obtain ⟨bb, off, rfl, hlb, k1, k2, k3, k4, k5⟩ := (ha.below hbel).at_ hlt
      have hd : ∀ d, F k = d → compOk d = (inB d.dp 1 16 && (inB d.dx 1 4 && inB d.dy 1 4)) := fun _ _ => rfl
      obtain ⟨dk, hdk⟩ : ∃ d, F k = d := ⟨_, rfl⟩
      have hd2 := hd _ hdk
      rw [hdk] at k1 k2 k3 k4 k5
      have W1 := fun v => in_any dk.dp 1 16 v
      have W2 := fun v => in_any dk.dx 1 4 v
      have W3 := fun v => in_any dk.dy 1 4 v
      have hsz := hbel.size
      generalize inB dk.dp 1 16 = b1 at *
      generalize inB dk.dx 1 4 = b2 at *
      generalize inB dk.dy 1 4 = b3 at *
      have HD := Lib.hid hd2
      have HDK := Lib.hid hdk
      have W1 := Lib.hid W1
      have W2 := Lib.hid W2
      have W3 := Lib.hid W3
      have hal := below_alloc hbel (.cells #[.int .i64 dk.dp, .bool dk.sg, .int .i64 dk.dx, .int .i64 dk.dy, .slice dk.A dk.n dk.c] 48)
      clear hd hd2 hdk hb
      rcases b1 with _ | _
      · have hbad : allOk n F = false := allOk_bad hlt (by rw [HDK.out, HD.out]; rfl)
        have hE := HE.out
        rw [hbad, if_neg (by simp)] at hE
        have HB := Lib.hid hE
        clear hbad HE hE
        go_wp2_with (first | (go_at_call 39; first | ((with_reducible refine (W1.out _).mono ?_); rintro e w' ⟨rfl, rfl⟩; dsimp only) | ((with_reducible refine (W2.out _).mono ?_); rintro e w' ⟨rfl, rfl⟩; dsimp only) | ((with_reducible refine (W3.out _).mono ?_); rintro e w' ⟨rfl, rfl⟩; dsimp only) | fail))
        go_ret
        exact ⟨by rw [← HB.out]; rfl, hal⟩
      rcases b2 with _ | _
      · have hbad : allOk n F = false := allOk_bad hlt (by rw [HDK.out, HD.out]; rfl)
        have hE := HE.out
        rw [hbad, if_neg (by simp)] at hE
        have HB := Lib.hid hE
        clear hbad HE hE
        go_wp2_with (first | (go_at_call 39; first | ((with_reducible refine (W1.out _).mono ?_); rintro e w' ⟨rfl, rfl⟩; dsimp only) | ((with_reducible refine (W2.out _).mono ?_); rintro e w' ⟨rfl, rfl⟩; dsimp only) | ((with_reducible refine (W3.out _).mono ?_); rintro e w' ⟨rfl, rfl⟩; dsimp only) | fail))
        go_ret
        exact ⟨by rw [← HB.out]; rfl, hal⟩
      rcases b3 with _ | _
      · have hbad : allOk n F = false := allOk_bad hlt (by rw [HDK.out, HD.out]; rfl)
        have hE := HE.out
        rw [hbad, if_neg (by simp)] at hE
        have HB := Lib.hid hE
        clear hbad HE hE
        go_wp2_with (first | (go_at_call 39; first | ((with_reducible refine (W1.out _).mono ?_); rintro e w' ⟨rfl, rfl⟩; dsimp only) | ((with_reducible refine (W2.out _).mono ?_); rintro e w' ⟨rfl, rfl⟩; dsimp only) | ((with_reducible refine (W3.out _).mono ?_); rintro e w' ⟨rfl, rfl⟩; dsimp only) | fail))
        go_ret
        exact ⟨by rw [← HB.out]; rfl, hal⟩
      go_wp2_with (first | (go_at_call 39; first | ((with_reducible refine (W1.out _).mono ?_); rintro e w' ⟨rfl, rfl⟩; dsimp only) | ((with_reducible refine (W2.out _).mono ?_); rintro e w' ⟨rfl, rfl⟩; dsimp only) | ((with_reducible refine (W3.out _).mono ?_); rintro e w' ⟨rfl, rfl⟩; dsimp only) | fail))
      go_roundw
      case rel => exact ⟨k + 1, by omega, by go_num, by rw [allOk_succ, hok, HDK.out, HD.out]; rfl, hal⟩
      case measure => simp [intOf]; omega
    · obtain rfl : k = n := by omega
      have hE := HE.out
      rw [hok, if_pos rfl] at hE
      have HB := Lib.hid hE
      clear hok HE hE
      go_wp2_with fail
      go_ret
      exact ⟨by rw [← HB.out]; rfl, hbel⟩
end Go.Proofs.Ytpgkdpoehkdhcaa
