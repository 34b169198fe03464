/- CONTRACT of canvas.Frame. -/
import Derived.Test.YtpgkdpoehkdhcaaCan3
namespace Go.Proofs.Ytpgkdpoehkdhcaa
open Go.RowKit
set_option maxHeartbeats 8000000
set_option linter.unusedVariables false
set_option linter.unusedSimpArgs false

def frameE (X Y Ox Oy : Int) (n : Nat) (F : Nat → CompD) (tx ty lv cw ch pr st od ly : Int) (rct : Bool) : Int :=
  if pictureE X Y Ox Oy n F = 0 then
    if inB tx (Ox + 1) 65536 then
      if inB ty (Oy + 1) 65536 then
        if 16 < byN X.toNat tx.toNat * byN Y.toNat ty.toNat then 14 else
        if waysB lv cw ch pr st od ly then
          if rct then (if alikeB n F then 0 else 3) else 0
        else 1
      else 1
    else 1
  else pictureE X Y Ox Oy n F
theorem picture_ok {X Y Ox Oy : Int} {n : Nat} {F : Nat → CompD} (h : pictureE X Y Ox Oy n F = 0) : 0 ≤ Ox ∧ 0 ≤ Oy ∧ Ox < X ∧ Oy < Y ∧ X ≤ 64 ∧ Y ≤ 64 ∧ 1 ≤ n ∧ n ≤ 4 ∧ allOk n F = true := by
  unfold pictureE at h
  split at h
  · cases h
  · split at h
    · cases h
    · split at h
      · rename_i h3
        have := inB_true.1 h3
        split at h
        · rename_i h4; exact ⟨by omega, by omega, by omega, by omega, by omega, by omega, by omega, by omega, h4⟩
        · cases h
      · cases h

theorem frame_any (X Y Ox Oy : Int) (A : Option Addr) (n c : Nat) (F : Nat → CompD) (tx ty lv cw ch pr st od ly : Int) (rct sop eph : Bool) (w : World) (ha : CompsAt w w.heap.size A n F) (hc : n ≤ c) :
    Calls Try.prog 26 #[imgV X Y Ox Oy A n c, parV tx ty lv cw ch pr st od ly rct sop eph] w fun e w' => e = .returned (.int .i64 (frameE X Y Ox Oy n F tx ty lv cw ch pr st od ly rct)) ∧ Below w.heap.size w w' := by
  obtain ⟨E, hE⟩ : ∃ E, frameE X Y Ox Oy n F tx ty lv cw ch pr st od ly rct = E := ⟨_, rfl⟩
  rw [hE]
  obtain ⟨pe, hpe⟩ : ∃ pe, pictureE X Y Ox Oy n F = pe := ⟨_, rfl⟩
  unfold frameE at hE
  rw [hpe] at hE
  have HE := Lib.hid hE
  have HPE := Lib.hid hpe
  clear hE hpe
  have P1 := Lib.hid (fun (v : World) (h : CompsAt v v.heap.size A n F) => picture_any X Y Ox Oy A n c F v h)
  have P2 := Lib.hid (fun (v : World) => ways_any tx ty lv cw ch pr st od ly rct sop eph v)
  have P3 := Lib.hid (fun (v : World) (h : CompsAt v v.heap.size A n F) => alike_any A n c F v h hc)
  unfold imgV at *
  unfold parV at *
  go_enter Try.func26, Try.ntmps26
  go_wp2_with fail
  generalize hw2 : World.alloc (World.alloc w _) _ = w2
  have m0 : w2.cell? ⟨w.heap.size, 0, none⟩ = some (.int .i64 X) := by rw [← hw2]; simp
  have m1 : w2.cell? ⟨w.heap.size, 1, none⟩ = some (.int .i64 Y) := by rw [← hw2]; simp
  have m2 : w2.cell? ⟨w.heap.size, 2, none⟩ = some (.int .i64 Ox) := by rw [← hw2]; simp
  have m3 : w2.cell? ⟨w.heap.size, 3, none⟩ = some (.int .i64 Oy) := by rw [← hw2]; simp
  have m4 : w2.cell? ⟨w.heap.size, 4, none⟩ = some (.slice A n c) := by rw [← hw2]; simp
  have p0 : w2.cell? ⟨w.heap.size + 1, 0, none⟩ = some (.int .i64 tx) := by rw [← hw2]; simp
  have p1 : w2.cell? ⟨w.heap.size + 1, 1, none⟩ = some (.int .i64 ty) := by rw [← hw2]; simp
  have p2 : w2.cell? ⟨w.heap.size + 1, 2, none⟩ = some (.int .i64 lv) := by rw [← hw2]; simp
  have p3 : w2.cell? ⟨w.heap.size + 1, 3, none⟩ = some (.int .i64 cw) := by rw [← hw2]; simp
  have p4 : w2.cell? ⟨w.heap.size + 1, 4, none⟩ = some (.int .i64 ch) := by rw [← hw2]; simp
  have p5 : w2.cell? ⟨w.heap.size + 1, 5, none⟩ = some (.int .i64 pr) := by rw [← hw2]; simp
  have p6 : w2.cell? ⟨w.heap.size + 1, 6, none⟩ = some (.int .i64 st) := by rw [← hw2]; simp
  have p7 : w2.cell? ⟨w.heap.size + 1, 7, none⟩ = some (.int .i64 od) := by rw [← hw2]; simp
  have p8 : w2.cell? ⟨w.heap.size + 1, 8, none⟩ = some (.int .i64 ly) := by rw [← hw2]; simp
  have p9 : w2.cell? ⟨w.heap.size + 1, 9, none⟩ = some (.bool rct) := by rw [← hw2]; simp
  have p10 : w2.cell? ⟨w.heap.size + 1, 10, none⟩ = some (.bool sop) := by rw [← hw2]; simp
  have p11 : w2.cell? ⟨w.heap.size + 1, 11, none⟩ = some (.bool eph) := by rw [← hw2]; simp
  have hlt : w.heap.size + 1 < w2.heap.size := by rw [← hw2]; simp
  have hB : Below w.heap.size w w2 := by rw [← hw2]; exact below_alloc (below_alloc (Below.refl _ _) _) _
  have ha2 : CompsAt w2 w2.heap.size A n F := (ha.below hB).more (by omega)
  clear hw2 ha
  refine (P1.out _ ha2).mono ?_
  rintro e w3 ⟨rfl, hb3⟩
  rw [HPE.out]
  have m0 : w3.cell? ⟨w.heap.size, 0, none⟩ = some (.int .i64 X) := (hb3.cell (p := ⟨w.heap.size, 0, none⟩) (by simp only; omega)).trans m0
  have m1 : w3.cell? ⟨w.heap.size, 1, none⟩ = some (.int .i64 Y) := (hb3.cell (p := ⟨w.heap.size, 1, none⟩) (by simp only; omega)).trans m1
  have m2 : w3.cell? ⟨w.heap.size, 2, none⟩ = some (.int .i64 Ox) := (hb3.cell (p := ⟨w.heap.size, 2, none⟩) (by simp only; omega)).trans m2
  have m3 : w3.cell? ⟨w.heap.size, 3, none⟩ = some (.int .i64 Oy) := (hb3.cell (p := ⟨w.heap.size, 3, none⟩) (by simp only; omega)).trans m3
  have m4 : w3.cell? ⟨w.heap.size, 4, none⟩ = some (.slice A n c) := (hb3.cell (p := ⟨w.heap.size, 4, none⟩) (by simp only; omega)).trans m4
  have p0 : w3.cell? ⟨w.heap.size + 1, 0, none⟩ = some (.int .i64 tx) := (hb3.cell (p := ⟨w.heap.size + 1, 0, none⟩) (by simp only; omega)).trans p0
  have p1 : w3.cell? ⟨w.heap.size + 1, 1, none⟩ = some (.int .i64 ty) := (hb3.cell (p := ⟨w.heap.size + 1, 1, none⟩) (by simp only; omega)).trans p1
  have p2 : w3.cell? ⟨w.heap.size + 1, 2, none⟩ = some (.int .i64 lv) := (hb3.cell (p := ⟨w.heap.size + 1, 2, none⟩) (by simp only; omega)).trans p2
  have p3 : w3.cell? ⟨w.heap.size + 1, 3, none⟩ = some (.int .i64 cw) := (hb3.cell (p := ⟨w.heap.size + 1, 3, none⟩) (by simp only; omega)).trans p3
  have p4 : w3.cell? ⟨w.heap.size + 1, 4, none⟩ = some (.int .i64 ch) := (hb3.cell (p := ⟨w.heap.size + 1, 4, none⟩) (by simp only; omega)).trans p4
  have p5 : w3.cell? ⟨w.heap.size + 1, 5, none⟩ = some (.int .i64 pr) := (hb3.cell (p := ⟨w.heap.size + 1, 5, none⟩) (by simp only; omega)).trans p5
  have p6 : w3.cell? ⟨w.heap.size + 1, 6, none⟩ = some (.int .i64 st) := (hb3.cell (p := ⟨w.heap.size + 1, 6, none⟩) (by simp only; omega)).trans p6
  have p7 : w3.cell? ⟨w.heap.size + 1, 7, none⟩ = some (.int .i64 od) := (hb3.cell (p := ⟨w.heap.size + 1, 7, none⟩) (by simp only; omega)).trans p7
  have p8 : w3.cell? ⟨w.heap.size + 1, 8, none⟩ = some (.int .i64 ly) := (hb3.cell (p := ⟨w.heap.size + 1, 8, none⟩) (by simp only; omega)).trans p8
  have p9 : w3.cell? ⟨w.heap.size + 1, 9, none⟩ = some (.bool rct) := (hb3.cell (p := ⟨w.heap.size + 1, 9, none⟩) (by simp only; omega)).trans p9
  have p10 : w3.cell? ⟨w.heap.size + 1, 10, none⟩ = some (.bool sop) := (hb3.cell (p := ⟨w.heap.size + 1, 10, none⟩) (by simp only; omega)).trans p10
  have p11 : w3.cell? ⟨w.heap.size + 1, 11, none⟩ = some (.bool eph) := (hb3.cell (p := ⟨w.heap.size + 1, 11, none⟩) (by simp only; omega)).trans p11
  have hlt3 : w.heap.size + 1 < w3.heap.size := Nat.lt_of_lt_of_le hlt hb3.size
  have hB3 := below_trans hB hb3
  have ha3 : CompsAt w3 w3.heap.size A n F := (ha2.below hb3).more hb3.size
  clear hb3 ha2 hB hlt P1
  by_cases hp : pe = 0
  · subst hp
    obtain ⟨x1, x2, x3, x4, x5, x6, x7, x8, hall⟩ := picture_ok HPE.out
    have hE := HE.out
    rw [if_pos rfl] at hE
    have i1 := in_any tx (Ox + 1) 65536
    have i2 := in_any ty (Oy + 1) 65536
    obtain ⟨b1, hb1⟩ : ∃ b, inB tx (Ox + 1) 65536 = b := ⟨_, rfl⟩
    obtain ⟨b2, hb2⟩ : ∃ b, inB ty (Oy + 1) 65536 = b := ⟨_, rfl⟩
    rw [hb1] at i1 hE
    rw [hb2] at i2 hE
    have I1 := Lib.hid i1
    have I2 := Lib.hid i2
    clear i1 i2 HE hall
    rcases b1 with _ | _
    · rw [if_neg (by simp)] at hE
      have HE := Lib.hid hE
      clear hE hb1 hb2
      go_wp2_with (first | (go_at_call 39; first | ((with_reducible refine (I1.out _).mono ?_); rintro e w' ⟨rfl, rfl⟩; dsimp only) | ((with_reducible refine (I2.out _).mono ?_); rintro e w' ⟨rfl, rfl⟩; dsimp only) | fail))
      go_ret
      exact ⟨by rw [← HE.out]; rfl, hB3⟩
    rcases b2 with _ | _
    · rw [if_pos rfl, if_neg (by simp)] at hE
      have HE := Lib.hid hE
      clear hE hb1 hb2
      go_wp2_with (first | (go_at_call 39; first | ((with_reducible refine (I1.out _).mono ?_); rintro e w' ⟨rfl, rfl⟩; dsimp only) | ((with_reducible refine (I2.out _).mono ?_); rintro e w' ⟨rfl, rfl⟩; dsimp only) | fail))
      go_ret
      exact ⟨by rw [← HE.out]; rfl, hB3⟩
    rw [if_pos rfl, if_pos rfl] at hE
    have y1 := inB_true.1 hb1
    have y2 := inB_true.1 hb2
    clear hb1 hb2
    by_cases hq : 16 < byN X.toNat tx.toNat * byN Y.toNat ty.toNat
    · rw [if_pos hq] at hE
      have HE := Lib.hid hE
      clear hE
      obtain ⟨Xn, rfl⟩ := Int.eq_ofNat_of_zero_le (show (0 : Int) ≤ X by omega)
      obtain ⟨Yn, rfl⟩ := Int.eq_ofNat_of_zero_le (show (0 : Int) ≤ Y by omega)
      obtain ⟨txn, rfl⟩ := Int.eq_ofNat_of_zero_le (show (0 : Int) ≤ tx by omega)
      obtain ⟨tyn, rfl⟩ := Int.eq_ofNat_of_zero_le (show (0 : Int) ≤ ty by omega)
      simp only [Int.toNat_natCast] at hq
      have j1 := by_any Xn txn (by omega) (by omega) (by omega)
      have j2 := by_any Yn tyn (by omega) (by omega) (by omega)
      have l1 : byN Xn txn ≤ Xn := byN_le (by omega)
      have l2 : byN Yn tyn ≤ Yn := byN_le (by omega)
      generalize byN Xn txn = A1 at *
      generalize byN Yn tyn = A2 at *
      have l3 : A1 * A2 ≤ 4096 := Nat.le_trans (Nat.mul_le_mul (show A1 ≤ 64 by omega) (show A2 ≤ 64 by omega)) (by omega)
      have l4 : ((A1 : Nat) : Int) * ((A2 : Nat) : Int) = ((A1 * A2 : Nat) : Int) := by simp
      have l5 := IntWalk.i64_in (((A1 : Nat) : Int) * ((A2 : Nat) : Int)) (by rw [l4]; omega)
      generalize A1 * A2 = A3 at *
      rw [l4] at l5
      have J1 := Lib.hid j1
      have J2 := Lib.hid j2
      clear j1 j2
      go_wp2_with (first | (go_at_call 39; first | ((with_reducible refine (I1.out _).mono ?_); rintro e w' ⟨rfl, rfl⟩; dsimp only) | ((with_reducible refine (I2.out _).mono ?_); rintro e w' ⟨rfl, rfl⟩; dsimp only) | fail))
      go_quiet (first | (go_at_call 40; first | (with_reducible exact Calls.quiet_of_same (J1.out _)) | (with_reducible exact Calls.quiet_of_same (J2.out _))))
      go_wp2_with fail
      go_ret
      exact ⟨by rw [← HE.out]; rfl, below_drewN hB3 _⟩
    · rw [if_neg hq] at hE
      have HE := Lib.hid hE
      clear hE
      obtain ⟨Xn, rfl⟩ := Int.eq_ofNat_of_zero_le (show (0 : Int) ≤ X by omega)
      obtain ⟨Yn, rfl⟩ := Int.eq_ofNat_of_zero_le (show (0 : Int) ≤ Y by omega)
      obtain ⟨txn, rfl⟩ := Int.eq_ofNat_of_zero_le (show (0 : Int) ≤ tx by omega)
      obtain ⟨tyn, rfl⟩ := Int.eq_ofNat_of_zero_le (show (0 : Int) ≤ ty by omega)
      simp only [Int.toNat_natCast] at hq
      have j1 := by_any Xn txn (by omega) (by omega) (by omega)
      have j2 := by_any Yn tyn (by omega) (by omega) (by omega)
      have l1 : byN Xn txn ≤ Xn := byN_le (by omega)
      have l2 : byN Yn tyn ≤ Yn := byN_le (by omega)
      generalize byN Xn txn = A1 at *
      generalize byN Yn tyn = A2 at *
      have l3 : A1 * A2 ≤ 4096 := Nat.le_trans (Nat.mul_le_mul (show A1 ≤ 64 by omega) (show A2 ≤ 64 by omega)) (by omega)
      have l4 : ((A1 : Nat) : Int) * ((A2 : Nat) : Int) = ((A1 * A2 : Nat) : Int) := by simp
      have l5 := IntWalk.i64_in (((A1 : Nat) : Int) * ((A2 : Nat) : Int)) (by rw [l4]; omega)
      generalize A1 * A2 = A3 at *
      rw [l4] at l5
      have J1 := Lib.hid j1
      have J2 := Lib.hid j2
      clear j1 j2
      go_wp2_with (first | (go_at_call 39; first | ((with_reducible refine (I1.out _).mono ?_); rintro e w' ⟨rfl, rfl⟩; dsimp only) | ((with_reducible refine (I2.out _).mono ?_); rintro e w' ⟨rfl, rfl⟩; dsimp only) | fail))
      go_quiet (first | (go_at_call 40; first | (with_reducible exact Calls.quiet_of_same (J1.out _)) | (with_reducible exact Calls.quiet_of_same (J2.out _))))
      go_wp2_with fail
      refine (P2.out _).mono ?_
      rintro e w4 ⟨rfl, hb4⟩
      have hh := HE.out
      obtain ⟨wb, hwb⟩ : ∃ b, waysB lv cw ch pr st od ly = b := ⟨_, rfl⟩
      rw [hwb] at hh ⊢
      clear hwb HE
      have hB4 := below_trans (below_drewN hB3 _) (hb4)
      have ha4 : CompsAt w4 w4.heap.size A n F := ((ha3.drewN _).below hb4).more hb4.size
      have m0 := (hb4.cell (p := ⟨w.heap.size, 0, none⟩) (by simp only [World.drewN]; omega)).trans m0
      have m1 := (hb4.cell (p := ⟨w.heap.size, 1, none⟩) (by simp only [World.drewN]; omega)).trans m1
      have m2 := (hb4.cell (p := ⟨w.heap.size, 2, none⟩) (by simp only [World.drewN]; omega)).trans m2
      have m3 := (hb4.cell (p := ⟨w.heap.size, 3, none⟩) (by simp only [World.drewN]; omega)).trans m3
      have m4 := (hb4.cell (p := ⟨w.heap.size, 4, none⟩) (by simp only [World.drewN]; omega)).trans m4
      have p0 := (hb4.cell (p := ⟨w.heap.size + 1, 0, none⟩) (by simp only [World.drewN]; omega)).trans p0
      have p1 := (hb4.cell (p := ⟨w.heap.size + 1, 1, none⟩) (by simp only [World.drewN]; omega)).trans p1
      have p2 := (hb4.cell (p := ⟨w.heap.size + 1, 2, none⟩) (by simp only [World.drewN]; omega)).trans p2
      have p3 := (hb4.cell (p := ⟨w.heap.size + 1, 3, none⟩) (by simp only [World.drewN]; omega)).trans p3
      have p4 := (hb4.cell (p := ⟨w.heap.size + 1, 4, none⟩) (by simp only [World.drewN]; omega)).trans p4
      have p5 := (hb4.cell (p := ⟨w.heap.size + 1, 5, none⟩) (by simp only [World.drewN]; omega)).trans p5
      have p6 := (hb4.cell (p := ⟨w.heap.size + 1, 6, none⟩) (by simp only [World.drewN]; omega)).trans p6
      have p7 := (hb4.cell (p := ⟨w.heap.size + 1, 7, none⟩) (by simp only [World.drewN]; omega)).trans p7
      have p8 := (hb4.cell (p := ⟨w.heap.size + 1, 8, none⟩) (by simp only [World.drewN]; omega)).trans p8
      have p9 := (hb4.cell (p := ⟨w.heap.size + 1, 9, none⟩) (by simp only [World.drewN]; omega)).trans p9
      have p10 := (hb4.cell (p := ⟨w.heap.size + 1, 10, none⟩) (by simp only [World.drewN]; omega)).trans p10
      have p11 := (hb4.cell (p := ⟨w.heap.size + 1, 11, none⟩) (by simp only [World.drewN]; omega)).trans p11
      rcases wb with _ | _
      · rw [if_neg (by simp)] at hh
        have HE := Lib.hid hh
        clear hh hb4
        go_wp2_with fail
        go_ret
        exact ⟨by rw [← HE.out]; rfl, hB4⟩
      rw [if_pos rfl] at hh
      rcases rct with _ | _
      · rw [if_neg (by simp)] at hh
        have HE := Lib.hid hh
        clear hh hb4
        go_wp2_with fail
        go_ret
        exact ⟨by rw [← HE.out]; rfl, hB4⟩
      rw [if_pos rfl] at hh
      have p3 := P3.out
      obtain ⟨ab, hab⟩ : ∃ b, alikeB n F = b := ⟨_, rfl⟩
      rw [hab] at hh p3
      have P3 := Lib.hid p3
      clear hab p3
      rcases ab with _ | _
      · rw [if_neg (by simp)] at hh
        have HE := Lib.hid hh
        clear hh hb4
        go_wp2_with (first | (go_at_call 42; (refine (P3.out _ ha4).mono ?_); rintro e w5 ⟨rfl, hb5⟩; dsimp only))
        go_ret
        exact ⟨by rw [← HE.out]; rfl, below_trans hB4 hb5⟩
      · rw [if_pos rfl] at hh
        have HE := Lib.hid hh
        clear hh hb4
        go_wp2_with (first | (go_at_call 42; (refine (P3.out _ ha4).mono ?_); rintro e w5 ⟨rfl, hb5⟩; dsimp only))
        go_ret
        exact ⟨by rw [← HE.out]; rfl, below_trans hB4 hb5⟩
  · have hE := HE.out
    rw [if_neg hp] at hE
    have HE := Lib.hid hE
    clear hE
    have d1 : (pe != 0) = true := by simp [hp]
    have d2 : decide (pe = 0) = false := by simp [hp]
    go_wp2_with fail
    go_ret
    exact ⟨by rw [← HE.out]; rfl, hB3⟩
end Go.Proofs.Ytpgkdpoehkdhcaa
