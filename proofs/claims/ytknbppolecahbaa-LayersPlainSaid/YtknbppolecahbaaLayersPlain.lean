/- WALK of waveletlaw14.LayersPlain: every call answers true; memory below is kept. -/
import Derived.Test.YtknbppolecahbaaPiecesLaw
namespace Go.Proofs.Ytknbppolecahbaa
open Go.RowKit
set_option maxHeartbeats 8000000
set_option linter.unusedVariables false
set_option linter.unusedSimpArgs false

theorem style_bits : ∀ n : Nat, n < 64 → (bits .and .i64 (bits .andNot .i64 (n : Int) 5) 4 != 0) = false ∧ (bits .and .i64 (bits .andNot .i64 (n : Int) 5) 1 != 0) = false ∧ (bits .and .i64 (bits .or .i64 (bits .andNot .i64 (n : Int) 5) 4) 4 != 0) = true := by decide +kernel
theorem valE_three {f : Nat → Int} (h : ∀ k, f k = 3 * ((k : Int) + 1)) (x : Nat) : valE f x = 3 * (x : Int) := by
  unfold valE
  split
  · omega
  · rw [h]; omega
theorem endsB_ff (k : Int) : endsB false false k = false := by
  unfold endsB
  split <;> rfl
theorem endsB_tt (b : Bool) (k : Nat) : endsB true b (k : Int) = true := by
  unfold endsB
  rw [if_neg (by omega)]; rfl

theorem segments_whole (s : Int) (ht : (bits .and .i64 s 4 != 0) = false) (hb : (bits .and .i64 s 1 != 0) = false) (frm tu : Nat) (A : Option Addr) (m c : Nat) (f : Nat → Int) (w : World) (ha : IntsAt w w.heap.size A m f)
    (hft : frm < tu) (htu : tu ≤ m) (hm : m ≤ 1000) (hf : ∀ k, f k = 3 * ((k : Int) + 1)) :
    Calls Try.prog 13 #[.int .i64 s, .int .i64 frm, .int .i64 tu, .slice A m c] w fun e w' => ∃ (A1 A2 : Option Addr) (d1 d2 : Nat),
      e = .returned (.tuple #[.slice A1 1 d1, .slice A2 1 d2]) ∧ IntsAt w' w'.heap.size A1 1 (fun _ => (tu : Int) - frm) ∧ IntsAt w' w'.heap.size A2 1 (fun _ => 3 * ((tu : Int) - frm)) ∧ Below w.heap.size w w' := by
  refine (segments_any s false false ht hb frm tu A m c f w ha (by omega) htu hm (fun k hk => by rw [hf]; omega)).mono ?_
  rintro e w' ⟨A1, A2, d1, d2, l, hl, rfl, i1, i2, hb⟩
  rw [pieces_one (fun k => endsB_ff k) hft] at hl
  subst hl
  refine ⟨A1, A2, d1, d2, rfl, i1.congr fun k hk => ?_, i2.congr fun k hk => ?_, hb⟩
  · obtain rfl : k = 0 := by simp at hk; omega
    rfl
  · obtain rfl : k = 0 := by simp at hk; omega
    show valE f tu - (if (0 : Nat) = 0 then valE f frm else _) = _
    rw [if_pos rfl, valE_three hf, valE_three hf]; omega
theorem segments_each (s : Int) (ht : (bits .and .i64 s 4 != 0) = true) (frm tu : Nat) (A : Option Addr) (m c : Nat) (f : Nat → Int) (w : World) (ha : IntsAt w w.heap.size A m f)
    (hft : frm ≤ tu) (htu : tu ≤ m) (hm : m ≤ 1000) (hf : ∀ k, f k = 3 * ((k : Int) + 1)) :
    Calls Try.prog 13 #[.int .i64 s, .int .i64 frm, .int .i64 tu, .slice A m c] w fun e w' => ∃ (A1 A2 : Option Addr) (d1 d2 : Nat),
      e = .returned (.tuple #[.slice A1 (tu - frm) d1, .slice A2 (tu - frm) d2]) ∧ IntsAt w' w'.heap.size A1 (tu - frm) (fun _ => 1) ∧ IntsAt w' w'.heap.size A2 (tu - frm) (fun _ => 3) ∧ Below w.heap.size w w' := by
  refine (segments_any s true _ ht rfl frm tu A m c f w ha (by omega) htu hm (fun k hk => by rw [hf]; omega)).mono ?_
  rintro e w' ⟨A1, A2, d1, d2, l, hl, rfl, i1, i2, hb⟩
  obtain ⟨_, h2, h3⟩ := pieces_each (E := fun k => endsB true (bits .and .i64 s 1 != 0) k) (fun k => endsB_tt _ k) tu frm (tu - frm)
  rw [← hl] at h2 h3
  rw [h2] at i1 i2 ⊢
  refine ⟨A1, A2, d1, d2, rfl, i1.congr fun k hk => ?_, i2.congr fun k hk => ?_, hb⟩
  · unfold passF
    rw [h3 k hk]; simp only; omega
  · rw [byteF_at]
    have e1 : endAt l frm (k + 1) = frm + k + 1 := by unfold endAt; rw [if_neg (Nat.succ_ne_zero k), Nat.add_sub_cancel, h3 k hk]
    have e2 : endAt l frm k = frm + k := by
      unfold endAt
      split
      · omega
      · rw [h3 (k - 1) (by omega)]; simp only; omega
    rw [e1, e2, valE_three hf, valE_three hf]; omega
theorem segments_none (s : Int) (tu : Nat) (A : Option Addr) (m c : Nat) (f : Nat → Int) (w : World) (ha : IntsAt w w.heap.size A m f)
    (htu : tu ≤ m) (hm : m ≤ 1000) (hf : ∀ k, k < m → -1099511627776 ≤ f k ∧ f k ≤ 1099511627776) :
    Calls Try.prog 13 #[.int .i64 s, .int .i64 tu, .int .i64 tu, .slice A m c] w fun e w' => ∃ (A1 A2 : Option Addr) (d1 d2 : Nat),
      e = .returned (.tuple #[.slice A1 0 d1, .slice A2 0 d2]) ∧ Below w.heap.size w w' := by
  refine (segments_any s _ _ rfl rfl tu tu A m c f w ha (by omega) htu hm hf).mono ?_
  rintro e w' ⟨A1, A2, d1, d2, l, hl, rfl, i1, i2, hb⟩
  rw [Nat.sub_self] at hl
  subst hl
  exact ⟨A1, A2, d1, d2, rfl, hb⟩

set_option maxRecDepth 100000 in
theorem layersPlain_walk (s0 fr0 to0 : Int) (w : World) :
    Calls Try.prog 8 #[.int .i64 s0, .int .i64 fr0, .int .i64 to0] w fun e w' => e = .returned (.bool true) ∧ Below w.heap.size w w' := by
  go_enter Try.func8, Try.ntmps8
  go_wp2_with fail
  refine (known14 _).mono ?_
  rintro e w' ⟨rfl, rfl⟩
  go_wp2_with fail
  refine (within14e _ _ (by omega) (by omega) _).mono ?_
  rintro e w' ⟨s, hs0, hs1, rfl, rfl⟩
  obtain ⟨s, rfl⟩ := Int.eq_ofNat_of_zero_le hs0
  obtain ⟨q1, q2, q3⟩ := style_bits s (by omega)
  obtain ⟨s1, hs1'⟩ : ∃ s1, bits .andNot .i64 (s : Int) 5 = s1 := ⟨_, rfl⟩
  obtain ⟨s2, hs2'⟩ : ∃ s2, bits .or .i64 s1 4 = s2 := ⟨_, rfl⟩
  rw [hs1'] at q1 q2 q3
  rw [hs2'] at q3
  have Q1 := Lib.hid q1
  have Q2 := Lib.hid q2
  have Q3 := Lib.hid q3
  clear q1 q2 q3
  go_wp2_with fail
  refine (within14e _ _ (by omega) (by omega) _).mono ?_
  rintro e w' ⟨tu, htu0, htu1, rfl, rfl⟩
  obtain ⟨tu, rfl⟩ := Int.eq_ofNat_of_zero_le htu0
  go_wp2_with fail
  refine (within14e _ _ (by omega) (by omega) _).mono ?_
  rintro e w' ⟨fr, hfr0, hfr1, rfl, rfl⟩
  obtain ⟨fr, rfl⟩ := Int.eq_ofNat_of_zero_le hfr0
  have hmk : ∀ u : World, (Instr.makeSlice 26 (.int .i64 40) (.int .i64 40)).run Try.prog u = .ok (.slice (some ⟨u.heap.size, 0, none⟩) 40 40) (u.alloc (.cells (madeCells #[.int .i64 0] 40) 3)) := fun u => run_make_row' (P := Try.prog) 26 3 (.int .i64 0) 8 Try.underlying26 int_info rfl .i64 .i64 40 (by omega) (by omega) u
  go_wp2_with fail
  clear hmk
  go_loopw [8] (fun i wr => ∃ k : Nat, k ≤ 40 ∧ i = .int .i64 k ∧ wr.rowIs w.heap.size 3 40 (fun j => if j < k then .int .i64 (3 * ((j : Int) + 1)) else .int .i64 0) ∧ Below w.heap.size w wr) (fun i _ => 40 - (intOf i).toNat)
  case atStart => exact ⟨0, Nat.zero_le _, rfl, (World.rowIs_made w (.int .i64 0) 40 3).congr (fun i hi => by simp), (Below.refl _ _).alloc (Nat.le_refl _) _⟩
  case round =>
    obtain ⟨k, hk, rfl, hrow, hbel⟩ := hrel
    by_cases hlt : k < 40
    · have hcell : ∃ v, wr.cell? ⟨w.heap.size, k, none⟩ = some v := ⟨_, hrow.cell hlt⟩
      obtain ⟨v0, hcell⟩ := hcell
      have hfr := hrow.frozen k
      have HR := Lib.hid ((hrow.set k (.int .i64 (3 * ((k : Int) + 1)))).congr (g := fun j => if j < k + 1 then .int .i64 (3 * ((j : Int) + 1)) else .int .i64 0) (fun i hi => by
        by_cases e : i = k
        · subst e; simp
        · have : (i < k + 1) = (i < k) := by simp; omega
          simp [e, this]))
      have HB := Lib.hid (hbel.setCell (p := ⟨w.heap.size, k, none⟩) (Nat.le_refl _) (.int .i64 (3 * ((k : Int) + 1))))
      clear hrow hbel
      go_wp2
      go_roundw
      case rel => exact ⟨k + 1, by omega, by go_num, HR.out, HB.out⟩
      case measure => simp [intOf]; omega
    · obtain rfl : k = 40 := by omega
      have hsz := hbel.size
      have hI : IntsAt wr wr.heap.size (some ⟨w.heap.size, 0, none⟩) 40 (fun j => 3 * ((j : Int) + 1)) := IntsAt.of_row hrow (fun k hk => if_pos hk) (hrow.lt)
      clear hrow
      by_cases hz : fr = tu
      · subst hz
        go_wp2_with fail
        refine (segments_none s1 fr _ 40 40 _ wr hI (by omega) (by omega) (fun k hk => by omega)).mono ?_
        rintro e w2 ⟨A1, A2, d1, d2, rfl, hb2⟩
        go_wp2_with fail
        refine (segments_none s2 fr _ 40 40 _ w2 ((hI.below hb2).more hb2.size) (by omega) (by omega) (fun k hk => by omega)).mono ?_
        rintro e w3 ⟨A3, A4, d3, d4, rfl, hb3⟩
        have hB3 := below_trans (below_trans hbel hb2) hb3
        go_wp2_with fail
        go_ret
        exact ⟨rfl, hB3⟩
      · have hft : fr < tu := by omega
        have g1 : ((tu : Int) == fr) = false := by rw [beq_eq_false_iff_ne]; omega
        go_wp2_with fail
        refine (segments_whole s1 Q1.out Q2.out fr tu _ 40 40 _ wr hI (by omega) (by omega) (by omega) (fun k => rfl)).mono ?_
        rintro e w2 ⟨A1, A2, d1, d2, rfl, i1, i2, hb2⟩
        go_wp2_with fail
        refine (segments_each s2 Q3.out fr tu _ 40 40 _ w2 ((hI.below hb2).more hb2.size) (by omega) (by omega) (by omega) (fun k => rfl)).mono ?_
        rintro e w3 ⟨A3, A4, d3, d4, rfl, i3, i4, hb3⟩
        have hB3 := below_trans (below_trans hbel hb2) hb3
        obtain ⟨b1, o1, rfl, hl1, hc1⟩ := (i1.below hb3).at_ (show 0 < 1 by omega)
        obtain ⟨b2, o2, rfl, hl2, hc2⟩ := (i2.below hb3).at_ (show 0 < 1 by omega)
        clear i1 i2 hI hb2 hb3 hbel Q1 Q2 Q3
        have hnn : ((tu - fr : Nat) : Int) = (tu : Int) - fr := by omega
        obtain ⟨N, hN⟩ : ∃ N, N = tu - fr := ⟨_, rfl⟩
        rw [← hN] at hnn i3 i4 ⊢
        have HN := Lib.hid hN
        clear hN
        go_wp2_with fail
        go_loopw [13] (fun i wr3 => ∃ (j q : Nat), j ≤ N ∧ i = .int .i64 j ∧ wr3 = w3.drewN q) (fun i _ => N - (intOf i).toNat)
        case atStart => exact ⟨0, 0, Nat.zero_le _, rfl, rfl⟩
        case round =>
          obtain ⟨j, q, hj, rfl, rfl⟩ := hrel
          have hc1' : (w3.drewN q).cell? ⟨b1, o1, none⟩ = some (.int .i64 ((tu : Int) - fr)) := hc1
          have hc2' : (w3.drewN q).cell? ⟨b2, o2, none⟩ = some (.int .i64 (3 * ((tu : Int) - fr))) := hc2
          by_cases hlt2 : j < N
          · obtain ⟨b3, o3, rfl, hl3, hc3⟩ := i3.at_ hlt2
            obtain ⟨b4, o4, rfl, hl4, hc4⟩ := i4.at_ hlt2
            have hc3' : (w3.drewN q).cell? ⟨b3, o3 + j, none⟩ = some (.int .i64 1) := hc3
            have hc4' : (w3.drewN q).cell? ⟨b4, o4 + j, none⟩ = some (.int .i64 3) := hc4
            go_wp2_with fail
            go_roundw
            case rel => exact ⟨j + 1, _, by omega, by go_num, rfl⟩
            case measure => simp [intOf]; omega
          · obtain rfl : j = N := by omega
            go_wp2_with fail
            go_ret
            exact ⟨rfl, below_drewN hB3 _⟩
end Go.Proofs.Ytknbppolecahbaa
