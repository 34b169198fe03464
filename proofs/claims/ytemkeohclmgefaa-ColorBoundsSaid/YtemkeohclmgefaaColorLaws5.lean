/- WALK of ColorBounds. -/
import Derived.Test.YtemkeohclmgefaaColorLaws3
import Derived.Deep.RegionLaw
import Derived.Deep.CutBlock
namespace Go.Proofs.Ytemkeohclmgefaa
open Go.RowKit
set_option maxHeartbeats 1000000
set_option linter.unusedVariables false
set_option maxRecDepth 100000

/-- what stands in the j-th of three rows -/
def thirdF (f : Nat → Int) (M : Int) (j k : Nat) : Int := f (3 * k + j) % M
def thirdN (m j : Nat) : Nat := (m + 2 - j) / 3

/-- an array of three slices -/
def Box3 (w : World) (p : Nat) (T : TypeId) (a b c : Value) : Prop := w.heap[p]? = some (.cells #[a, b, c] T (0, 0))
theorem Box3.cell0 {w : World} {p : Nat} {T : TypeId} {a b c : Value} (h : Box3 w p T a b c) : w.cell? ⟨p, 0, none⟩ = some a := by unfold Box3 at h; simp [World.cell?, h]
theorem Box3.cell1 {w : World} {p : Nat} {T : TypeId} {a b c : Value} (h : Box3 w p T a b c) : w.cell? ⟨p, 1, none⟩ = some b := by unfold Box3 at h; simp [World.cell?, h]
theorem Box3.cell2 {w : World} {p : Nat} {T : TypeId} {a b c : Value} (h : Box3 w p T a b c) : w.cell? ⟨p, 2, none⟩ = some c := by unfold Box3 at h; simp [World.cell?, h]
theorem Box3.free {w : World} {p : Nat} {T : TypeId} {a b c : Value} (h : Box3 w p T a b c) (j : Nat) : w.frozen? ⟨p, j, none⟩ = false := by unfold Box3 at h; simp [World.frozen?, h]
theorem Box3.lt {w : World} {p : Nat} {T : TypeId} {a b c : Value} (h : Box3 w p T a b c) : p < w.heap.size := by
  unfold Box3 at h
  rcases Nat.lt_or_ge p w.heap.size with hlt | hge
  · exact hlt
  · rw [Array.getElem?_eq_none hge] at h; cases h
theorem Box3.set0 {w : World} {p : Nat} {T : TypeId} {a b c : Value} (h : Box3 w p T a b c) (u : Value) : Box3 (w.setCell ⟨p, 0, none⟩ u) p T u b c := by
  unfold Box3 at h ⊢
  simp [World.setCell, Array.getElem?_modify, h]
theorem Box3.set1 {w : World} {p : Nat} {T : TypeId} {a b c : Value} (h : Box3 w p T a b c) (u : Value) : Box3 (w.setCell ⟨p, 1, none⟩ u) p T a u c := by
  unfold Box3 at h ⊢
  simp [World.setCell, Array.getElem?_modify, h]
theorem Box3.set2 {w : World} {p : Nat} {T : TypeId} {a b c : Value} (h : Box3 w p T a b c) (u : Value) : Box3 (w.setCell ⟨p, 2, none⟩ u) p T a b u := by
  unfold Box3 at h ⊢
  simp [World.setCell, Array.getElem?_modify, h]
theorem Box3.ne_own {w : World} {p : Nat} {T : TypeId} {a b c : Value} {base n : Nat} {e : TypeId} {u : Value} {f : Nat → Int} (h : Box3 w p T a b c) (ho : OwnI w base e u n f) (hne : e ≠ T) : u.ownBlock ≠ some p := by
  unfold Box3 at h
  obtain ⟨_, ho⟩ := ho
  rcases ho with ⟨rfl, _⟩ | ⟨g, cap, cur, rfl, _, hh, _⟩
  · simp [Value.ownBlock]
  · intro he
    have : g = p := by simpa [Value.ownBlock] using he
    subst this
    rw [h] at hh
    injection hh with hh
    injection hh with _ hh _
    exact hne hh.symm
theorem Box3.below {B : Nat} {w w' : World} {p : Nat} {T : TypeId} {a b c : Value} (h : Box3 w p T a b c) (hb : Below B w w') (hp : p < B) : Box3 w' p T a b c := (hb.block p hp).trans h

theorem half2 (d : Nat) (h1 : 1 ≤ d) : (2 : Int) ^ d = 2 * halfOf d := by
  unfold halfOf
  obtain ⟨k, rfl⟩ : ∃ k, d = k + 1 := ⟨d - 1, by omega⟩
  simp only [Nat.add_sub_cancel]
  rw [Int.pow_succ]
  omega

set_option maxHeartbeats 32000000 in
theorem colorBounds_walk (a0 : Int) (A : Option Addr) (n c : Nat) (f : Nat → Int) (w : World) (ha : IntsAt w w.heap.size A n f) (hn : n ≤ 9223372036854775807) :
    Calls Try.prog 7 #[.int .i64 a0, .slice A n c] w fun e w' => e = .returned (.bool true) ∧ Below w.heap.size w w' := by
  obtain ⟨d, h1, h2, hd, hd1, hd2⟩ := depth_of a0
  obtain ⟨m, hm1, hm2, hm3⟩ : ∃ m, m ≤ n ∧ m ≤ 90 ∧ (n ≤ m ∨ 90 ≤ m) := ⟨min n 90, by omega, by omega, by omega⟩
  have hh := halfOf_bd h1 h2
  have hw := half_wrap h1 h2
  have hw2 : IntKind.i64.wrap (2 ^ d) = 2 * halfOf d := by rw [half2 d h1]; exact IntWalk.i64_in _ (by omega)
  go_enter Try.func7, Try.ntmps7
  go_wp2_with fail
  refine (known11 _).mono ?_
  rintro e w1 ⟨rfl, hb1⟩
  go_wp2_with fail
  refine (within11 _ _ (by omega) (by omega) _).mono ?_
  rintro e w1' ⟨rfl, hq⟩
  subst hq
  --CUT
  obtain ⟨M, hM⟩ : ∃ M, M = 2 * halfOf d := ⟨_, rfl⟩
  have hM1 : 2 * halfOf d = M := hM.symm
  have hM2 : 2 ≤ M ∧ M ≤ 65536 := by omega
  rw [hM1] at hw2
  have HM := Lib.hid hM
  have hu : IntKind.u64.wrap (d : Int) = d := by rw [IntKind.wrap_u64]; omega
  have hmin : min d 64 = d := by omega
  clear hM hM1
  have HA := Lib.hid ((ha.below hb1).more hb1.size)
  go_upto_block 0 with fail
  go_cut [6] from 16 (fun i wr => ∃ (X0 X1 X2 : Option Addr) (c0 c1 c2 : Nat), Box3 wr w1.heap.size 32 (.slice X0 (thirdN m 0) c0) (.slice X1 (thirdN m 1) c1) (.slice X2 (thirdN m 2) c2) ∧ OwnI wr (w1.heap.size + 1) 3 (.slice X0 (thirdN m 0) c0) (thirdN m 0) (thirdF f M 0) ∧ OwnI wr (w1.heap.size + 1) 3 (.slice X1 (thirdN m 1) c1) (thirdN m 1) (thirdF f M 1) ∧ OwnI wr (w1.heap.size + 1) 3 (.slice X2 (thirdN m 2) c2) (thirdN m 2) (thirdF f M 2) ∧ Sep (.slice X0 (thirdN m 0) c0) (.slice X1 (thirdN m 1) c1) ∧ Sep (.slice X0 (thirdN m 0) c0) (.slice X2 (thirdN m 2) c2) ∧ Sep (.slice X1 (thirdN m 1) c1) (.slice X2 (thirdN m 2) c2) ∧ Below w1.heap.size w1 wr)
  case first =>
    go_wp2_with fail
    go_loopw [6] (fun i wr => ∃ (k : Nat) (X0 X1 X2 : Option Addr) (c0 c1 c2 : Nat), k ≤ m ∧ i = .int .i64 k ∧ Box3 wr w1.heap.size 32 (.slice X0 (thirdN k 0) c0) (.slice X1 (thirdN k 1) c1) (.slice X2 (thirdN k 2) c2) ∧ OwnI wr (w1.heap.size + 1) 3 (.slice X0 (thirdN k 0) c0) (thirdN k 0) (thirdF f M 0) ∧ OwnI wr (w1.heap.size + 1) 3 (.slice X1 (thirdN k 1) c1) (thirdN k 1) (thirdF f M 1) ∧ OwnI wr (w1.heap.size + 1) 3 (.slice X2 (thirdN k 2) c2) (thirdN k 2) (thirdF f M 2) ∧ Sep (.slice X0 (thirdN k 0) c0) (.slice X1 (thirdN k 1) c1) ∧ Sep (.slice X0 (thirdN k 0) c0) (.slice X2 (thirdN k 2) c2) ∧ Sep (.slice X1 (thirdN k 1) c1) (.slice X2 (thirdN k 2) c2) ∧ Below w1.heap.size w1 wr) (fun i _ => m - (intOf i).toNat)
    case atStart => exact ⟨0, none, none, none, 0, 0, 0, Nat.zero_le _, rfl, heap_alloc_new w1 _, OwnI.nil_ _ _ _ _, OwnI.nil_ _ _ _ _, OwnI.nil_ _ _ _ _, Sep.nil_ _, Sep.nil_ _, Sep.nil_ _, below_alloc (Below.refl _ _) _⟩
    case round =>
      obtain ⟨k, X0, X1, X2, c0, c1, c2, hk, rfl, bx, o0, o1, o2, s01, s02, s12, hbel⟩ := hrel
      by_cases hlt : k < m
      · obtain ⟨b, off, rfl, hb0, hc⟩ := (HA.out.below hbel).at_ (show k < n by omega)
        have hsz := hbel.size
        have hpl := bx.lt
        obtain ⟨q, r, hqr, hr⟩ : ∃ q r, k = 3 * q + r ∧ r < 3 := ⟨k / 3, k % 3, by omega, by omega⟩
        have m1 := Int.emod_nonneg (f k) (b := M) (by omega)
        have m2 := Int.emod_lt_of_pos (f k) (b := M) (by omega)
        obtain ⟨N0, e0⟩ : ∃ N, thirdN k 0 = N := ⟨_, rfl⟩
        obtain ⟨N1, e1⟩ : ∃ N, thirdN k 1 = N := ⟨_, rfl⟩
        obtain ⟨N2, e2⟩ : ∃ N, thirdN k 2 = N := ⟨_, rfl⟩
        rw [e0, e1, e2] at bx
        rw [e0] at o0 s01 s02
        rw [e1] at o1 s01 s12
        rw [e2] at o2 s02 s12
        have x0 := bx.cell0
        have x1 := bx.cell1
        have x2 := bx.cell2
        have fr := bx.free
        obtain rfl | rfl | rfl : r = 0 ∨ r = 1 ∨ r = 2 := by omega
        · have hj : N0 = q := by unfold thirdN at e0 e1 e2; omega
          have g0 : thirdN (k + 1) 0 = N0 + 1 := by unfold thirdN at *; omega
          have g1 : thirdN (k + 1) 1 = N1 := by unfold thirdN at *; omega
          have g2 : thirdN (k + 1) 2 = N2 := by unfold thirdN at *; omega
          have hv : thirdF f M 0 N0 = f k % M := by unfold thirdF; rw [hj, ← hqr]
          have tm : Int.tmod (k : Int) 3 = 0 := by rw [Int.tmod_eq_emod_of_nonneg (by omega)]; omega
          have G0 := Lib.hid g0
          have G1 := Lib.hid g1
          have G2 := Lib.hid g2
          have bn : N0 ≤ 90 := by omega
          clear e0 e1 e2 g0 g1 g2 hqr hr hj
          go_wp2_with fail
          go_region_law (first
            | (go_simp; go_at_call 16; refine (within11 _ _ (by omega) (by omega) _).mono ?_; rintro e ww ⟨rfl, hq⟩; subst hq; dsimp only)
            | (refine step_app1 wr (by repeat (first | exact Below.refl _ _ | apply Below.drew | refine Below.alloc ?_ (by simp) _)) (by rfl) _ _ 22 (by rfl) 3 int_info Try.underlying22 (w1.heap.size + 1) X0 N0 c0 (thirdF f M 0) (by rfl) o0 wr.heap.size (by rfl) ?_ (by omega) (by omega) ?_; simp [hv]; intro ga capa wa oa sta lta; have bxa := bx.below sta.below (Nat.lt_succ_self _); have xa := bxa.cell0; have fra := bxa.free 0))
          all_goals
            have nA : ∀ v, Value.ownBlock (.slice (some ⟨ga, 0, none⟩) (N0 + 1) capa) = some v → w1.heap.size < v := fun v he => (oa.lt v he).1
            have z1 := (sta.keep _ _ _ _ o1 s01).other (a := ⟨w1.heap.size, 0, none⟩) (fun he => absurd (o1.lt _ he).1 (Nat.not_succ_le_self _)) (.slice (some ⟨ga, 0, none⟩) (N0 + 1) capa)
            have z2 := (sta.keep _ _ _ _ o2 s02).other (a := ⟨w1.heap.size, 0, none⟩) (fun he => absurd (o2.lt _ he).1 (Nat.not_succ_le_self _)) (.slice (some ⟨ga, 0, none⟩) (N0 + 1) capa)
            have z0 := oa.other (a := ⟨w1.heap.size, 0, none⟩) (fun he => absurd (nA _ he) (Nat.lt_irrefl _)) (.slice (some ⟨ga, 0, none⟩) (N0 + 1) capa)
            have t1 := sta.sep _ _ _ _ o1 s01
            have t2 := sta.sep _ _ _ _ o2 s02
            have bx' := bxa.set0 (.slice (some ⟨ga, 0, none⟩) (N0 + 1) capa)
            have hbel' := (hbel.trans (sta.below.mono (Nat.le_succ _))).setCell (p := ⟨w1.heap.size, 0, none⟩) (Nat.le_refl _) (.slice (some ⟨ga, 0, none⟩) (N0 + 1) capa)
            clear sta bxa oa o0 o1 o2 hbel bx nA
            go_wp2_with fail
            go_roundw
            case rel =>
              refine ⟨k + 1, some ⟨ga, 0, none⟩, X1, X2, capa, c1, c2, by omega, by go_num, ?_⟩
              rw [G0.out, G1.out, G2.out]
              exact ⟨bx', z0, z1, z2, t1, t2, s12, hbel'⟩
            case measure => simp [intOf]; omega
        · have hj : N1 = q := by unfold thirdN at e0 e1 e2; omega
          have g0 : thirdN (k + 1) 0 = N0 := by unfold thirdN at *; omega
          have g1 : thirdN (k + 1) 1 = N1 + 1 := by unfold thirdN at *; omega
          have g2 : thirdN (k + 1) 2 = N2 := by unfold thirdN at *; omega
          have hv : thirdF f M 1 N1 = f k % M := by unfold thirdF; rw [hj, ← hqr]
          have tm : Int.tmod (k : Int) 3 = 1 := by rw [Int.tmod_eq_emod_of_nonneg (by omega)]; omega
          have G0 := Lib.hid g0
          have G1 := Lib.hid g1
          have G2 := Lib.hid g2
          have bn : N1 ≤ 90 := by omega
          clear e0 e1 e2 g0 g1 g2 hqr hr hj
          go_wp2_with fail
          go_region_law (first
            | (go_simp; go_at_call 16; refine (within11 _ _ (by omega) (by omega) _).mono ?_; rintro e ww ⟨rfl, hq⟩; subst hq; dsimp only)
            | (refine step_app1 wr (by repeat (first | exact Below.refl _ _ | apply Below.drew | refine Below.alloc ?_ (by simp) _)) (by rfl) _ _ 22 (by rfl) 3 int_info Try.underlying22 (w1.heap.size + 1) X1 N1 c1 (thirdF f M 1) (by rfl) o1 wr.heap.size (by rfl) ?_ (by omega) (by omega) ?_; simp [hv]; intro ga capa wa oa sta lta; have bxa := bx.below sta.below (Nat.lt_succ_self _); have xa := bxa.cell1; have fra := bxa.free 1))
          all_goals
            have nA : ∀ v, Value.ownBlock (.slice (some ⟨ga, 0, none⟩) (N1 + 1) capa) = some v → w1.heap.size < v := fun v he => (oa.lt v he).1
            have z0 := (sta.keep _ _ _ _ o0 s01.symm).other (a := ⟨w1.heap.size, 1, none⟩) (fun he => absurd (o0.lt _ he).1 (Nat.not_succ_le_self _)) (.slice (some ⟨ga, 0, none⟩) (N1 + 1) capa)
            have z2 := (sta.keep _ _ _ _ o2 s12).other (a := ⟨w1.heap.size, 1, none⟩) (fun he => absurd (o2.lt _ he).1 (Nat.not_succ_le_self _)) (.slice (some ⟨ga, 0, none⟩) (N1 + 1) capa)
            have z1 := oa.other (a := ⟨w1.heap.size, 1, none⟩) (fun he => absurd (nA _ he) (Nat.lt_irrefl _)) (.slice (some ⟨ga, 0, none⟩) (N1 + 1) capa)
            have t0 := sta.sep _ _ _ _ o0 s01.symm
            have t2 := sta.sep _ _ _ _ o2 s12
            have bx' := bxa.set1 (.slice (some ⟨ga, 0, none⟩) (N1 + 1) capa)
            have hbel' := (hbel.trans (sta.below.mono (Nat.le_succ _))).setCell (p := ⟨w1.heap.size, 1, none⟩) (Nat.le_refl _) (.slice (some ⟨ga, 0, none⟩) (N1 + 1) capa)
            clear sta bxa oa o0 o1 o2 hbel bx nA
            go_wp2_with fail
            go_roundw
            case rel =>
              refine ⟨k + 1, X0, some ⟨ga, 0, none⟩, X2, c0, capa, c2, by omega, by go_num, ?_⟩
              rw [G0.out, G1.out, G2.out]
              exact ⟨bx', z0, z1, z2, t0.symm, s02, t2, hbel'⟩
            case measure => simp [intOf]; omega
        · have hj : N2 = q := by unfold thirdN at e0 e1 e2; omega
          have g0 : thirdN (k + 1) 0 = N0 := by unfold thirdN at *; omega
          have g1 : thirdN (k + 1) 1 = N1 := by unfold thirdN at *; omega
          have g2 : thirdN (k + 1) 2 = N2 + 1 := by unfold thirdN at *; omega
          have hv : thirdF f M 2 N2 = f k % M := by unfold thirdF; rw [hj, ← hqr]
          have tm : Int.tmod (k : Int) 3 = 2 := by rw [Int.tmod_eq_emod_of_nonneg (by omega)]; omega
          have G0 := Lib.hid g0
          have G1 := Lib.hid g1
          have G2 := Lib.hid g2
          have bn : N2 ≤ 90 := by omega
          clear e0 e1 e2 g0 g1 g2 hqr hr hj
          go_wp2_with fail
          go_region_law (first
            | (go_simp; go_at_call 16; refine (within11 _ _ (by omega) (by omega) _).mono ?_; rintro e ww ⟨rfl, hq⟩; subst hq; dsimp only)
            | (refine step_app1 wr (by repeat (first | exact Below.refl _ _ | apply Below.drew | refine Below.alloc ?_ (by simp) _)) (by rfl) _ _ 22 (by rfl) 3 int_info Try.underlying22 (w1.heap.size + 1) X2 N2 c2 (thirdF f M 2) (by rfl) o2 wr.heap.size (by rfl) ?_ (by omega) (by omega) ?_; simp [hv]; intro ga capa wa oa sta lta; have bxa := bx.below sta.below (Nat.lt_succ_self _); have xa := bxa.cell2; have fra := bxa.free 2))
          all_goals
            have nA : ∀ v, Value.ownBlock (.slice (some ⟨ga, 0, none⟩) (N2 + 1) capa) = some v → w1.heap.size < v := fun v he => (oa.lt v he).1
            have z0 := (sta.keep _ _ _ _ o0 s02.symm).other (a := ⟨w1.heap.size, 2, none⟩) (fun he => absurd (o0.lt _ he).1 (Nat.not_succ_le_self _)) (.slice (some ⟨ga, 0, none⟩) (N2 + 1) capa)
            have z1 := (sta.keep _ _ _ _ o1 s12.symm).other (a := ⟨w1.heap.size, 2, none⟩) (fun he => absurd (o1.lt _ he).1 (Nat.not_succ_le_self _)) (.slice (some ⟨ga, 0, none⟩) (N2 + 1) capa)
            have z2 := oa.other (a := ⟨w1.heap.size, 2, none⟩) (fun he => absurd (nA _ he) (Nat.lt_irrefl _)) (.slice (some ⟨ga, 0, none⟩) (N2 + 1) capa)
            have t0 := sta.sep _ _ _ _ o0 s02.symm
            have t1 := sta.sep _ _ _ _ o1 s12.symm
            have bx' := bxa.set2 (.slice (some ⟨ga, 0, none⟩) (N2 + 1) capa)
            have hbel' := (hbel.trans (sta.below.mono (Nat.le_succ _))).setCell (p := ⟨w1.heap.size, 2, none⟩) (Nat.le_refl _) (.slice (some ⟨ga, 0, none⟩) (N2 + 1) capa)
            clear sta bxa oa o0 o1 o2 hbel bx nA
            go_wp2_with fail
            go_roundw
            case rel =>
              refine ⟨k + 1, X0, X1, some ⟨ga, 0, none⟩, c0, c1, capa, by omega, by go_num, ?_⟩
              rw [G0.out, G1.out, G2.out]
              exact ⟨bx', z0, z1, z2, s01, t0.symm, t1.symm, hbel'⟩
            case measure => simp [intOf]; omega
      · obtain rfl : k = m := by omega
        have hx : k = n ∨ (k = 90 ∧ 90 < n) := by omega
        rcases hx with rfl | ⟨rfl, hx⟩
        all_goals
          go_wp2_with fail
          go_meet
          case rel => exact ⟨X0, X1, X2, c0, c1, c2, bx, o0, o1, o2, s01, s02, s12, hbel⟩
  case rest =>
      obtain ⟨X0, X1, X2, c0, c1, c2, bx, o0, o1, o2, s01, s02, s12, hbel⟩ := hcut
      obtain ⟨wr, hwr⟩ : ∃ wr, wr = wc := ⟨_, rfl⟩
      subst hwr
      obtain ⟨k, hk⟩ : ∃ k, k = m := ⟨_, rfl⟩
      subst hk
      have hpl := bx.lt
      have x0 := bx.cell0
      have x1 := bx.cell1
      have x2 := bx.cell2
      have y0 := o0.ints
      have y1 := o1.ints
      have y2 := o2.ints
      have k0 := o0.cap
      have k1 := o1.cap
      have k2 := o2.cap
      obtain ⟨T, hT⟩ : ∃ T, T = k / 3 := ⟨_, rfl⟩
      have hT1 : T ≤ 30 := by omega
      have tb : ∀ j q, 0 ≤ thirdF f M j q ∧ thirdF f M j q < M := fun j q => ⟨Int.emod_nonneg _ (by omega), Int.emod_lt_of_pos _ (by omega)⟩
      have TB := Lib.hid tb
      have cs : (¬ thirdN k 1 < thirdN k 0 ∧ ¬ thirdN k 2 < thirdN k 0 ∧ thirdN k 0 = T ∧ T ≤ thirdN k 1 ∧ T ≤ thirdN k 2) ∨ (thirdN k 1 < thirdN k 0 ∧ ¬ thirdN k 2 < thirdN k 1 ∧ thirdN k 1 = T ∧ T ≤ thirdN k 0 ∧ T ≤ thirdN k 2) ∨ (¬ thirdN k 1 < thirdN k 0 ∧ thirdN k 2 < thirdN k 0 ∧ thirdN k 2 = T ∧ T ≤ thirdN k 0 ∧ T ≤ thirdN k 1) := by unfold thirdN; omega
      have I0 := y0.less (m := T) (by unfold thirdN; omega)
      have i1 := y1.less (m := T) (by unfold thirdN; omega)
      have i2 := y2.less (m := T) (by unfold thirdN; omega)
      have cc0 : (T : Int) ≤ (c0 : Int) := by unfold thirdN at k0; omega
      have cc1 : (T : Int) ≤ (c1 : Int) := by unfold thirdN at k1; omega
      have cc2 : (T : Int) ≤ (c2 : Int) := by unfold thirdN at k2; omega
      have tp : (0 : Int) ≤ (T : Int) := by omega
      have hT2 : T ≤ 1099511627776 := by omega
      have J0 : IntsAt wr.drew wr.drew.heap.size X0 T (thirdF f M 0) := I0.drew
      have hM3 := HM.out
      have sb : ∀ j, -1099511627776 ≤ thirdF f M j k ∧ thirdF f M j k ≤ 1099511627776 := fun j => by have := TB.out j k; omega
      have AB : ∀ (j q : Nat), -halfOf d ≤ thirdF f M j q - shiftBy d false ∧ thirdF f M j q - shiftBy d false < halfOf d := fun j q => by
        have := TB.out j q
        show -halfOf d ≤ thirdF f M j q - halfOf d ∧ thirdF f M j q - halfOf d < halfOf d
        omega
      have AB' := Lib.hid AB
      clear AB
      have AB := AB'
      clear AB'
      have SB : ∀ (j q : Nat), q < T → -1099511627776 ≤ thirdF f M j q - shiftBy d false ∧ thirdF f M j q - shiftBy d false ≤ 1099511627776 := fun j q _ => by have := AB.out j q; omega
      have SB := Lib.hid SB
      have TB2 : ∀ (j q : Nat), q < T → -1099511627776 ≤ thirdF f M j q ∧ thirdF f M j q ≤ 1099511627776 := fun j q _ => by have := TB.out j q; omega
      have TB2 := Lib.hid TB2
      clear bx o0 o1 o2 s01 s02 s12 hT tb HA ha hm1 hm3 k0 k1 k2 sb hM3 y0 y1 y2
      generalize thirdN k 0 = N0 at *
      generalize thirdN k 1 = N1 at *
      generalize thirdN k 2 = N2 at *
      have hbw : Below w.heap.size w wr := below_trans hb1 hbel
      clear hb1 hbel
      skip
      all_goals
        go_upto_region 9 with fail
        go_cut [7] from 16 (fun nn wc' => nn = .int .i64 T ∧ wc' = wr)
        case first =>
          rcases cs with ⟨q1, q2, q5, q3, q4⟩ | ⟨q1, q2, q5, q3, q4⟩ | ⟨q1, q2, q5, q3, q4⟩
          all_goals
            go_wp2_with fail
            go_meet
            case rel => exact ⟨by simp, rfl⟩
        case rest =>
        obtain ⟨rfl, hwc⟩ := hcut
        have hwc := hwc.symm
        subst hwc
        have q3 : T ≤ N0 ∧ T ≤ N1 ∧ T ≤ N2 := by omega
        clear cs
        go_wp2_with fail
        go_region_held3 (fun w' => w'.cell? ⟨w1.heap.size, 0, none⟩ = some (.slice X0 N0 c0) ∧ w'.cell? ⟨w1.heap.size, 1, none⟩ = some (.slice X1 N1 c1) ∧ w'.cell? ⟨w1.heap.size, 2, none⟩ = some (.slice X2 N2 c2))
          (first | go_keep | exact ⟨x0, x1, x2⟩ | exact ⟨xa0, xa1, xa2⟩ | exact ⟨xb0, xb1, xb2⟩ | exact ⟨xc0, xc1, xc2⟩)
          (first
            | (go_at_call 20; (with_reducible refine (shift_any d h1 h2 false X0 T c0 (thirdF f M 0) wr.drew J0 hT2 (TB2.out 0)).mono ?_); rintro e wa ⟨P, rfl, jp, hbP⟩; replace hbP : Below wr.heap.size wr wa := (Below.refl _ _).drew.trans hbP; have xa0 := (hbP.cell (p := ⟨w1.heap.size, 0, none⟩) hpl).trans x0; have xa1 := (hbP.cell (p := ⟨w1.heap.size, 1, none⟩) hpl).trans x1; have xa2 := (hbP.cell (p := ⟨w1.heap.size, 2, none⟩) hpl).trans x2; have j1 := (i1.below hbP).more hbP.size; have j2 := (i2.below hbP).more hbP.size; have hpa := Nat.lt_of_lt_of_le hpl hbP.size; have hba := below_trans hbw hbP)
            | (go_at_call 20; (with_reducible refine (shift_any d h1 h2 false X1 T c1 (thirdF f M 1) wa j1 hT2 (TB2.out 1)).mono ?_); rintro e wb ⟨Q, rfl, jq, hbQ⟩; have xb0 := (hbQ.cell (p := ⟨w1.heap.size, 0, none⟩) hpa).trans xa0; have xb1 := (hbQ.cell (p := ⟨w1.heap.size, 1, none⟩) hpa).trans xa1; have xb2 := (hbQ.cell (p := ⟨w1.heap.size, 2, none⟩) hpa).trans xa2; have l2 := (j2.below hbQ).more hbQ.size; have lp := (jp.below hbQ).more hbQ.size; have hpb := Nat.lt_of_lt_of_le hpa hbQ.size; have hbb := below_trans hba hbQ)
            | (go_at_call 20; (with_reducible refine (shift_any d h1 h2 false X2 T c2 (thirdF f M 2) wb l2 hT2 (TB2.out 2)).mono ?_); rintro e wc ⟨R, rfl, jr, hbR⟩; have xc0 := (hbR.cell (p := ⟨w1.heap.size, 0, none⟩) hpb).trans xb0; have xc1 := (hbR.cell (p := ⟨w1.heap.size, 1, none⟩) hpb).trans xb1; have xc2 := (hbR.cell (p := ⟨w1.heap.size, 2, none⟩) hpb).trans xb2; have mp := (lp.below hbR).more hbR.size; have mq := (jq.below hbR).more hbR.size; have hbc := below_trans hbb hbR)
            | fail)
        rename_i held
        clear held I0 J0 i1 i2 jp j1 j2 lp l2 jq hbP hbQ hbR hba hbb x0 x1 x2 xa0 xa1 xa2 xb0 xb1 xb2 xc0 xc1 xc2
        go_wp2_with fail
        refine (turn_any P Q R T _ _ _ _ _ _ wc mp mq jr (by omega) (SB.out 0) (SB.out 1) (SB.out 2)).mono ?_
        rintro e wd ⟨Y, U, V, rfl, ny, nu, nv, hbD⟩
        have np := (mp.below hbD).more hbD.size
        have hbd := below_trans hbc hbD
        have BB : ∀ q, (-halfOf d ≤ turnY (fun k => thirdF f M 0 k - shiftBy d false) (fun k => thirdF f M 1 k - shiftBy d false) (fun k => thirdF f M 2 k - shiftBy d false) q ∧ turnY (fun k => thirdF f M 0 k - shiftBy d false) (fun k => thirdF f M 1 k - shiftBy d false) (fun k => thirdF f M 2 k - shiftBy d false) q < halfOf d)
          ∧ (-(2 * halfOf d) < turnD (fun k => thirdF f M 2 k - shiftBy d false) (fun k => thirdF f M 1 k - shiftBy d false) q ∧ turnD (fun k => thirdF f M 2 k - shiftBy d false) (fun k => thirdF f M 1 k - shiftBy d false) q < 2 * halfOf d)
          ∧ (-(2 * halfOf d) < turnD (fun k => thirdF f M 0 k - shiftBy d false) (fun k => thirdF f M 1 k - shiftBy d false) q ∧ turnD (fun k => thirdF f M 0 k - shiftBy d false) (fun k => thirdF f M 1 k - shiftBy d false) q < 2 * halfOf d) := fun q => by
            have a0 := AB.out 0 q
            have a1 := AB.out 1 q
            have a2 := AB.out 2 q
            unfold turnY turnD
            dsimp only
            omega
        have BB := Lib.hid BB
        generalize turnY (fun k => thirdF f M 0 k - shiftBy d false) (fun k => thirdF f M 1 k - shiftBy d false) (fun k => thirdF f M 2 k - shiftBy d false) = FY at *
        generalize turnD (fun k => thirdF f M 2 k - shiftBy d false) (fun k => thirdF f M 1 k - shiftBy d false) = FU at *
        generalize turnD (fun k => thirdF f M 0 k - shiftBy d false) (fun k => thirdF f M 1 k - shiftBy d false) = FV at *
        have AB0 := Lib.hid (fun q => AB.out 0 q)
        generalize hFA : (fun k => thirdF f M 0 k - shiftBy d false) = FA at *
        have AB0 : Hid (∀ q, -halfOf d ≤ FA q ∧ FA q < halfOf d) := Lib.hid (fun q => by rw [← hFA]; exact AB0.out q)
        clear hFA AB SB TB TB2 mp mq jr hbD hbc hbw HM
        go_wp2_with fail
        go_loopw [15] (fun i wr => ∃ k q : Nat, k ≤ T ∧ i = .int .i64 k ∧ wr = wd.drewN q) (fun i _ => T - (intOf i).toNat)
        case atStart => exact ⟨0, 0, Nat.zero_le _, rfl, rfl⟩
        case round =>
          obtain ⟨k', q, hk', rfl, rfl⟩ := hrel
          by_cases hlt' : k' < T
          · obtain ⟨ab, ao, rfl, _, ac⟩ := np.at_ hlt'
            obtain ⟨yb, yo, rfl, _, yc⟩ := ny.at_ hlt'
            obtain ⟨ub, uo, rfl, _, uc⟩ := nu.at_ hlt'
            obtain ⟨vb, vo, rfl, _, vc⟩ := nv.at_ hlt'
            have z0 := AB0.out k'
            have z1 := BB.out k'
            generalize FA k' = xa at *
            generalize FY k' = xy at *
            generalize FU k' = xu at *
            generalize FV k' = xv at *
            generalize halfOf d = H at *
            have s1 : IntKind.i64.wrap (2 * H) = 2 * H := IntWalk.i64_in _ (by omega)
            clear np ny nu nv AB0 BB
            have zz : ((((((-H ≤ xa ∧ xa < H) ∧ -H ≤ xy) ∧ xy < H) ∧ -(2 * H) < xu) ∧ xu < 2 * H) ∧ -(2 * H) < xv) ∧ xv < 2 * H := by omega
            go_wp2_with fail
            go_roundw
            case rel => exact ⟨k' + 1, q, by omega, by go_num, rfl⟩
            case measure => simp [intOf]; omega
          · obtain rfl : k' = T := by omega
            go_wp2_with fail
            go_ret
            exact ⟨rfl, below_drewN hbd _⟩
end Go.Proofs.Ytemkeohclmgefaa
