/- CONTRACT of canvas.Bands. -/
import Derived.Test.YtmieoifagnpbiaaRes
import Derived.Test.YtmieoifagnpbiaaLast
namespace Go.Proofs.Ytmieoifagnpbiaa
open Go.RowKit
set_option maxHeartbeats 4000000
set_option linter.unusedVariables false
set_option linter.unusedSimpArgs false
set_option maxRecDepth 100000

theorem each_band (x0 y0 x1 y1 : Int) (a0 b0 a1 b1 : Int) (p q p' : Value) (w : World)
    (h0 : ∀ V, Below w.heap.size w V → Calls Try.prog 56 #[.int .i64 x0, p, q] V fun e w' => e = .returned (.int .i64 a0) ∧ w' = V)
    (h1 : ∀ V, Below w.heap.size w V → Calls Try.prog 56 #[.int .i64 y0, p', q] V fun e w' => e = .returned (.int .i64 b0) ∧ w' = V)
    (h2 : ∀ V, Below w.heap.size w V → Calls Try.prog 56 #[.int .i64 x1, p, q] V fun e w' => e = .returned (.int .i64 a1) ∧ w' = V)
    (h3 : ∀ V, Below w.heap.size w V → Calls Try.prog 56 #[.int .i64 y1, p', q] V fun e w' => e = .returned (.int .i64 b1) ∧ w' = V) :
    Calls Try.prog 49 #[.agg #[.int .i64 x0, .int .i64 y0, .int .i64 x1, .int .i64 y1], .func (.func 56) #[] #[p, q], .func (.func 56) #[] #[p', q]] w fun e w' => e = .returned (.agg #[.int .i64 a0, .int .i64 b0, .int .i64 a1, .int .i64 b1]) ∧ Below w.heap.size w w' := by
  have H0 := Lib.hid h0
  have H1 := Lib.hid h1
  have H2 := Lib.hid h2
  have H3 := Lib.hid h3
  clear h0 h1 h2 h3
  go_enter Try.func49, Try.ntmps49
  go_wp2_with fail
  generalize hw2 : World.alloc (World.alloc w _) _ = w2
  have c0 : w2.drew.cell? ⟨w.heap.size, 0, none⟩ = some (.int .i64 x0) := by rw [← hw2]; simp [go_sem]
  have c1 : w2.drew.cell? ⟨w.heap.size, 1, none⟩ = some (.int .i64 y0) := by rw [← hw2]; simp [go_sem]
  have c2 : w2.drew.cell? ⟨w.heap.size, 2, none⟩ = some (.int .i64 x1) := by rw [← hw2]; simp [go_sem]
  have c3 : w2.drew.cell? ⟨w.heap.size, 3, none⟩ = some (.int .i64 y1) := by rw [← hw2]; simp [go_sem]
  refine wp_region_still_tail 17 (by kernel_rfl) (by kernel_rfl) ?_
  simp only [List.take_succ_cons, List.take_zero, List.drop_succ_cons, List.drop_zero]
  change wpStill _ _ w2.drew (fun a' => wpList _ _ _ _ a' w2.drew) _ _
  have rr : ∃ u0 u1 u2 u3, w2.drew.heap[w.heap.size + 1]? = some (.cells #[u0, u1, u2, u3] 53 (0, 0)) := ⟨_, _, _, _, by rw [← hw2]; exact heap_alloc_new3 w _ _⟩
  have bb : Below w.heap.size w w2.drew := by rw [← hw2]; exact (below_alloc (below_alloc (Below.refl _ _) _) _).drew
  clear hw2
  generalize World.drew w2 = w3 at *
  obtain ⟨u0, u1, u2, u3, rr⟩ := rr
  have d0 : w3.cell? ⟨w.heap.size + 1, 0, none⟩ = some u0 := by simp [World.cell?, rr]
  have d1 : w3.cell? ⟨w.heap.size + 1, 1, none⟩ = some u1 := by simp [World.cell?, rr]
  have d2 : w3.cell? ⟨w.heap.size + 1, 2, none⟩ = some u2 := by simp [World.cell?, rr]
  have d3 : w3.cell? ⟨w.heap.size + 1, 3, none⟩ = some u3 := by simp [World.cell?, rr]
  have dz : ∀ k, w3.frozen? ⟨w.heap.size + 1, k, none⟩ = false := fun k => by simp [World.frozen?, rr]
  have bz := (((bb.setCell (p := ⟨w.heap.size + 1, 0, none⟩) (Nat.le_succ _) (.int .i64 a0)).setCell (p := ⟨w.heap.size + 1, 1, none⟩) (Nat.le_succ _) (.int .i64 b0)).setCell (p := ⟨w.heap.size + 1, 2, none⟩) (Nat.le_succ _) (.int .i64 a1)).setCell (p := ⟨w.heap.size + 1, 3, none⟩) (Nat.le_succ _) (.int .i64 b1)
  have BB := Lib.hid bb
  clear bb rr
  repeat (first | still_step | (refine wpStill_step (fun K hK => ?_); go_simp; (first | (with_reducible refine ⟨_, H0.out _ BB.out, hK _ ?_⟩) | (with_reducible refine ⟨_, H1.out _ BB.out, hK _ ?_⟩) | (with_reducible refine ⟨_, H2.out _ BB.out, hK _ ?_⟩) | (with_reducible refine ⟨_, H3.out _ BB.out, hK _ ?_⟩)); clear hK K))
  try refine wpStill_nil ?_
  go_wp2_with fail
  refine bodyPost_ret (v := .agg #[.int .i64 a0, .int .i64 b0, .int .i64 a1, .int .i64 b1]) (by simp [results, Try.results49, go_sem, d0, d1, d2, d3]) rfl ⟨rfl, bz⟩

/-- a number by 2^n, ceil; less half of that first -/
def hfI (x : Int) (n : Nat) (odd : Bool) : Int := ceI (x - (if odd then ((2 ^ (n - 1) : Nat) : Int) else 0)) n
def bandR (c : Rc) (n : Nat) (ox oy : Bool) : Rc := ⟨hfI c.x0 n ox, hfI c.y0 n oy, hfI c.x1 n ox, hfI c.y1 n oy⟩
theorem band1_any (x : Int) (n : Nat) (odd : Bool) (h1 : 1 ≤ n) (h2 : n ≤ 30) (hx : -1073741824 ≤ x ∧ x ≤ 1073741824) (b c : Nat) (w : World) (hb : w.cell? ⟨b, 0, none⟩ = some (.bool odd)) (hc : w.cell? ⟨c, 0, none⟩ = some (.int .i64 n)) :
    Calls Try.prog 56 #[.int .i64 x, .pointer (some ⟨b, 0, none⟩), .pointer (some ⟨c, 0, none⟩)] w fun e w' => e = .returned (.int .i64 (hfI x n odd)) ∧ w' = w := by
  have hp : 1 ≤ 2 ^ (n - 1) ∧ 2 ^ (n - 1) ≤ 536870912 := ⟨Nat.one_le_two_pow, by
    calc 2 ^ (n - 1) ≤ 2 ^ 29 := Nat.pow_le_pow_right (by omega) (by omega)
      _ = 536870912 := rfl⟩
  have hpi : (2 : Int) ^ (n - 1) = ((2 ^ (n - 1) : Nat) : Int) := by simp
  unfold hfI
  cases odd
  · have J := Lib.hid (ceil_any (x - 0) n (by omega) (by omega))
    rw [Int.sub_zero] at J
    simp only [Bool.false_eq_true, if_false, Int.sub_zero]
    clear hp hpi
    go_enter Try.func56, Try.ntmps56
    go_wp2_with (go_at_call 54; refine (J.out _).mono ?_; rintro e w' ⟨rfl, rfl⟩; dsimp only)
    go_ret
    exact ⟨rfl, rfl⟩
  · generalize 2 ^ (n - 1) = d at *
    have J := Lib.hid (ceil_any (x - (d : Int)) n (by omega) (by omega))
    simp only [if_true]
    obtain ⟨y, hy⟩ : ∃ y : Int, x - (d : Int) = y := ⟨_, rfl⟩
    have e1 : IntKind.i64.wrap ((n : Int) - 1) = ((n - 1 : Nat) : Int) := by rw [show (n : Int) - 1 = ((n - 1 : Nat) : Int) by omega]; exact wr (by omega)
    have e2 : IntKind.i64.wrap (d : Int) = d := wr (by omega)
    have e3 : IntKind.i64.wrap (x - (d : Int)) = y := by rw [hy]; exact wr (by omega)
    have e4 : ((n - 1 : Nat) : Int).toNat = n - 1 := Int.toNat_natCast _
    have e5 : ¬ (((n - 1 : Nat) : Int) < 0) := by omega
    rw [hy] at J ⊢
    obtain ⟨m, hm⟩ : ∃ m, n - 1 = m := ⟨_, rfl⟩
    rw [hm] at e1 e4 e5 hpi
    have E : wrap64 (x - wrap64 (2 ^ min m 64)) = y := by
      rw [show min m 64 = m by omega, hpi, IntWalk.wrap64_in (d : Int) (by omega)]
      rw [IntWalk.wrap64_in _ (by omega), hy]
    clear hp hy hm hx h1 h2 hpi e2 e3
    go_enter Try.func56, Try.ntmps56
    go_wp2_with fail
    refine (J.out _).mono ?_
    rintro e w' ⟨rfl, rfl⟩
    go_wp2_with fail
    go_ret
    exact ⟨rfl, rfl⟩
theorem half_any (odd : Bool) (c : Nat) (w : World) :
    Calls Try.prog 55 #[.bool odd, .pointer (some ⟨c, 0, none⟩)] w fun e w' => e = .returned (.func (.func 56) #[] #[.pointer (some ⟨w.heap.size, 0, none⟩), .pointer (some ⟨c, 0, none⟩)]) ∧ w' = w.alloc (.cells #[.bool odd] 4) := by
  go_enter Try.func55, Try.ntmps55
  go_wp2_with fail
  go_ret
  exact ⟨rfl, rfl⟩
theorem OwnI.of_block {w : World} {base b n : Nat} {e : TypeId} {cs : Array Value} {f : Nat → Int} (hb : w.heap[b]? = some (.cells cs e (0, 0))) (hbase : base ≤ b) (hn : n ≤ maxLen) (hc : cs.toList = (List.range n).map (fun i => .int .i64 (f i))) : OwnI w base e (.slice (some ⟨b, 0, none⟩) n n) n f := by
  have hl : cs.size = n := by rw [← Array.length_toList, hc]; simp
  exact ⟨by simp, .inr ⟨b, n, cs, rfl, hbase, hb, Nat.le_refl _, hn, by omega, by rw [List.take_of_length_le (by rw [Array.length_toList, hl]; omega), hc]⟩⟩
/-- how many bands a resolution has, their kinds, their rectangles -/
def bandN (r : Nat) : Nat := if r = 0 then 1 else 3
def kindI (r k : Nat) : Int := if r = 0 then 0 else (k : Int) + 1
def bandA (c : Rc) (lv r k : Nat) : Rc := if r = 0 then resR c lv else bandR c (lv - r + 1) ((k : Int) + 1 != 2) ((k : Int) + 1 != 1)
theorem bands_any (C : Rc) (lv r : Nat) (hr : r ≤ lv) (hl : lv ≤ 20) (hC : okR C) (w : World) :
    Calls Try.prog 25 #[rcV C, .int .i64 lv, .int .i64 r] w fun e w' => ∃ K cK X cx, e = .returned (.tuple #[.slice K (bandN r) cK, .slice X (bandN r) cx]) ∧ OwnI w' w.heap.size 3 (.slice K (bandN r) cK) (bandN r) (kindI r) ∧
      OwnC w' w.heap.size 53 4 (.slice X (bandN r) cx) (bandN r) (fun k => rcL (bandA C lv r k)) ∧ Below w.heap.size w w' := by
  by_cases hr0 : r = 0
  · subst hr0
    have H := Lib.hid (fun v => resolution_any C lv 0 lv (by omega) (by omega) (by omega) hC v)
    rw [show ((0 : Nat) : Int) = 0 from rfl] at H
    obtain ⟨a0, a1, a2, a3⟩ := C
    obtain ⟨R, hR⟩ : ∃ R : Rc, R = resR ⟨a0, a1, a2, a3⟩ lv := ⟨_, rfl⟩
    have hb : ∀ k, bandA ⟨a0, a1, a2, a3⟩ lv 0 k = R := fun k => by unfold bandA; rw [if_pos rfl, hR]
    rw [← hR] at H
    obtain ⟨r0, r1, r2, r3⟩ := R
    unfold rcV at H
    unfold rcV
    simp only at H ⊢
    have HB := Lib.hid hb
    clear hR hb hC
    go_enter Try.func25, Try.ntmps25
    go_wp2_with fail
    generalize hv1 : World.alloc (World.alloc w _) _ = V1
    have g1 : V1.heap[w.heap.size + 1]? = some (.cells #[.int .i64 0] 3 (0, 0)) := by rw [← hv1]; exact heap_alloc_new3 w _ _
    have s1 : V1.heap.size = w.heap.size + 2 := by rw [← hv1]; simp
    have b1 : Below w.heap.size w V1 := by rw [← hv1]; exact below_alloc (below_alloc (Below.refl _ _) _) _
    clear hv1
    refine (H.out _).mono ?_
    rintro e V2 ⟨rfl, hb2⟩
    have g2 := (hb2.block (w.heap.size + 1) (by omega)).trans g1
    have b2 := below_trans b1 hb2
    have s2 : w.heap.size + 2 ≤ V2.heap.size := by have := hb2.size; omega
    clear g1 s1 b1 hb2
    go_wp2_with fail
    generalize hv3 : World.alloc V2 _ = V3
    have g3 : V3.heap[V2.heap.size]? = some (.cells #[.int .i64 r0, .int .i64 r1, .int .i64 r2, .int .i64 r3] 53 (0, 0)) := by rw [← hv3]; exact heap_alloc_new _ _
    have g4 : V3.heap[w.heap.size + 1]? = some (.cells #[.int .i64 0] 3 (0, 0)) := by rw [← hv3]; exact (Below.heap_alloc _ _ _ (by omega)).trans g2
    have b3 : Below w.heap.size w V3 := by rw [← hv3]; exact below_alloc b2 _
    refine bodyPost_ret (v := .tuple #[.slice (some ⟨w.heap.size + 1, 0, none⟩) 1 1, .slice (some ⟨V2.heap.size, 0, none⟩) 1 1]) (by simp [results, Try.results25, go_sem]) rfl ?_
    refine ⟨_, _, _, _, rfl, ?_, ?_, b3⟩
    · exact OwnI.of_block g4 (by omega) (by show (1 : Nat) ≤ maxLen; unfold maxLen; omega) rfl
    · exact OwnC.of_block g3 (by omega) (fun _ => rfl) (by show (1 : Nat) ≤ maxLen; unfold maxLen; omega) (by simp only [HB.out]; rfl)

  · obtain ⟨n, hn⟩ : ∃ n, lv - r + 1 = n := ⟨_, rfl⟩
    have hbN : bandN r = 3 := by unfold bandN; rw [if_neg hr0]
    have hkI : ∀ k, kindI r k = (k : Int) + 1 := fun k => by unfold kindI; rw [if_neg hr0]
    have hbA : ∀ k, bandA C lv r k = bandR C n ((k : Int) + 1 != 2) ((k : Int) + 1 != 1) := fun k => by unfold bandA; rw [if_neg hr0, hn]
    rw [hbN]
    have e1 : IntKind.i64.wrap ((lv : Int) - r) = ((lv - r : Nat) : Int) := by rw [show (lv : Int) - r = ((lv - r : Nat) : Int) by omega]; exact wr (by omega)
    have e2 : IntKind.i64.wrap (((lv - r : Nat) : Int) + 1) = (n : Int) := by rw [show ((lv - r : Nat) : Int) + 1 = (n : Int) by omega]; exact wr (by omega)
    have e3 : ¬ ((n : Int) < 1) := by omega
    have e4 : ¬ ((40 : Int) < n) := by omega
    have e5 : ((r : Int) == 0) = false := by simp; omega
    have e6 : ¬ ((r : Int) = 0) := by omega
    have hn2 : 1 ≤ n ∧ n ≤ 30 := by omega
    generalize lv - r = k0 at *
    have HBA := Lib.hid hbA
    have HKI := Lib.hid hkI
    clear hbA hkI hbN hn hr hl hr0
    obtain ⟨a0, a1, a2, a3⟩ := C
    obtain ⟨h0, h1, h2, h3⟩ := hC
    simp only at h0 h1 h2 h3
    unfold rcV
    simp only
    go_enter Try.func25, Try.ntmps25
    go_wp2_with fail
    obtain ⟨q, hq⟩ : ∃ q, w.heap.size = q := ⟨_, rfl⟩
    rw [hq]
    generalize hv1 : World.alloc _ _ = V1
    have g0 : V1.heap[q]? = some (.cells #[.int .i64 a0, .int .i64 a1, .int .i64 a2, .int .i64 a3] 53 (0, 0)) := by rw [← hv1, ← hq]; exact (Below.heap_alloc _ _ _ (by simp; omega)).trans ((Below.heap_alloc _ _ _ (by simp)).trans (heap_alloc_new w _))
    have g1 : V1.heap[q + 1]? = some (.cells #[.int .i64 n] 3 (0, 0)) := by rw [← hv1, ← hq]; exact (Below.heap_alloc _ _ _ (by simp)).trans (heap_alloc_new3 w _ _)
    have g2 : V1.heap[q + 2]? = some (.cells #[.int .i64 1, .int .i64 2, .int .i64 3] 3 (0, 0)) := by rw [← hv1, ← hq]; have := heap_alloc_new ((w.alloc (.cells #[.int .i64 a0, .int .i64 a1, .int .i64 a2, .int .i64 a3] 53)).alloc (.cells #[.int .i64 n] 3)) (.cells #[.int .i64 1, .int .i64 2, .int .i64 3] 3); rwa [World.size_alloc, World.size_alloc] at this
    have hs : V1.heap.size = q + 3 := by rw [← hv1, ← hq]; simp
    have bb : Below q w V1 := by rw [← hv1, ← hq]; exact below_alloc (below_alloc (below_alloc (Below.refl _ _) _) _) _
    clear hv1
    obtain ⟨C, hC⟩ : ∃ C : Rc, C = ⟨a0, a1, a2, a3⟩ := ⟨_, rfl⟩
    have hok : ∀ (k : Nat), ∃ r0 r1 r2 r3 : Int, rcL (bandA C lv r k) = [.int .i64 r0, .int .i64 r1, .int .i64 r2, .int .i64 r3] ∧ r0 = hfI a0 n ((k : Int) + 1 != 2) ∧ r1 = hfI a1 n ((k : Int) + 1 != 1) ∧ r2 = hfI a2 n ((k : Int) + 1 != 2) ∧ r3 = hfI a3 n ((k : Int) + 1 != 1) := fun k => ⟨_, _, _, _, by rw [hC, HBA.out]; rfl, rfl, rfl, rfl, rfl⟩
    rw [← hC] at HBA
    have HCC := Lib.hid hC
    clear hC
    have HOK := Lib.hid hok
    clear hok HBA e1 e2 e3 e4 e5 e6
    go_loopw [11, 31] (fun o i wr => ∃ (k : Nat) (X : Option Addr) (cx : Nat), k ≤ 3 ∧ i = .int .i64 k ∧ o = .slice X k cx ∧ OwnC wr (q + 3) 53 4 (.slice X k cx) k (fun j => rcL (bandA C lv r j)) ∧ Below (q + 3) V1 wr ∧ q + 3 ≤ wr.heap.size) (fun _ i _ => 3 - (intOf i).toNat)
    case atStart => exact ⟨0, none, 0, by omega, rfl, rfl, OwnC.nil_ _ _ _ _ _ (fun _ => rfl), Below.refl _ _, by omega⟩
    case round =>
      obtain ⟨k, X, cx, hk, rfl, rfl, own, hbel, hsz⟩ := hrel
      by_cases hlk : k < 3
      · obtain ⟨wa, hwa⟩ : ∃ wa, wa = wr := ⟨_, rfl⟩
        subst hwa
        obtain ⟨r0, r1, r2, r3, hrc, x0, x1, x2, x3⟩ := HOK.out k
        have gq2 := (hbel.block (q + 2) (by omega)).trans g2
        have kc : wa.cell? ⟨q + 1 + 1, k, none⟩ = some (.int .i64 ((k : Int) + 1)) := by
          rw [cell_of_row _ _ k _ _ (0, 0) gq2]
          rcases (show k = 0 ∨ k = 1 ∨ k = 2 by omega) with rfl | rfl | rfl <;> rfl
        obtain ⟨kd, hkd⟩ : ∃ kd : Int, (k : Int) + 1 = kd := ⟨_, rfl⟩
        rw [hkd] at kc x0 x1 x2 x3
        obtain ⟨ox, hox⟩ : ∃ ox : Bool, (kd != 2) = ox := ⟨_, rfl⟩
        obtain ⟨oy, hoy⟩ : ∃ oy : Bool, (kd != 1) = oy := ⟨_, rfl⟩
        rw [hox] at x0 x2
        rw [hoy] at x1 x3
        have E := fun (V : World) (s1 : Nat) (hq : s1 + 2 ≤ V.heap.size) (c1 : V.cell? ⟨s1, 0, none⟩ = some (.bool ox)) (c2 : V.cell? ⟨s1 + 1, 0, none⟩ = some (.bool oy)) (cn : V.cell? ⟨q + 1, 0, none⟩ = some (.int .i64 n)) (hqn : q + 1 < V.heap.size) =>
          each_band a0 a1 a2 a3 r0 r1 r2 r3 (.pointer (some ⟨s1, 0, none⟩)) (.pointer (some ⟨q + 1, 0, none⟩)) (.pointer (some ⟨s1 + 1, 0, none⟩)) V
            (fun U hU => by rw [x0]; exact band1_any a0 n ox hn2.1 hn2.2 h0 _ _ U ((hU.cell (p := ⟨s1, 0, none⟩) (by simp only; omega)).trans c1) ((hU.cell (p := ⟨q + 1, 0, none⟩) hqn).trans cn))
            (fun U hU => by rw [x1]; exact band1_any a1 n oy hn2.1 hn2.2 h1 _ _ U ((hU.cell (p := ⟨s1 + 1, 0, none⟩) (by simp only; omega)).trans c2) ((hU.cell (p := ⟨q + 1, 0, none⟩) hqn).trans cn))
            (fun U hU => by rw [x2]; exact band1_any a2 n ox hn2.1 hn2.2 h2 _ _ U ((hU.cell (p := ⟨s1, 0, none⟩) (by simp only; omega)).trans c1) ((hU.cell (p := ⟨q + 1, 0, none⟩) hqn).trans cn))
            (fun U hU => by rw [x3]; exact band1_any a3 n oy hn2.1 hn2.2 h3 _ _ U ((hU.cell (p := ⟨s1 + 1, 0, none⟩) (by simp only; omega)).trans c2) ((hU.cell (p := ⟨q + 1, 0, none⟩) hqn).trans cn))
        have E := Lib.hid E
        have HOX := Lib.hid hox
        have HOY := Lib.hid hoy
        have HRC := Lib.hid hrc
        have hkl : (k : Int) < 3 := by omega
        have sk : IntKind.i64.wrap ((k : Int) + 1) = kd := by rw [hkd]; exact wr (by omega)
        have OWN := Lib.hid own
        have gq0 := (hbel.block q (by omega)).trans g0
        have gq1 := (hbel.block (q + 1) (by omega)).trans g1
        have r_0 : wa.cell? ⟨q, 0, none⟩ = some (.int .i64 a0) := cell_of_row _ _ 0 _ _ (0, 0) gq0
        have r_1 : wa.cell? ⟨q, 1, none⟩ = some (.int .i64 a1) := cell_of_row _ _ 1 _ _ (0, 0) gq0
        have r_2 : wa.cell? ⟨q, 2, none⟩ = some (.int .i64 a2) := cell_of_row _ _ 2 _ _ (0, 0) gq0
        have r_3 : wa.cell? ⟨q, 3, none⟩ = some (.int .i64 a3) := cell_of_row _ _ 3 _ _ (0, 0) gq0
        have cn : wa.cell? ⟨q + 1, 0, none⟩ = some (.int .i64 n) := cell_of_row _ _ 0 _ _ (0, 0) gq1
        have HKD := Lib.hid hkd
        clear own hrc x0 x1 x2 x3 hox hoy gq0 gq1 gq2 hkd
        go_wp2_with fail
  
        refine last_cut (by kernel_rfl) (fun U => U.cell? ⟨q, 0, none⟩ = some (.int .i64 a0) ∧ U.cell? ⟨q, 1, none⟩ = some (.int .i64 a1) ∧ U.cell? ⟨q, 2, none⟩ = some (.int .i64 a2) ∧ U.cell? ⟨q, 3, none⟩ = some (.int .i64 a3) ∧ U.cell? ⟨q + 1, 0, none⟩ = some (.int .i64 n)) (fun aF a' W' => ∃ s1 h9 g1 cap1, a' = ((((((((((((((aF.put (some 35) (.slice X k cx)).put (some 36) (.agg #[.int .i64 a0, .int .i64 a1, .int .i64 a2, .int .i64 a3])).put (some 37) (.func (.func 55) #[] #[.pointer (some ⟨q + 1, 0, none⟩)])).put (some 38) (.int .i64 kd)).put (some 39) (.bool ox)).put (some 40) (.func (.func 56) #[] #[.pointer (some ⟨s1, 0, none⟩), .pointer (some ⟨q + 1, 0, none⟩)])).put (some 41) (.func (.func 55) #[] #[.pointer (some ⟨q + 1, 0, none⟩)])).put (some 42) (.int .i64 kd)).put (some 43) (.bool oy)).put (some 44) (.func (.func 56) #[] #[.pointer (some ⟨s1 + 1, 0, none⟩), .pointer (some ⟨q + 1, 0, none⟩)])).put (some 45) (.agg #[.int .i64 r0, .int .i64 r1, .int .i64 r2, .int .i64 r3])).put (some 46) (.slice (some ⟨h9, 0, none⟩) 1 1)).put (some 47) (.slice (some ⟨g1, 0, none⟩) (k + 1) cap1)).put (some 11) (.slice (some ⟨g1, 0, none⟩) (k + 1) cap1)) ∧ OwnC W' (q + 3) 53 4 (.slice (some ⟨g1, 0, none⟩) (k + 1) cap1) (k + 1) (fun j => rcL (bandA C lv r j)) ∧ Below (q + 3) wa W') ⟨r_0, r_1, r_2, r_3, cn⟩ (fun hS => ?_) ?_
        · skip
          have hSB : ∀ U : World, Below (q + 3) wa U → U.cell? ⟨q, 0, none⟩ = some (.int .i64 a0) ∧ U.cell? ⟨q, 1, none⟩ = some (.int .i64 a1) ∧ U.cell? ⟨q, 2, none⟩ = some (.int .i64 a2) ∧ U.cell? ⟨q, 3, none⟩ = some (.int .i64 a3) ∧ U.cell? ⟨q + 1, 0, none⟩ = some (.int .i64 n) := fun U h => ⟨(h.cell (p := ⟨q, 0, none⟩) (by simp only; omega)).trans (r_0), (h.cell (p := ⟨q, 1, none⟩) (by simp only; omega)).trans (r_1), (h.cell (p := ⟨q, 2, none⟩) (by simp only; omega)).trans (r_2), (h.cell (p := ⟨q, 3, none⟩) (by simp only; omega)).trans (r_3), (h.cell (p := ⟨q + 1, 0, none⟩) (by simp only; omega)).trans (cn)⟩
          have bV : Below wa.heap.size wa wa.drew := (Below.refl _ _).drew
          generalize wa.drew = V0 at *
          refine wpAnyL_take (i := 0) (v := .slice X k cx) rfl (by kernel_rfl) (by kernel_rfl) (by kernel_rfl) (fun _ _ _ h => h) (Or.inl ⟨by rfl, ?_⟩) hS ?_
          · intro U hU
            obtain ⟨s0, s1, s2, s3, s4⟩ := hU
            go_simp
          simp only [Act.put, List.setIfInBounds_toArray, List.set_cons_zero, List.set_cons_succ]
          refine wpAnyL_take (i := 1) (v := .agg #[.int .i64 a0, .int .i64 a1, .int .i64 a2, .int .i64 a3]) rfl (by kernel_rfl) (by kernel_rfl) (by kernel_rfl) (fun _ _ _ h => h) (Or.inl ⟨by rfl, ?_⟩) hS ?_
          · intro U hU
            obtain ⟨s0, s1, s2, s3, s4⟩ := hU
            go_simp
          simp only [Act.put, List.setIfInBounds_toArray, List.set_cons_zero, List.set_cons_succ]
          refine wpAnyL_take (i := 2) (v := .func (.func 55) #[] #[.pointer (some ⟨q + 1, 0, none⟩)]) rfl (by kernel_rfl) (by kernel_rfl) (by kernel_rfl) (fun _ _ _ h => h) (Or.inl ⟨by rfl, ?_⟩) hS ?_
          · intro U hU
            obtain ⟨s0, s1, s2, s3, s4⟩ := hU
            go_simp
          simp only [Act.put, List.setIfInBounds_toArray, List.set_cons_zero, List.set_cons_succ]
          refine wpAnyL_take (i := 3) (v := .int .i64 kd) rfl (by kernel_rfl) (by kernel_rfl) (by kernel_rfl) (fun _ _ _ h => h) (Or.inl ⟨by rfl, ?_⟩) hS ?_
          · intro U hU
            obtain ⟨s0, s1, s2, s3, s4⟩ := hU
            go_simp
          simp only [Act.put, List.setIfInBounds_toArray, List.set_cons_zero, List.set_cons_succ]
          refine wpAnyL_take (i := 4) (v := .bool ox) rfl (by kernel_rfl) (by kernel_rfl) (by kernel_rfl) (fun _ _ _ h => h) (Or.inl ⟨by rfl, ?_⟩) hS ?_
          · intro U hU
            obtain ⟨s0, s1, s2, s3, s4⟩ := hU
            have hx := HOX.out
            go_simp
          simp only [Act.put, List.setIfInBounds_toArray, List.set_cons_zero, List.set_cons_succ]
          refine wpAnyL_take (i := 6) (v := .func (.func 55) #[] #[.pointer (some ⟨q + 1, 0, none⟩)]) rfl (by kernel_rfl) (by kernel_rfl) (by kernel_rfl) (fun _ _ _ h => h) (Or.inl ⟨by rfl, ?_⟩) hS ?_
          · intro U hU
            obtain ⟨s0, s1, s2, s3, s4⟩ := hU
            go_simp
          simp only [Act.put, List.setIfInBounds_toArray, List.set_cons_zero, List.set_cons_succ]
          refine wpAnyL_take (i := 7) (v := .int .i64 kd) rfl (by kernel_rfl) (by kernel_rfl) (by kernel_rfl) (fun _ _ _ h => h) (Or.inl ⟨by rfl, ?_⟩) hS ?_
          · intro U hU
            obtain ⟨s0, s1, s2, s3, s4⟩ := hU
            go_simp
          simp only [Act.put, List.setIfInBounds_toArray, List.set_cons_zero, List.set_cons_succ]
          refine wpAnyL_take (i := 8) (v := .bool oy) rfl (by kernel_rfl) (by kernel_rfl) (by kernel_rfl) (fun _ _ _ h => h) (Or.inl ⟨by rfl, ?_⟩) hS ?_
          · intro U hU
            obtain ⟨s0, s1, s2, s3, s4⟩ := hU
            have hx := HOY.out
            go_simp
          simp only [Act.put, List.setIfInBounds_toArray, List.set_cons_zero, List.set_cons_succ]
          refine wpAnyL_ready (rs := [5]) (by kernel_rfl) (by simp) ?_
          refine AllReadyL.cons (by simp only [List.getElem?_toArray, List.getElem?_cons_succ, List.getElem?_cons_zero]; rfl) (fun K' hK' => ?_) AllReadyL.nil
          go_simp
          refine (half_any ox (q + 1) _).mono ?_
          rintro e w' ⟨rfl, rfl⟩
          have bV' := below_alloc bV (.cells #[.bool ox] 4)
          have hS := hSB _ (bV'.mono hsz)
          dsimp only
          refine hK'.out _ _ hS (fun _ => ?_)
          obtain ⟨s1, hs1⟩ : ∃ s1, V0.heap.size = s1 := ⟨_, rfl⟩
          have c1 : (V0.alloc (.cells #[.bool ox] 4)).cell? ⟨s1, 0, none⟩ = some (.bool ox) := by rw [← hs1, cell_of_row _ _ 0 _ _ (0, 0) (heap_alloc_new V0 _)]; rfl
          rw [hs1]
          have hs2 : (V0.alloc (.cells #[.bool ox] 4)).heap.size = s1 + 1 := by rw [World.size_alloc, hs1]
          generalize V0.alloc (.cells #[.bool ox] 4) = U5 at *
          clear hK' K'
          try simp only [Act.put, List.setIfInBounds_toArray, List.set_cons_zero, List.set_cons_succ]
          refine wpAnyL_ready (rs := [9]) (by kernel_rfl) (by simp) ?_
          refine AllReadyL.cons (by simp only [List.getElem?_toArray, List.getElem?_cons_succ, List.getElem?_cons_zero]; rfl) (fun K' hK' => ?_) AllReadyL.nil
          go_simp
          refine (half_any oy (q + 1) _).mono ?_
          rintro e w' ⟨rfl, rfl⟩
          have bV'' := below_alloc bV' (.cells #[.bool oy] 4)
          have hS := hSB _ (bV''.mono hsz)
          dsimp only
          refine hK'.out _ _ hS (fun _ => ?_)
          have c2 : (U5.alloc (.cells #[.bool oy] 4)).cell? ⟨s1 + 1, 0, none⟩ = some (.bool oy) := by rw [← hs2, cell_of_row _ _ 0 _ _ (0, 0) (heap_alloc_new U5 _)]; rfl
          have c1 := cell_al c1 (.cells #[.bool oy] 4)
          rw [hs2]
          have hs3 : (U5.alloc (.cells #[.bool oy] 4)).heap.size = s1 + 2 := by rw [World.size_alloc, hs2]
          generalize U5.alloc (.cells #[.bool oy] 4) = U9 at *
          clear hK' K'
          try simp only [Act.put, List.setIfInBounds_toArray, List.set_cons_zero, List.set_cons_succ]
          refine wpAnyL_ready (rs := [10]) (by kernel_rfl) (by simp) ?_
          refine AllReadyL.cons (by simp only [List.getElem?_toArray, List.getElem?_cons_succ, List.getElem?_cons_zero]; rfl) (fun K' hK' => ?_) AllReadyL.nil
          go_simp
          go_at_call 49
          refine (E.out _ s1 (by omega) c1 c2 ((bV''.cell (p := ⟨q + 1, 0, none⟩) (by simp only; omega)).trans cn) (by have := bV''.size; omega)).mono ?_
          rintro e U10 ⟨rfl, hb10⟩
          have b10 := below_trans bV'' hb10
          have hS := hSB _ (b10.mono hsz)
          dsimp only
          refine hK'.out _ _ hS (fun _ => ?_)
          clear hK' K'
          try simp only [Act.put, List.setIfInBounds_toArray, List.set_cons_zero, List.set_cons_succ]
          refine wpAnyL_ready (rs := [11]) (by kernel_rfl) (by simp) ?_
          refine AllReadyL.cons (by simp only [List.getElem?_toArray, List.getElem?_cons_succ, List.getElem?_cons_zero]; rfl) (fun K' hK' => ?_) AllReadyL.nil
          go_simp
          have b11 := below_alloc b10 (.cells #[.int .i64 r0, .int .i64 r1, .int .i64 r2, .int .i64 r3] 53)
          have hS := hSB _ (b11.mono hsz)
          refine hK'.out _ _ hS (fun _ => ?_)
          obtain ⟨h9, hh9⟩ : ∃ h9, U10.heap.size = h9 := ⟨_, rfl⟩
          try rw [hh9]
          have hcel : ∀ (j : Nat) (u : Value), ((fun j => rcL (bandA C lv r j)) k)[j]? = some u → (U10.alloc (.cells #[.int .i64 r0, .int .i64 r1, .int .i64 r2, .int .i64 r3] 53)).cell? ⟨h9, j, none⟩ = some u := fun j u hj => by
            dsimp only at hj
            rw [HRC.out] at hj
            rw [← hh9, cell_of_row _ _ _ _ _ (0, 0) (heap_alloc_new U10 _)]
            simpa using hj
          generalize U10.alloc (.cells #[.int .i64 r0, .int .i64 r1, .int .i64 r2, .int .i64 r3] 53) = U11 at *
          clear hh9
          clear hK' K'
          try simp only [Act.put, List.setIfInBounds_toArray, List.set_cons_zero, List.set_cons_succ]
          refine wpAnyL_ready (rs := [12]) (by kernel_rfl) (by simp) ?_
          refine AllReadyL.cons (by simp only [List.getElem?_toArray, List.getElem?_cons_succ, List.getElem?_cons_zero]; rfl) (fun K' hK' => ?_) AllReadyL.nil
          refine step_appC wa b11 (others_of_below b11) (by rfl) _ _ 49 (by rfl) 53 4 rect_elem (q + 3) X k cx _ (by rfl) OWN.out h9 (by rfl) hcel (fun u hu => rcL_one _ u hu) (by omega) hsz ?_
          intro g1 cap1 U12 og sg hg
          have hS := hSB _ sg.below
          refine hK'.out _ _ hS (fun _ => ?_)
          clear hK' K'
          try simp only [Act.put, List.setIfInBounds_toArray, List.set_cons_zero, List.set_cons_succ]
          refine wpAnyL_take (i := 13) (v := .slice (some ⟨g1, 0, none⟩) (k + 1) cap1) rfl (by kernel_rfl) (by kernel_rfl) (by kernel_rfl) (fun _ _ _ h => h) (Or.inl ⟨by rfl, ?_⟩) hS ?_
          · intro U hU
            obtain ⟨s0, s1, s2, s3, s4⟩ := hU
            go_simp
          simp only [Act.put, List.setIfInBounds_toArray, List.set_cons_zero, List.set_cons_succ]
          refine wpAnyL_done (by kernel_rfl) ?_ _
          simp only [OnlyN]
          exact ⟨s1, h9, g1, cap1, rfl, og, sg.below⟩
        rintro a' V2 ⟨s1, h9, g1, cap1, rfl, og, hb2⟩
        simp only [Act.put, List.setIfInBounds_toArray, List.set_cons_zero, List.set_cons_succ]
        clear kc
        go_wp2_with fail
        go_roundw
        case rel => exact ⟨k + 1, some ⟨g1, 0, none⟩, cap1, by omega, by have := HKD.out; go_num, rfl, og, hbel.trans hb2, by have := hb2.size; omega⟩
        case measure => have := HKD.out; simp [intOf]; omega
      · obtain rfl : k = 3 := by omega
        have oa := own.at_
        go_wp2_with (at_builtin; refine wpList_copyC rfl _ _ 49 rfl 53 4 rect_elem rfl wr.heap.size X 3 cx _ rfl (fun _ => rfl) oa (fun k u hu => rcL_one _ u hu) (by omega) ?_; intro A1 cap1 V3 o1 bV3 kV3)
        have gK := (bV3.block (q + 2) (by omega)).trans ((hbel.block (q + 2) (by omega)).trans g2)
        have bz := (bb.trans (hbel.mono (show q ≤ q + 3 by omega))).trans (bV3.mono (show q ≤ wr.heap.size by omega))
        refine bodyPost_ret (v := .tuple #[.slice (some ⟨q + 1 + 1, 0, none⟩) 3 3, .slice A1 3 cap1]) (by simp [results, Try.results25, go_sem]) rfl ?_
        rw [hq, ← HCC.out]
        refine ⟨_, _, _, _, rfl, OwnI.of_block gK (by omega) (by unfold maxLen; omega) ?_, o1.mono (by omega), bz⟩
        simp only [HKI.out]
        rfl
end Go.Proofs.Ytmieoifagnpbiaa
