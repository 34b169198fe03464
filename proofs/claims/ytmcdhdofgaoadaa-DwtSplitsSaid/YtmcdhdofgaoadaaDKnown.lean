/- CONTRACTS of waveletlaw10.rows and waveletlaw10.known; bands as they are read. -/
import Derived.Test.YtmcdhdofgaoadaaDSplit2
import Derived.Test.YtmcdhdofgaoadaaWithin10
import Derived.Test.YtmcdhdofgaoadaaInts10
namespace Go.Proofs.Ytmcdhdofgaoadaa
open Go.RowKit
set_option maxHeartbeats 4000000
set_option linter.unusedVariables false
set_option linter.unusedSimpArgs false

/-- at A lie slices of bands -/
def BandsAt (w : World) (B : Nat) (A : Option Addr) (bs : List (Nat × (Nat → Int))) : Prop :=
  0 < bs.length → ∃ b off, A = some ⟨b, off, none⟩ ∧ b < B ∧ ∀ (k : Nat) (x : Nat × (Nat → Int)), bs[k]? = some x → ∃ A' c', w.cell? ⟨b, off + k, none⟩ = some (.slice A' x.1 c') ∧ x.1 ≤ c' ∧ IntsAt w B A' x.1 x.2
theorem RowsAt.bands {w : World} {base : Nat} {v : Value} {bs : List (Nat × (Nat → Int))} (h : RowsAt w base v bs) : ∃ A c, v = .slice A bs.length c ∧ bs.length ≤ c ∧ BandsAt w w.heap.size A bs := by
  rcases Nat.eq_zero_or_pos bs.length with h0 | h0
  · obtain ⟨Vs, h1, _, _⟩ := h
    rcases h1.2 with ⟨rfl, hn⟩ | ⟨g, cap, cur, rfl, _, _, h3, _⟩
    · exact ⟨none, 0, by rw [hn], by omega, fun h => by omega⟩
    · exact ⟨_, cap, rfl, h3, fun h => by omega⟩
  · have hc : ∀ g cap, v = .slice (some ⟨g, 0, none⟩) bs.length cap → bs.length ≤ cap := by
      intro g cap e
      obtain ⟨Vs, h1, _, _⟩ := h
      rcases h1.2 with ⟨rfl, hn⟩ | ⟨g', cap', cur, e', _, _, h3, _⟩
      · cases e
      · rw [e] at e'
        injection e' with _ _ e'
        omega
    obtain ⟨g, cap, e, _, hlt, hk⟩ := h.form h0
    refine ⟨_, cap, e, hc g cap e, fun _ => ⟨g, 0, rfl, hlt, fun k x hx => ?_⟩⟩
    have hkl : k < bs.length := by
      rcases Nat.lt_or_ge k bs.length with h | h
      · exact h
      · rw [List.getElem?_eq_none h] at hx; cases hx
    have ex : bs[k] = x := by
      rw [List.getElem?_eq_getElem hkl] at hx
      exact Option.some.inj hx
    obtain ⟨A', c', h1, h2, h3⟩ := hk k hkl
    rw [ex] at h1 h2 h3
    exact ⟨A', c', by rw [Nat.zero_add]; exact h1, h2, h3⟩
section
variable {w w' : World} {B B' : Nat} {A : Option Addr} {bs cs : List (Nat × (Nat → Int))}
theorem BandsAt.more (h : BandsAt w B A bs) (hb : B ≤ B') : BandsAt w B' A bs := fun h0 => by
  obtain ⟨b, off, rfl, hlt, hk⟩ := h h0
  exact ⟨b, off, rfl, by omega, fun k x hx => by obtain ⟨A', c', h1, h2, h3⟩ := hk k x hx; exact ⟨A', c', h1, h2, h3.more hb⟩⟩
theorem BandsAt.below (h : BandsAt w B A bs) (hb : Below B w w') : BandsAt w' B A bs := fun h0 => by
  obtain ⟨b, off, rfl, hlt, hk⟩ := h h0
  exact ⟨b, off, rfl, hlt, fun k x hx => by obtain ⟨A', c', h1, h2, h3⟩ := hk k x hx; exact ⟨A', c', (hb.cell (p := ⟨b, off + k, none⟩) hlt).trans h1, h2, h3.below hb⟩⟩
theorem BandsAt.drewN (h : BandsAt w B A bs) (q : Nat) : BandsAt (w.drewN q) B A bs := h
theorem BandsAt.at_ (h : BandsAt w B A bs) {k : Nat} {x : Nat × (Nat → Int)} (hx : bs[k]? = some x) : ∃ b off A' c', A = some ⟨b, off, none⟩ ∧ b < B ∧ w.cell? ⟨b, off + k, none⟩ = some (.slice A' x.1 c') ∧ x.1 ≤ c' ∧ IntsAt w B A' x.1 x.2 := by
  have hkl : k < bs.length := by
    rcases Nat.lt_or_ge k bs.length with h | h
    · exact h
    · rw [List.getElem?_eq_none h] at hx; cases hx
  obtain ⟨b, off, rfl, hlt, hk⟩ := h (by omega)
  obtain ⟨A', c', h1, h2, h3⟩ := hk k x hx
  exact ⟨b, off, A', c', rfl, hlt, h1, h2, h3⟩
/-- the same bands, said otherwise -/
theorem BandsAt.congr (h : BandsAt w B A bs) (hl : bs.length = cs.length) (e : ∀ (k : Nat) (x y : Nat × (Nat → Int)), bs[k]? = some x → cs[k]? = some y → x.1 = y.1 ∧ ∀ j, j < x.1 → x.2 j = y.2 j) : BandsAt w B A cs := fun h0 => by
  obtain ⟨b, off, rfl, hlt, hk⟩ := h (by omega)
  refine ⟨b, off, rfl, hlt, fun k y hy => ?_⟩
  have hkl : k < bs.length := by
    rcases Nat.lt_or_ge k bs.length with h | h
    · exact h
    · rw [List.getElem?_eq_none (by omega)] at hy; cases hy
  obtain ⟨A', c', h1, h2, h3⟩ := hk k _ (List.getElem?_eq_getElem hkl)
  obtain ⟨e1, e2⟩ := e k _ y (List.getElem?_eq_getElem hkl) hy
  rw [e1] at h1 h2 h3 e2
  exact ⟨A', c', h1, h2, h3.congr e2⟩
end

theorem rows10 (A A' : Option Addr) (c c' n : Nat) (bs : List (Nat × (Nat → Int))) (hn : bs.length = n) (w : World) (B B' : Nat) (h : BandsAt w B A bs) (h' : BandsAt w B' A' bs) (hs : n ≤ 1048576) (hb : ∀ (k : Nat) (x : Nat × (Nat → Int)), bs[k]? = some x → x.1 ≤ 4611686018427387904) :
    Calls Try.prog 14 #[.slice A n c, .slice A' n c'] w fun e w' => e = .returned (.bool true) ∧ ∃ q, w' = w.drewN q := by
  have HB := Lib.hid hb
  have HN := Lib.hid hn
  clear hb hn
  go_enter Try.func14, Try.ntmps14
  go_wp2_with fail
  go_loopw [5] (fun i wr => ∃ k q : Nat, k ≤ n ∧ i = .int .i64 k ∧ wr = w.drewN q) (fun i _ => n - (intOf i).toNat)
  case atStart => exact ⟨0, 0, Nat.zero_le _, rfl, rfl⟩
  case round =>
    obtain ⟨k, q, hk, rfl, hq⟩ := hrel
    by_cases hlt : k < n
    · have hx : bs[k]? = some (bs[k]'(by rw [HN.out]; exact hlt)) := List.getElem?_eq_getElem _
      generalize bs[k]'(by rw [HN.out]; exact hlt) = x at hx
      have hbx := HB.out k x hx
      obtain ⟨b1, o1, X1, d1, rfl, l1, f1, _, j1⟩ := h.at_ hx
      obtain ⟨b2, o2, X2, d2, rfl, l2, f2, _, j2⟩ := h'.at_ hx
      have f1 : wr.cell? ⟨b1, o1 + k, none⟩ = some (.slice X1 x.1 d1) := by rw [hq]; exact f1
      have f2 : wr.cell? ⟨b2, o2 + k, none⟩ = some (.slice X2 x.1 d2) := by rw [hq]; exact f2
      have j1 : IntsAt wr B X1 x.1 x.2 := by rw [hq]; exact j1
      have j2 : IntsAt wr B' X2 x.1 x.2 := by rw [hq]; exact j2
      have HQ := Lib.hid hq
      clear hq h h' hx
      obtain ⟨m, g⟩ := x
      simp only at f1 f2 j1 j2 hbx
      go_wp2_with fail
      go_quiet (first | (go_at_call 17; exact Calls.quiet_of (ints10 X1 X2 m d1 d2 g _ B B' (j1.drewN _) (j2.drewN _) hbx)))
      go_wp2
      go_roundw
      case rel => exact ⟨k + 1, _, by omega, by go_num, by rw [HQ.out, World.drewN_drewN]⟩
      case measure => simp [intOf]; omega
    · subst hq
      go_wp2
      go_ret
      exact ⟨rfl, q, rfl⟩

theorem known10 (w : World) : Calls Try.prog 11 #[] w fun e w' => e = .returned (.bool true) ∧ Below w.heap.size w w' := by
  obtain ⟨f, hf⟩ : ∃ f : Nat → Int, f = fun k => if k = 0 then 7 else 8 := ⟨_, rfl⟩
  have hf1 : f 1 = 8 := by rw [hf]; rfl
  have hI : IntsAt (w.alloc (.cells #[.int .i64 7, .int .i64 8] 3)) (w.alloc (.cells #[.int .i64 7, .int .i64 8] 3)).heap.size (some ⟨w.heap.size, 0, none⟩) 2 f := IntsAt.lit w _ _ 2 f (fun k hk => by
    obtain rfl | rfl : k = 0 ∨ k = 1 := by omega
    · rw [hf]; rfl
    · rw [hf]; rfl) (by simp)
  have hM : Within 2 8 f := fun k hk => by rw [hf]; simp only; split <;> omega
  have SP : Calls Try.prog 15 #[.agg #[.int .i64 3, .int .i64 4, .int .i64 5, .int .i64 5], .int .i64 0, .slice (some ⟨w.heap.size, 0, none⟩) 2 2] (w.alloc (.cells #[.int .i64 7, .int .i64 8] 3)) fun e w' => ∃ v, e = .returned v ∧ RowsAt w' (w.alloc (.cells #[.int .i64 7, .int .i64 8] 3)).heap.size v [(2, f)] ∧ Below (w.alloc (.cells #[.int .i64 7, .int .i64 8] 3)).heap.size (w.alloc (.cells #[.int .i64 7, .int .i64 8] 3)) w' :=
    dsplit_any 0 (by omega) 3 4 2 1 2 rfl (by omega) (by omega) (by omega) (by omega) _ 2 f 8 _ hI hM (by omega) (by omega)
  have SP := Lib.hid SP
  clear hI hM hf
  go_enter Try.func11, Try.ntmps11
  go_wp2_with fail
  refine SP.out.mono ?_
  rintro e w1 ⟨v, rfl, r1, b1⟩
  obtain ⟨A, c, rfl, hc, hB⟩ := r1.bands
  obtain ⟨b2, o2, X, d, rfl, l2, f2, _, j2⟩ := hB.at_ (k := 0) (x := (2, f)) rfl
  obtain ⟨b3, o3, rfl, l3, f3⟩ := j2.at_ (show 1 < 2 by omega)
  simp only [List.length_singleton, Nat.add_zero] at f2 f3 ⊢
  rw [hf1] at f3
  have hB1 := below_trans (below_alloc (Below.refl _ w) _) b1
  clear SP r1 b1 hB j2 hf1
  go_wp2_with fail
  go_ret
  exact ⟨rfl, hB1⟩
end Go.Proofs.Ytmcdhdofgaoadaa
