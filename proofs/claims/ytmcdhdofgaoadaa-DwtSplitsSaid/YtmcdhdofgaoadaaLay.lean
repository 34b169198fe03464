/- CONTRACT of dwt.lay: a part into a plane. -/
import Derived.Test.YtmcdhdofgaoadaaDwtLaw
import Derived.StillTailTactics
namespace Go.Proofs.Ytmcdhdofgaoadaa
open Go.RowKit
set_option maxHeartbeats 8000000
set_option linter.unusedVariables false
set_option linter.unusedSimpArgs false

theorem slice_ints_l {P : Program} (t e : TypeId) (hinfo : (P.info? e).map (fun i => (i.zero, i.size, i.bytes)) = some (some (.int .i64 0), 1, 8)) (ht : P.underlying t = some (.slice e)) {w : World} {B : Nat} {A : Option Addr} {N c lo : Nat} {f : Nat → Int} (h : IntsAt w B A N f) (hN : lo ≤ N) (hc : N ≤ c) (l : Int) (hl : l = lo) :
    ∃ A' c', (∀ u, (Instr.sliceAt t (.slice A N c) (some (.int .i64 l)) none none).run P u = .ok (.slice A' (N - lo) c') u) ∧ IntsAt w B A' (N - lo) (fun j => f (lo + j)) := by
  obtain ⟨i, hi, hz0, hz1, hz2⟩ := info_parts hinfo
  have he : P.elem t = e := by simp [Program.elem, ht]
  have ht' : P.underlying t = some (.slice (P.elem t)) := by rw [he]; exact ht
  subst hl
  refine ⟨_, c - lo, fun u => ?_, h.shift (k := lo) (m := N - lo) (cap := c) (by omega) hc⟩
  rw [run_sliceAt_slice _ _ _ _ _ _ ht', run_slice_l _ _ _ _ _ ht' _ _ (by omega) (by omega)]
  have e1 : ((lo : Nat) : Int).toNat = lo := by omega
  rw [e1, he]
  simp [sizeOf, typeInfo, hi, hz1, sliced]

/-- 'copy(dst, src)' onto a plane: all else is as it was -/
theorem wpList_copyI2 {P : Program} {w : World} {ops : Array Oper} {rest : List Oper} {o : Oper} {a : Act} {Q : Exit → Act → World → Prop} (hgd : o.guard = none) (d s : Operand) (T : TypeId)
    (ho : o.op = .call { callee := .builtin .copy, args := #[d, s], argTypes := #[T, T] }) (hu : P.underlying T = some (.slice 3)) (hsz : (P.info? 3).map (·.size) = some 1)
    (dp sp : Option Addr) (dLen dCap sLen sCap : Nat) (hd : a.eval d = .slice dp dLen dCap) (hs : a.eval s = .slice sp sLen sCap)
    (g N off k : Nat) (f h : Nat → Int) (hp : PInt w g N f) (hk : k = Nat.min sLen dLen) (hdp : 0 < k → dp = some ⟨g, off, none⟩) (Bs : Nat) (hsrc : IntsAt w Bs sp sLen h) (hfit : off + k ≤ N)
    (B : Nat) (w0 : World) (hb : Below B w0 w) (hBg : B ≤ g)
    (hK : ∀ w', PInt w' g N (overF off k h f) → Below B w0 w' → w'.heap.size = w.heap.size → (∀ j, j ≠ g → w'.heap[j]? = w.heap[j]?) → wpList P ops Q rest (a.put o.dst (goInt k)) w') : wpList P ops Q (o :: rest) a w := by
  obtain ⟨c, hc, hn, he⟩ := hp
  have hm : Nat.min sLen dLen ≤ sLen := Nat.min_le_left _ _
  rcases Nat.eq_zero_or_pos k with h0 | h0
  · subst h0
    refine wpList_copy_nothing hgd d s T T ho 3 hu hsz dp sp dLen dCap sLen sCap hd hs hk.symm ?_
    exact hK w ⟨c, hc, hn, fun i hi => by
      rw [he i hi]
      have e : overF off 0 h f i = f i := by unfold overF; rw [if_neg (by omega)]
      simp [e]⟩ hb rfl (fun _ _ => rfl)
  · obtain ⟨b, o', rfl, hlt, hcell⟩ := hsrc (by omega)
    have hdp := hdp h0
    subst hdp
    have hlen : ((List.range k).map fun i => Value.int .i64 (h i)).length = k := by simp
    have := wpList_copy_own (P := P) (w := w) (ops := ops) (rest := rest) (o := o) (a := a) (Q := Q) hgd d s T T ho 3 hu hsz g off dLen dCap ⟨b, o', none⟩ sLen sCap hd hs c 3 hc ((List.range k).map fun i => .int .i64 (h i)) (by rw [hlen, hk]) (fun j v hj => by
        have hjk : j < k := by
          rcases Nat.lt_or_ge j k with h | h
          · exact h
          · rw [List.getElem?_eq_none (by rw [hlen]; exact h)] at hj; cases hj
        simp [hjk] at hj
        subst hj
        rw [add_plain]
        exact hcell j (by omega)) (by rw [hlen, hn]; exact hfit) (fun v hv => by
        simp at hv
        obtain ⟨i, _, rfl⟩ := hv
        rfl)
    refine this ?_
    rw [hlen]
    refine hK _ (pint_splice hn he hfit ?_) (below_setRow hb hBg _) (by simp [World.setRow]) (fun j hj => setRow_other w g j _ hj)
    have := setRow_heap w g c (splice c.toList off ((List.range k).map fun i => .int .i64 (h i))).toArray 3 _ hc
    simpa [splice, hlen] using this

/-- a part n wide, from column a and row b on, its first j rows laid -/
def layF (W a b n j : Nat) (h f : Nat → Int) (k : Nat) : Int := if a ≤ k % W ∧ k % W < a + n ∧ b ≤ k / W ∧ k / W < b + j then h ((k / W - b) * n + (k % W - a)) else f k
theorem layF_zero (W a b n : Nat) (h f : Nat → Int) (k : Nat) : layF W a b n 0 h f k = f k := by
  unfold layF
  rw [if_neg]
  rintro ⟨_, _, h1, h2⟩
  exact absurd h2 (Nat.not_lt.2 h1)
theorem layF_step {W a b n j P Q k : Nat} {h f : Nat → Int} (hP : (b + j) * W = P) (hQ : j * n = Q) (hn : a + n ≤ W) : overF (P + a) n (fun i => h (Q + i)) (layF W a b n j h f) k = layF W a b n (j + 1) h f k := by
  unfold overF
  by_cases e : P + a ≤ k ∧ k < P + a + n
  · rw [if_pos e]
    obtain ⟨i, hi⟩ : ∃ i, k = P + (a + i) := ⟨k - P - a, by omega⟩
    subst hi
    have hin : i < n := by omega
    unfold layF
    rw [at_mod hP (by omega), at_div hP (by omega), if_pos ⟨by omega, by omega, by omega, by omega⟩]
    show h (Q + (P + (a + i) - (P + a))) = _
    rw [show b + j - b = j by omega, show a + i - a = i by omega, hQ, show P + (a + i) - (P + a) = i by omega]
  · rw [if_neg e]
    unfold layF
    have hne : ¬ (a ≤ k % W ∧ k % W < a + n ∧ k / W = b + j) := by
      rintro ⟨h1, h2, h3⟩
      apply e
      have h4 := Nat.div_add_mod k W
      rw [h3, Nat.mul_comm, hP] at h4
      omega
    have : (a ≤ k % W ∧ k % W < a + n ∧ b ≤ k / W ∧ k / W < b + j) = (a ≤ k % W ∧ k % W < a + n ∧ b ≤ k / W ∧ k / W < b + (j + 1)) := by
      apply propext
      generalize k / W = d at *
      constructor
      · rintro ⟨h1, h2, h3, h4⟩; exact ⟨h1, h2, h3, by omega⟩
      · rintro ⟨h1, h2, h3, h4⟩
        refine ⟨h1, h2, h3, ?_⟩
        rcases Nat.lt_or_ge d (b + j) with h5 | h5
        · exact h5
        · exact absurd ⟨h1, h2, by omega⟩ hne
    simp only [this]

theorem lay_any (g N W H : Nat) (f : Nat → Int) (a b n m : Nat) (X0 Y0 X1 Y1 : Int) (hX0 : X0 = a) (hY0 : Y0 = b) (hX1 : X1 = (a : Int) + n) (hY1 : Y1 = (b : Int) + m) (A : Option Addr) (c K : Nat) (h : Nat → Int) (B : Nat) (w0 w : World) (hN : H * W = N) (hp : PInt w g N f) (hb : Below B w0 w) (hBg : B ≤ g) (hK : m * n = K)
    (ha : IntsAt w w.heap.size A K h) (hne : 0 < K → ∀ ad, A = some ad → g ≠ ad.block) (hc : K ≤ c) (hN2 : N ≤ 1099511627776) (hW : W ≤ 1048576) (hH : H ≤ 1048576) (h1 : a + n ≤ W) (h2 : b + m ≤ H) :
    Calls Try.prog 37 #[.slice (some ⟨g, 0, none⟩) N N, .int .i64 W, .agg #[.int .i64 X0, .int .i64 Y0, .int .i64 X1, .int .i64 Y1], .slice A K c] w fun e w' => e = .returned (.tuple #[]) ∧ PInt w' g N (layF W a b n m h f) ∧ Below B w0 w' ∧ w.heap.size ≤ w'.heap.size ∧ ∀ j, j < w.heap.size → j ≠ g → w'.heap[j]? = w.heap[j]? := by
  have HN := Lib.hid hN
  have HK := Lib.hid hK
  have hKN : K ≤ N := by rw [← hK, ← hN]; exact Nat.mul_le_mul (by omega) (by omega)
  subst hX0 hY0 hX1 hY1
  clear hN hK
  have s1 : IntKind.i64.wrap ((a : Int) + n - a) = n := by rw [show (a : Int) + n - a = n by omega]; exact IntWalk.i64_in _ (by omega)
  go_enter Try.func37, Try.ntmps37
  go_wp2_with fail
  clear s1
  have p0 := hp.alloc (.cells #[.int .i64 a, .int .i64 b, .int .i64 ((a : Int) + n), .int .i64 ((b : Int) + m)] 23)
  have b0 := hb.alloc (Nat.le_of_lt (Nat.lt_of_le_of_lt hBg hp.lt)) (.cells #[.int .i64 a, .int .i64 b, .int .i64 ((a : Int) + n), .int .i64 ((b : Int) + m)] 23)
  have i0 := ha.alloc (Nat.le_refl _) (.cells #[.int .i64 a, .int .i64 b, .int .i64 ((a : Int) + n), .int .i64 ((b : Int) + m)] 23)
  have r0 : (w.alloc (.cells #[.int .i64 a, .int .i64 b, .int .i64 ((a : Int) + n), .int .i64 ((b : Int) + m)] 23)).heap[w.heap.size]? = some (.cells #[.int .i64 a, .int .i64 b, .int .i64 ((a : Int) + n), .int .i64 ((b : Int) + m)] 23 (0, 0)) := heap_alloc_new w _
  have hgl := hp.lt
  go_loopw [9] (fun y wr => ∃ j : Nat, j ≤ m ∧ y = .int .i64 ((b : Int) + j) ∧ PInt wr g N (layF W a b n j h f) ∧ IntsAt wr w.heap.size A K h ∧ wr.heap[w.heap.size]? = some (.cells #[.int .i64 a, .int .i64 b, .int .i64 ((a : Int) + n), .int .i64 ((b : Int) + m)] 23 (0, 0)) ∧ Below B w0 wr ∧ w.heap.size ≤ wr.heap.size ∧ ∀ j, j < w.heap.size → j ≠ g → wr.heap[j]? = w.heap[j]?) (fun y _ => m + b - (intOf y).toNat)
  case atStart => exact ⟨0, Nat.zero_le _, by simp, p0.congr (fun k _ => (layF_zero W a b n h f k).symm), i0, r0, b0, by simp, fun j hj _ => Below.heap_alloc w _ j hj⟩
  case round =>
    obtain ⟨wa, hwa⟩ : ∃ wa, wa = wr := ⟨_, rfl⟩
    subst hwa
    obtain ⟨j, hj, rfl, pl, i1, r1, hbel, hsz, hfar⟩ := hrel
    clear p0 b0 i0 r0
    have c0 : wa.cell? ⟨w.heap.size, 0, none⟩ = some (.int .i64 a) := by simp [World.cell?, r1]
    have c1 : wa.cell? ⟨w.heap.size, 1, none⟩ = some (.int .i64 b) := by simp [World.cell?, r1]
    have c2 : wa.cell? ⟨w.heap.size, 2, none⟩ = some (.int .i64 ((a : Int) + n)) := by simp [World.cell?, r1]
    have c3 : wa.cell? ⟨w.heap.size, 3, none⟩ = some (.int .i64 ((b : Int) + m)) := by simp [World.cell?, r1]
    by_cases hlt : j < m
    · obtain ⟨P, hP⟩ : ∃ P, (b + j) * W = P := ⟨_, rfl⟩
      have hPW := mul_le_of (W := W) h2 hlt
      rw [HN.out, hP] at hPW
      obtain ⟨Q, hQ⟩ : ∃ Q, j * n = Q := ⟨_, rfl⟩
      have hQK : Q + n ≤ K := by
        have := Nat.mul_le_mul_right n (show j + 1 ≤ m by omega)
        rw [HK.out, Nat.add_mul, hQ, Nat.one_mul] at this
        exact this
      have sP : IntKind.i64.wrap (((b : Int) + j) * W) = (P : Int) := by
        rw [show ((b : Int) + j) * W = (P : Int) by rw [← hP]; simp]
        exact IntWalk.i64_in _ (by omega)
      have sj : IntKind.i64.wrap ((b : Int) + j - b) = j := by rw [show (b : Int) + j - b = j by omega]; exact IntWalk.i64_in _ (by omega)
      have sQ : IntKind.i64.wrap ((j : Int) * n) = (Q : Int) := by
        rw [show (j : Int) * n = (Q : Int) by rw [← hQ]; simp]
        exact IntWalk.i64_in _ (by omega)
      have s3 : IntKind.i64.wrap ((P : Int) + a) = (P : Int) + a := IntWalk.i64_in _ (by omega)
      have s4 : IntKind.i64.wrap ((P : Int) + ((a : Int) + n)) = (P : Int) + ((a : Int) + n) := IntWalk.i64_in _ (by omega)
      have sm : ¬ (K < Q) := by omega
      obtain ⟨D', d', hd', hD', hsl, _⟩ := slice_plane (P := Try.prog) 24 int_info Try.underlying24 (lo := P + a) (n := n) pl pl.lt (by omega) ((P : Int) + a) ((P : Int) + ((a : Int) + n)) (by omega) (by omega)
      obtain ⟨E', f', hse, hI⟩ := slice_ints_l (P := Try.prog) 24 3 int_info Try.underlying24 (lo := Q) i1 (by omega) hc (Q : Int) rfl
      have HP := Lib.hid hP
      have HQ := Lib.hid hQ
      have HD := Lib.hid hD'
      have hbd : Below B w0 wa.drew := hbel.drew
      have pld : PInt wa.drew g N (layF W a b n j h f) := pl
      have hId : IntsAt wa.drew w.heap.size E' (K - Q) (fun i => h (Q + i)) := hI
      clear hP hQ hD' hI
      go_wp2_with fail
      refine wp_region_still_tail 25 (by kernel_rfl) (by kernel_rfl) ?_
      simp only [List.take_succ_cons, List.take_zero, List.drop_succ_cons, List.drop_zero]
      change wpStill _ _ wa.drew (fun a' => wpList _ _ _ _ a' wa.drew) _ _
      repeat still_step
      refine wpStill_nil ?_
      skip
      refine wpList_copyI2 rfl _ _ 24 rfl Try.underlying24 (by kernel_rfl) D' E' n d' (K - Q) f' rfl rfl g N (P + a) n _ _ pld (show n = min (K - Q) n by omega) HD.out _ hId (by omega) B w0 hbd hBg ?_
      intro w4 p4 b4 z4 k4
      have far4 : ∀ j, j < w.heap.size → j ≠ g → w4.heap[j]? = w.heap[j]? := fun j hj hne' => (k4 j hne').trans (hfar j hj hne')
      have sz4 : w.heap.size ≤ w4.heap.size := by rw [z4]; exact hsz
      have p5 := p4.congr (fun k _ => layF_step HP.out HQ.out h1)
      have hgw : w.heap.size ≠ g := Nat.ne_of_gt hgl
      have r5 := (k4 w.heap.size hgw).trans (show wa.drew.heap[w.heap.size]? = _ from r1)
      have i5 : IntsAt w4 w.heap.size A K h := fun hk0 => by
        obtain ⟨bb, off, e, hlt5, hcc⟩ := i1 hk0
        refine ⟨bb, off, e, hlt5, fun k hk => ?_⟩
        have hb5 : bb ≠ g := fun e5 => hne hk0 _ e e5.symm
        exact (World.cell?_of_block (w := wa.drew) (a := ⟨bb, off + k, none⟩) (k4 bb hb5)).trans (hcc k hk)
      clear p4 k4 z4 hfar hsz pld hId hbd pl i1 r1 hbel
      go_wp2_with fail
      go_roundw
      case rel => exact ⟨j + 1, by omega, by go_num, p5, i5, r5, b4, sz4, far4⟩
      case measure => simp [intOf]; omega
    · obtain rfl : j = m := by omega
      go_wp2_with fail
      go_end0
      exact ⟨rfl, pl, hbel, hsz, hfar⟩
end Go.Proofs.Ytmcdhdofgaoadaa
