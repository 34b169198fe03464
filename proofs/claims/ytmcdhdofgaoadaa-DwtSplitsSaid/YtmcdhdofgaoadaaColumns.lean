/- CONTRACT of dwt.columns: each column is turned by a function. -/
import Derived.Test.YtmcdhdofgaoadaaPlane
namespace Go.Proofs.Ytmcdhdofgaoadaa
open Go.RowKit
set_option maxHeartbeats 4000000
set_option linter.unusedVariables false
set_option linter.unusedSimpArgs false

theorem IntsAt.other {w : World} {B n g j : Nat} {A : Option Addr} {f : Nat → Int} (h : IntsAt w B A n f) (hne : ∀ ad, A = some ad → g ≠ ad.block) (v : Value) : IntsAt (w.setCell ⟨g, j, none⟩ v) B A n f := fun hn => by
  obtain ⟨b, off, rfl, hlt, hc⟩ := h hn
  refine ⟨b, off, rfl, hlt, fun k hk => ?_⟩
  have hb : b ≠ g := fun e => hne _ rfl e.symm
  exact (World.cell?_of_block (Below.heap_setCell w ⟨g, j, none⟩ v b hb)).trans (hc k hk)

/-- each column turned by D -/
def colF (W : Nat) (D : (Nat → Int) → Nat → Int) (f : Nat → Int) (k : Nat) : Int := D (fun y => f (y * W + k % W)) (k / W)
/-- .. those left of column x -/
def colP (W : Nat) (D : (Nat → Int) → Nat → Int) (f : Nat → Int) (x k : Nat) : Int := if k % W < x then colF W D f k else f k
/-- .. and of column x the places above row y -/
def colQ (W : Nat) (D : (Nat → Int) → Nat → Int) (f : Nat → Int) (x y k : Nat) : Int := if k % W < x ∨ (k % W = x ∧ k / W < y) then colF W D f k else f k

theorem at_mod {W x P y : Nat} (hP : y * W = P) (hx : x < W) : (P + x) % W = x := by
  rw [← hP, Nat.mul_comm, Nat.mul_add_mod, Nat.mod_eq_of_lt hx]
theorem at_div {W x P y : Nat} (hP : y * W = P) (hx : x < W) : (P + x) / W = y := by
  rw [← hP, Nat.mul_comm, Nat.mul_add_div (by omega), Nat.div_eq_of_lt hx, Nat.add_zero]
theorem colQ_zero (W : Nat) (D : (Nat → Int) → Nat → Int) (f : Nat → Int) (x k : Nat) : colP W D f x k = colQ W D f x 0 k := by
  unfold colP colQ
  simp
theorem colQ_full {W H N : Nat} (D : (Nat → Int) → Nat → Int) (f : Nat → Int) (x k : Nat) (hN : H * W = N) (hk : k < N) : colQ W D f x H k = colP W D f (x + 1) k := by
  unfold colP colQ
  have h : k / W < H := by
    rw [← hN] at hk
    exact Nat.div_lt_of_lt_mul (by rwa [Nat.mul_comm] at hk)
  have : (k % W < x ∨ k % W = x ∧ k / W < H) = (k % W < x + 1) := by
    apply propext
    constructor
    · rintro (h1 | ⟨h1, _⟩) <;> omega
    · intro h1
      rcases Nat.lt_or_ge (k % W) x with h2 | h2
      · exact .inl h2
      · exact .inr ⟨by omega, h⟩
  simp only [this]
theorem colQ_step {W P : Nat} (D : (Nat → Int) → Nat → Int) (f : Nat → Int) (x y k : Nat) (hP : y * W = P) (hx : x < W) :
    (if k = P + x then D (fun j => f (j * W + x)) y else colQ W D f x y k) = colQ W D f x (y + 1) k := by
  by_cases h : k = P + x
  · subst h
    rw [if_pos rfl]
    unfold colQ
    rw [at_mod hP hx, at_div hP hx, if_pos (.inr ⟨rfl, Nat.lt_succ_self y⟩)]
    unfold colF
    rw [at_mod hP hx, at_div hP hx]
  · rw [if_neg h]
    unfold colQ
    have hne : ¬ (k % W = x ∧ k / W = y) := by
      rintro ⟨h1, h2⟩
      apply h
      have := Nat.div_add_mod k W
      rw [h1, h2, Nat.mul_comm, hP] at this
      exact this.symm
    have : (k % W < x ∨ k % W = x ∧ k / W < y) = (k % W < x ∨ k % W = x ∧ k / W < y + 1) := by
      apply propext
      constructor
      · rintro (h1 | ⟨h1, h2⟩)
        · exact .inl h1
        · exact .inr ⟨h1, by omega⟩
      · rintro (h1 | ⟨h1, h2⟩)
        · exact .inl h1
        · exact .inr ⟨h1, by
            rcases Nat.lt_or_ge (k / W) y with h3 | h3
            · exact h3
            · exact absurd ⟨h1, by omega⟩ hne⟩
    simp only [this]
theorem in_plane {W H N x y P : Nat} (hN : H * W = N) (hP : y * W = P) (hx : x < W) (hy : y < H) : P + x < N := by
  have := Nat.mul_le_mul_right W (show y + 1 ≤ H by omega)
  rw [hN, Nat.add_mul, hP, Nat.one_mul] at this
  omega

theorem columns_any (F : FuncId) (caps : Array Value) (hF : ∀ (args : Array Value) (w : World), (callFunc F args).run Try.prog w = .ok (.enter F args) w)
    (g N W H : Nat) (hN : H * W = N) (hN2 : N ≤ 1099511627776) (hW : W ≤ 1048576) (hH : H ≤ 1048576) (D : (Nat → Int) → Nat → Int) (M : Int) (f : Nat → Int) (B : Nat) (w0 w : World) (hp : PInt w g N f) (hb : Below B w0 w) (hBg : B ≤ g) (hM : Within N M f)
    (hdo : ∀ (A : Option Addr) (c : Nat) (h : Nat → Int) (w1 : World), Below B w0 w1 → IntsAt w1 w1.heap.size A H h → Within H M h → Hid (Calls Try.prog F (#[.slice A H c] ++ caps) w1 fun e w2 => ∃ A' c', e = .returned (.slice A' H c') ∧ OwnI w2 w1.heap.size 3 (.slice A' H c') H (D h) ∧ Below w1.heap.size w1 w2)) :
    Calls Try.prog 23 #[.slice (some ⟨g, 0, none⟩) N N, .int .i64 W, .int .i64 H, .func (.func F) #[] caps] w fun e w' => e = .returned (.tuple #[]) ∧ PInt w' g N (colF W D f) ∧ Below B w0 w' := by
  have HF := Lib.hid hF
  have HN := Lib.hid hN
  clear hF hN
  go_enter Try.func23, Try.ntmps23
  go_wp2_with fail
  go_loopw [14] (fun i wr => ∃ x : Nat, x ≤ W ∧ i = .int .i64 x ∧ PInt wr g N (colP W D f x) ∧ Below B w0 wr) (fun i _ => W - (intOf i).toNat)
  case atStart => exact ⟨0, Nat.zero_le _, rfl, hp.congr fun k hk => by unfold colP; rw [if_neg (by omega)], hb⟩
  case round =>
    obtain ⟨wa, hwa⟩ : ∃ wa, wa = wr := ⟨_, rfl⟩
    subst hwa
    obtain ⟨x, hx, rfl, pl, hbel⟩ := hrel
    clear hp hb
    by_cases hlt : x < W
    · have hmk := fun u => run_make_row' (P := Try.prog) 24 3 (.int .i64 0) 8 Try.underlying24 int_info rfl .i64 .i64 H (by omega) (by omega) u
      go_wp2_with fail
      clear hmk
      have hgl := pl.lt
      have q0 := (PInt.made wa H)
      have pl0 := pl.alloc (.cells (madeCells #[.int .i64 0] H) 3)
      have hb0 := hbel.alloc (Nat.le_of_lt (Nat.lt_of_le_of_lt hBg hgl)) (.cells (madeCells #[.int .i64 0] H) 3)
      clear pl hbel
      go_loopw [20] (fun i wr1 => ∃ y : Nat, y ≤ H ∧ i = .int .i64 y ∧ PInt wr1 wa.heap.size H (fun j => if j < y then f (j * W + x) else 0) ∧ PInt wr1 g N (colP W D f x) ∧ Below B w0 wr1) (fun i _ => H - (intOf i).toNat)
      case atStart => exact ⟨0, Nat.zero_le _, rfl, q0, pl0, hb0⟩
      case round =>
        obtain ⟨wb, hwb⟩ : ∃ wb, wb = wr := ⟨_, rfl⟩
        subst hwb
        obtain ⟨y, hy, rfl, ql, pl, hbel⟩ := hrel
        clear q0 pl0 hb0
        by_cases hlt1 : y < H
        · obtain ⟨P, hP⟩ : ∃ P, y * W = P := ⟨_, rfl⟩
          have hPx := in_plane HN.out hP hlt hlt1
          have sP : IntKind.i64.wrap ((y : Int) * W) = (P : Int) := by
            rw [show (y : Int) * W = (P : Int) by rw [← hP]; simp]
            exact IntWalk.i64_in _ (by omega)
          have c1 := pl.cell hPx
          have e1 : colP W D f x (P + x) = f (P + x) := by unfold colP; rw [at_mod hP hlt, if_neg (Nat.lt_irrefl _)]
          rw [e1] at c1
          have l4 : ((P : Int) + x).toNat = P + x := by omega
          have l5 : (0 : Int) ≤ (P : Int) + x := by omega
          have l6 : (P : Int) + x < N := by omega
          have hcell : ∃ v, wb.cell? ⟨wa.heap.size, y, none⟩ = some v := ⟨_, ql.cell hlt1⟩
          obtain ⟨v0, hcell⟩ := hcell
          have hfr := ql.frozen y
          have Q2 := Lib.hid ((ql.set_ y (f (P + x))).congr (h := fun j => if j < y + 1 then f (j * W + x) else 0) (fun j hj => by
            by_cases e : j = y
            · subst e; simp [hP]
            · have : (j < y + 1) = (j < y) := by simp; omega
              simp [e, this]))
          have P2 := Lib.hid (pl.other (a := ⟨wa.heap.size, y, none⟩) (Nat.ne_of_lt hgl) (.int .i64 (f (P + x))))
          have B2 := Lib.hid (hbel.setCell (p := ⟨wa.heap.size, y, none⟩) (Nat.le_of_lt (Nat.lt_of_le_of_lt hBg hgl)) (.int .i64 (f (P + x))))
          clear ql pl hbel e1 hP
          go_wp2_with fail
          go_roundw
          case rel => exact ⟨y + 1, by omega, by go_num, Q2.out, P2.out, B2.out⟩
          case measure => simp [intOf]; omega
        · obtain rfl : y = H := by omega
          have hs1 := ql.lt
          have qI := (ql.congr (h := fun j => f (j * W + x)) (fun j hj => by rw [if_pos hj])).ints hs1
          have hW1 : Within y M (fun j => f (j * W + x)) := fun j hj => hM _ (in_plane HN.out rfl hlt hj)
          have DO := hdo _ y _ wb hbel qI hW1
          have hF := HF.out
          clear ql qI hW1
          go_wp2_with fail
          refine DO.out.mono ?_
          rintro e w2 ⟨A', c', rfl, o2, hb2⟩
          clear hF DO
          have i2 := o2.ints
          obtain ⟨_, _, hform, _, _, _, hA⟩ := o2.form
          injection hform with h1 _ _
          subst h1
          have hne : ∀ ad, A' = some ad → g ≠ ad.block := fun ad h => by have := hA ad h; have := pl.lt; omega
          have pl2 := (pl.below hb2 pl.lt).congr (fun k _ => colQ_zero W D f x k)
          have hbB : Below B w0 w2 := hbel.trans (hb2.mono (Nat.le_of_lt (Nat.lt_of_le_of_lt hBg pl.lt)))
          clear o2 hA hb2 hbel pl
          go_wp2_with fail
          go_loopw [39] (fun i wr2 => ∃ z : Nat, z ≤ y ∧ i = .int .i64 z ∧ PInt wr2 g N (colQ W D f x z) ∧ IntsAt wr2 w2.heap.size A' y (D fun j => f (j * W + x)) ∧ Below B w0 wr2) (fun i _ => y - (intOf i).toNat)
          case atStart => exact ⟨0, Nat.zero_le _, rfl, pl2, i2, hbB⟩
          case round =>
            obtain ⟨z, hz, rfl, pl, i3, hbel⟩ := hrel
            clear pl2 i2 hbB
            by_cases hlt2 : z < y
            · obtain ⟨P, hP⟩ : ∃ P, z * W = P := ⟨_, rfl⟩
              have hPx := in_plane HN.out hP hlt hlt2
              have sP : IntKind.i64.wrap ((z : Int) * W) = (P : Int) := by
                rw [show (z : Int) * W = (P : Int) by rw [← hP]; simp]
                exact IntWalk.i64_in _ (by omega)
              have l4 : ((P : Int) + x).toNat = P + x := by omega
              have l5 : (0 : Int) ≤ (P : Int) + x := by omega
              have l6 : (P : Int) + x < N := by omega
              have hcell : ∃ v, wr.cell? ⟨g, P + x, none⟩ = some v := ⟨_, pl.cell hPx⟩
              obtain ⟨v0, hcell⟩ := hcell
              have hfr := pl.frozen (P + x)
              have P2 := Lib.hid ((pl.set_ (P + x) (D (fun j => f (j * W + x)) z)).congr (fun k _ => colQ_step D f x z k hP hlt))
              have I2 := Lib.hid (i3.other (j := P + x) hne (.int .i64 (D (fun j => f (j * W + x)) z)))
              have B2 := Lib.hid (hbel.setCell (p := ⟨g, P + x, none⟩) hBg (.int .i64 (D (fun j => f (j * W + x)) z)))
              obtain ⟨b, off, rfl, hlb, hc⟩ := i3.at_ hlt2
              generalize D (fun j => f (j * W + x)) z = V at *
              clear pl i3 hbel hP
              go_wp2_with fail
              go_roundw
              case rel => exact ⟨z + 1, by omega, by go_num, P2.out, I2.out, B2.out⟩
              case measure => simp [intOf]; omega
            · obtain rfl : z = y := by omega
              have pl3 := pl.congr (fun k hk => colQ_full D f x k HN.out hk)
              clear pl
              go_wp2_with fail
              go_roundw
              case rel => exact ⟨x + 1, by omega, by go_num, pl3, hbel⟩
              case measure => simp [intOf]; omega
    · obtain rfl : x = W := by omega
      have pl3 := pl.congr (h := colF x D f) (fun k hk => by
        unfold colP
        rcases Nat.eq_zero_or_pos x with h0 | h0
        · have := HN.out; subst h0; rw [Nat.mul_zero] at this; omega
        · rw [if_pos (Nat.mod_lt _ h0)])
      go_wp2_with fail
      go_end0
      exact ⟨rfl, pl3, hbel⟩
end Go.Proofs.Ytmcdhdofgaoadaa
