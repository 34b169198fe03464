/- CONTRACT of waveletref10.columns (not back). -/
import Derived.Test.YtmcdhdofgaoadaaRef10
namespace Go.Proofs.Ytmcdhdofgaoadaa
open Go.RowKit
set_option maxHeartbeats 8000000
set_option linter.unusedVariables false
set_option linter.unusedSimpArgs false

def colZ (W : Nat) (D : (Nat → Int) → Nat → Int) (f : Nat → Int) (x k : Nat) : Int := if k % W < x then colF W D f k else 0
def colZQ (W : Nat) (D : (Nat → Int) → Nat → Int) (f : Nat → Int) (x y k : Nat) : Int := if k % W < x ∨ (k % W = x ∧ k / W < y) then colF W D f k else 0
theorem colZQ_zero (W : Nat) (D : (Nat → Int) → Nat → Int) (f : Nat → Int) (x k : Nat) : colZ W D f x k = colZQ W D f x 0 k := by
  unfold colZ colZQ
  simp
theorem colZQ_full {W H N : Nat} (D : (Nat → Int) → Nat → Int) (f : Nat → Int) (x k : Nat) (hN : H * W = N) (hk : k < N) : colZQ W D f x H k = colZ W D f (x + 1) k := by
  unfold colZ colZQ
  have h : k / W < H := div_lt hN hk
  have : (k % W < x ∨ k % W = x ∧ k / W < H) = (k % W < x + 1) := by
    apply propext
    constructor
    · rintro (h1 | ⟨h1, _⟩) <;> omega
    · intro h1
      rcases Nat.lt_or_ge (k % W) x with h2 | h2
      · exact .inl h2
      · exact .inr ⟨by omega, h⟩
  simp only [this]
theorem colZQ_step {W P : Nat} (D : (Nat → Int) → Nat → Int) (f : Nat → Int) (x y k : Nat) (hP : y * W = P) (hx : x < W) :
    (if k = P + x then D (fun j => f (j * W + x)) y else colZQ W D f x y k) = colZQ W D f x (y + 1) k := by
  by_cases h : k = P + x
  · subst h
    rw [if_pos rfl]
    unfold colZQ
    rw [at_mod hP hx, at_div hP hx, if_pos (.inr ⟨rfl, Nat.lt_succ_self y⟩)]
    unfold colF
    rw [at_mod hP hx, at_div hP hx]
  · rw [if_neg h]
    unfold colZQ
    have hne : ¬ (k % W = x ∧ k / W = y) := by
      rintro ⟨h1, h2⟩
      apply h
      have := Nat.div_add_mod k W
      rw [h1, h2, Nat.mul_comm, hP] at this
      exact this.symm
    have : (k % W < x ∨ k % W = x ∧ k / W < y) = (k % W < x ∨ k % W = x ∧ k / W < y + 1) := by
      apply propext
      constructor
      · rintro (h1 | ⟨h1, h2⟩)
        · exact .inl h1
        · exact .inr ⟨h1, by omega⟩
      · rintro (h1 | ⟨h1, h2⟩)
        · exact .inl h1
        · exact .inr ⟨h1, by
            rcases Nat.lt_or_ge (k / W) y with h3 | h3
            · exact h3
            · exact absurd ⟨h1, by omega⟩ hne⟩
    simp only [this]

theorem rcolumns_any (A : Option Addr) (W H c at_ : Nat) (f : Nat → Int) (w : World) (N : Nat) (hN : H * W = N) (ha : IntsAt w w.heap.size A N f) (hN2 : N ≤ 1099511627775) (hW : W ≤ 1048576) (hH : H ≤ 1048576) (hat : at_ ≤ 1048576) (hM : Within N 72057594037927936 f) :
    Calls Try.prog 32 #[.int .i64 W, .int .i64 H, .int .i64 at_, .slice A N c, .bool false] w fun e w' => e = .returned (.slice (some ⟨w.heap.size, 0, none⟩) N N) ∧ PInt w' w.heap.size N (colF W (splitF H (at_ % 2)) f) ∧ Below w.heap.size w w' := by
  have HN := Lib.hid hN
  clear hN
  have hmk := fun u => run_make_row' (P := Try.prog) 24 3 (.int .i64 0) 8 Try.underlying24 int_info rfl .i64 .i64 N (by omega) (by omega) u
  go_enter Try.func32, Try.ntmps32
  go_wp2_with fail
  clear hmk
  have q0 := (PInt.made w N).congr (h := colZ W (splitF H (at_ % 2)) f 0) (fun k hk => by unfold colZ; rw [if_neg (by omega)])
  have b0 := below_alloc (Below.refl w.heap.size w) (.cells (madeCells #[.int .i64 0] N) 3)
  go_loopw [12] (fun i wr => ∃ x : Nat, x ≤ W ∧ i = .int .i64 x ∧ PInt wr w.heap.size N (colZ W (splitF H (at_ % 2)) f x) ∧ Below w.heap.size w wr) (fun i _ => W - (intOf i).toNat)
  case atStart => exact ⟨0, Nat.zero_le _, rfl, q0, b0⟩
  case round =>
    obtain ⟨wa, hwa⟩ : ∃ wa, wa = wr := ⟨_, rfl⟩
    subst hwa
    obtain ⟨x, hx, rfl, pl, hbel⟩ := hrel
    clear q0 b0
    by_cases hlt : x < W
    · have hgl := pl.lt
      go_wp2_with fail
      go_loopw [13, 14] (fun out i wr => ∃ (y cx : Nat) (X : Option Addr), y ≤ H ∧ out = .slice X y cx ∧ i = .int .i64 y ∧ OwnI wr wa.heap.size 3 (.slice X y cx) y (fun y => f (y * W + x)) ∧ Below wa.heap.size wa wr) (fun _ i _ => H - (intOf i).toNat)
      case atStart => exact ⟨0, 0, none, Nat.zero_le _, rfl, rfl, OwnI.nil_ _ _ _ _, Below.refl _ _⟩
      case round =>
        obtain ⟨wb, hwb⟩ : ∃ wb, wb = wr := ⟨_, rfl⟩
        subst hwb
        obtain ⟨y, cx, X, hy, rfl, rfl, oX, hb1⟩ := hrel
        by_cases hlt1 : y < H
        · obtain ⟨P, hP⟩ : ∃ P, y * W = P := ⟨_, rfl⟩
          have hPx := in_plane HN.out hP hlt hlt1
          have sP : IntKind.i64.wrap ((y : Int) * W) = (P : Int) := by
            rw [show (y : Int) * W = (P : Int) by rw [← hP]; simp]
            exact IntWalk.i64_in _ (by omega)
          obtain ⟨vb, vo, rfl, hvl, cv⟩ := (ha.below (below_trans hbel hb1)).at_ hPx
          replace cv : wb.cell? ⟨vb, vo + (P + x), none⟩ = some (.int .i64 (f (y * W + x))) := by rw [hP]; exact cv
          have l4 : ((P : Int) + x).toNat = P + x := by omega
          have l5 : (0 : Int) ≤ (P : Int) + x := by omega
          have l6 : (P : Int) + x < N := by omega
          have hsz := hb1.size
          obtain ⟨fy, hfy⟩ : ∃ fy : Nat → Int, fy = fun y => f (y * W + x) := ⟨_, rfl⟩
          replace cv : wb.cell? ⟨vb, vo + (P + x), none⟩ = some (.int .i64 (fy y)) := by rw [hfy]; exact cv
          rw [← hfy] at oX ⊢
          have HFY := Lib.hid hfy
          clear hP hfy
          go_wp2_with (first
            | (at_builtin; refine wpList_app1 wb ((Below.refl _ _).alloc (Nat.le_refl _) _) rfl _ _ 24 rfl 3 int_info Try.underlying24 wa.heap.size X y cx fy rfl oX wb.heap.size rfl (by simp) (by omega) (by omega) ?_; intro gg cap2 w2 oY st lt2))
          have hb4 := hb1.trans st.below
          clear st oX hb1 cv
          go_wp2_with fail
          go_roundw
          case rel => exact ⟨y + 1, cap2, _, by omega, rfl, by go_num, oY, hb4⟩
          case measure => simp [intOf]; omega
        · obtain rfl : y = H := by omega
          have pl1 := pl.below hb1 hgl
          have hB1 := below_trans hbel hb1
          have RS := Lib.hid (rsplit_any at_ X y cx (fun y => f (y * W + x)) wb oX.ints (by omega) (fun k hk => hM _ (in_plane HN.out rfl hlt hk)) (by omega))
          clear oX hb1
          go_wp2_with fail
          refine RS.out.mono ?_
          rintro e w2 ⟨A3, c3, rfl, o3, b3⟩
          have i3 := o3.ints
          have hA := o3.away
          have hne : ∀ ad, A3 = some ad → w.heap.size ≠ ad.block := fun ad had => by have := hA ad had; have := pl1.lt; omega
          have pl2 := (pl1.below b3 pl1.lt).congr (fun k _ => colZQ_zero W (splitF y (at_ % 2)) f x k)
          have hB2 := below_trans hB1 b3
          clear RS o3 hA b3 pl1 hB1 pl hbel
          go_wp2_with fail
          go_loopw [15] (fun i wr2 => ∃ z : Nat, z ≤ y ∧ i = .int .i64 z ∧ PInt wr2 w.heap.size N (colZQ W (splitF y (at_ % 2)) f x z) ∧ IntsAt wr2 w2.heap.size A3 y (splitF y (at_ % 2) fun j => f (j * W + x)) ∧ Below w.heap.size w wr2) (fun i _ => y - (intOf i).toNat)
          case atStart => exact ⟨0, Nat.zero_le _, rfl, pl2, i3, hB2⟩
          case round =>
            obtain ⟨z, hz, rfl, pl, i3, hbel⟩ := hrel
            clear pl2 hB2
            by_cases hlt2 : z < y
            · obtain ⟨P, hP⟩ : ∃ P, z * W = P := ⟨_, rfl⟩
              have hPx := in_plane HN.out hP hlt hlt2
              have sP : IntKind.i64.wrap ((z : Int) * W) = (P : Int) := by
                rw [show (z : Int) * W = (P : Int) by rw [← hP]; simp]
                exact IntWalk.i64_in _ (by omega)
              have l4 : ((P : Int) + x).toNat = P + x := by omega
              have l5 : (0 : Int) ≤ (P : Int) + x := by omega
              have l6 : (P : Int) + x < N := by omega
              have hcell : ∃ v, wr.cell? ⟨w.heap.size, P + x, none⟩ = some v := ⟨_, pl.cell hPx⟩
              obtain ⟨v0, hcell⟩ := hcell
              have hfr := pl.frozen (P + x)
              have P2 := Lib.hid ((pl.set_ (P + x) (splitF y (at_ % 2) (fun j => f (j * W + x)) z)).congr (fun k _ => colZQ_step (splitF y (at_ % 2)) f x z k hP hlt))
              have I2 := Lib.hid (i3.other (j := P + x) hne (.int .i64 (splitF y (at_ % 2) (fun j => f (j * W + x)) z)))
              have B2 := Lib.hid (hbel.setCell (p := ⟨w.heap.size, P + x, none⟩) (Nat.le_refl _) (.int .i64 (splitF y (at_ % 2) (fun j => f (j * W + x)) z)))
              obtain ⟨b, off, rfl, hlb, hc⟩ := i3.at_ hlt2
              generalize splitF y (at_ % 2) (fun j => f (j * W + x)) z = V at *
              clear pl i3 hbel hP
              go_wp2_with fail
              go_roundw
              case rel => exact ⟨z + 1, by omega, by go_num, P2.out, I2.out, B2.out⟩
              case measure => simp [intOf]; omega
            · obtain rfl : z = y := by omega
              have pl3 := pl.congr (fun k hk => colZQ_full (splitF z (at_ % 2)) f x k HN.out hk)
              clear pl
              go_wp2_with fail
              go_roundw
              case rel => exact ⟨x + 1, by omega, by go_num, pl3, hbel⟩
              case measure => simp [intOf]; omega
    · obtain rfl : x = W := by omega
      have pl3 := pl.congr (h := colF x (splitF H (at_ % 2)) f) (fun k hk => by
        unfold colZ
        rw [if_pos (Nat.mod_lt _ (pos_of HN.out hk))])
      go_wp2_with fail
      go_ret
      exact ⟨rfl, pl3, hbel⟩
end Go.Proofs.Ytmcdhdofgaoadaa
