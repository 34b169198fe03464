/- stable at order.spot, SortStableFunc: the walks. -/
import Derived.Test.YtpgkdpoehkdhcaaStM
import Derived.Test.YtpgkdpoehkdhcaaStL
import Derived.Test.YtpgkdpoehkdhcaaStG2
import Derived.Test.YtpgkdpoehkdhcaaStQ
namespace Go.Proofs.Ytpgkdpoehkdhcaa
open Go.RowKit Go.Sort
attribute [local go_sem] opv opnd
set_option maxHeartbeats 40000000
set_option linter.unusedVariables false
set_option linter.unusedSimpArgs false
set_option maxRecDepth 1000000
theorem sym_any (w0 : World) (base g c N : Nat) (HC : ∀ x y, CmpAt x y) (hz : N ≤ 1099511627776) : ∀ B, SymAt w0 base g c N B
  | 0 => fun a m b d W hlt => absurd hlt (by omega)
  | B + 1 => fun a m b d W hlt S hN h1 h2 h3 hA hB => by
    have ih := sym_any w0 base g c N HC hz B
    by_cases hm : m = a + 1
    · subst hm
      exact sym_one w0 base g c N a b d W HC S hN h2 h3 hz hB
    · by_cases hb : b = m + 1
      · subst hb
        exact sym_last w0 base g c N a m d W HC S hN (by omega) h3 hz hA
      · have IH : SymAt w0 base g c N (b - a) := fun a' m' b' d' W' hlt' => ih a' m' b' d' W' (by omega)
        by_cases hmm : (a + b) / 2 < m
        · exact sym_gen1 w0 base g c N a m b d W HC S hN (by omega) (by omega) h3 hz hA hB IH hmm
        · exact sym_gen2 w0 base g c N a m b d W HC S hN (by omega) (by omega) h3 hz hA hB IH (by omega)
theorem wrap_dbl {a c : Nat} (h : a + a = c) (hc : c ≤ 9223372036854775807) : IntKind.i64.wrap (2 * (a : Int)) = (c : Int) := by
  rw [IntKind.wrap_i64]; omega
theorem wrap_dbl2 {a c : Nat} (h : a + a = c) (hc : c ≤ 9223372036854775807) : IntKind.i64.wrap ((a : Int) * 2) = (c : Int) := by
  rw [IntKind.wrap_i64]; omega
theorem stable_any (w0 : World) (base g c N : Nat) (d : Array Spot) (W : World) (HC : ∀ x y, CmpAt x y) (S : SW w0 base g c d W) (hN : d.size = N) (hz : N ≤ 1099511627776) :
    Calls Try.prog 46 #[.slice (some ⟨g, 0, none⟩) N c, .int .i64 N, .func (.func 30) #[] #[]] W fun e w' => e = .returned (.tuple #[]) ∧ ∃ d', PermIn 0 N d d' ∧ SortedIn ltS 0 N d' ∧ SW w0 base g c d' w' := by
  have HS0 := Lib.hid S
  have HCM := Lib.hid HC
  clear S HC
  go_enter Try.func46, Try.ntmps46
  go_wp2
  go_loopg [7, 8] N (fun kx s7 s8 wr => ∃ (a b : Nat) (dk : Array Spot), s7 = .int .i64 (a : Int) ∧ s8 = .int .i64 (b : Int) ∧ a + 20 = b ∧ a ≤ N ∧ N - a ≤ kx ∧ dk.size = N ∧ PermIn 0 N d dk ∧ Hid (Pre ltS dk 20 a) ∧ Hid (SW w0 base g c dk wr))
  case atStart => exact ⟨0, 20, d, rfl, rfl, rfl, by omega, by omega, hN, permIn_refl _ _ _, Lib.hid Pre.start, HS0⟩
  case round =>
    clear HS0
    obtain ⟨a, b, dk, rfl, rfl, e1, e2, hk, hs, hp, HP, HS⟩ := hrel
    by_cases hlt : b ≤ N
    · have hltz : (b : Int) ≤ (N : Int) := by omega
      obtain ⟨b2, hb2⟩ : ∃ z, b + 20 = z := ⟨_, rfl⟩
      have W1 : IntKind.i64.wrap ((b : Int) + 20) = (b2 : Int) := by rw [IntKind.wrap_i64]; omega
      go_wp2_with fail
      refine (insertion_any w0 base g c N a b dk _ HCM.out HS.out hs (by omega) hlt hz).mono ?_
      rintro e' W2 ⟨rfl, h2⟩
      have hins := insertionSort_holds swoS dk a b (by omega) (by omega)
      have HS2 := Lib.hid h2
      have HP2 := Lib.hid (show Pre ltS (insertionSort ltS dk a b) 20 b from Pre.next e1 (HP.out.kept hins.1 (Nat.le_refl _)) hins.2)
      have hp2 := permIn_trans _ _ _ _ _ hp (permIn_mono _ _ _ _ _ _ (Nat.zero_le _) hlt (by omega) hins.1)
      have hs2 : (insertionSort ltS dk a b).size = N := by rw [hins.1.1]; exact hs
      clear h2 hins
      go_wp2_with fail
      go_roundg (N - b)
      case measure => omega
      case rel => exact ⟨b, b2, _, rfl, rfl, hb2, hlt, Nat.le_refl _, hs2, hp2, HP2, HS2⟩
    · have hltz : ¬ (b : Int) ≤ (N : Int) := by omega
      go_wp2_with fail
      refine (insertion_any w0 base g c N a N dk _ HCM.out HS.out hs e2 (Nat.le_refl _) hz).mono ?_
      rintro e' W2 ⟨rfl, h2⟩
      have hins := insertionSort_holds swoS dk a N e2 (by omega)
      have HS2 := Lib.hid h2
      have HB2 := Lib.hid ((HP.out.kept hins.1 (Nat.le_refl _)).join (Blk.last (bs := 20) a e2 (by omega) hins.2) e2)
      have hp2 := permIn_trans _ _ _ _ _ hp (permIn_mono _ _ _ _ _ _ (Nat.zero_le _) (Nat.le_refl _) (by omega) hins.1)
      have hs2 : (insertionSort ltS dk a N).size = N := by rw [hins.1.1]; exact hs
      clear h2 hins HS HP hp hs
      generalize insertionSort ltS dk a N = dq at HS2 HB2 hp2 hs2
      go_wp2_with fail
      go_loopg [6] N (fun kx s6 wr => ∃ (bs : Nat) (dk : Array Spot), s6 = .int .i64 (bs : Int) ∧ 20 ≤ bs ∧ bs ≤ 2199023255552 ∧ N - bs ≤ kx ∧ dk.size = N ∧ PermIn 0 N d dk ∧ Hid (Blk ltS dk bs N 0) ∧ Hid (SW w0 base g c dk wr))
      case atStart => exact ⟨20, dq, rfl, by omega, by omega, by omega, hs2, hp2, HB2, HS2⟩
      case round =>
        clear HS2 HB2 hp2 hs2 hltz hlt e1 e2 hk
        obtain ⟨bs, dk, rfl, c1, c2, hk, hs, hp, HB, HS⟩ := hrel
        by_cases hlt : bs < N
        · have hltz : (bs : Int) < (N : Int) := by omega
          obtain ⟨b2, hb2⟩ : ∃ z, bs + bs = z := ⟨_, rfl⟩
          have W1 := wrap_dbl hb2 (by omega)
          go_wp2
          clear W1
          go_loopg [7, 8] N (fun ky s7 s8 wr2 => ∃ (a b : Nat) (dj : Array Spot), s7 = .int .i64 (a : Int) ∧ s8 = .int .i64 (b : Int) ∧ a + b2 = b ∧ a ≤ N ∧ N - a ≤ ky ∧ dj.size = N ∧ PermIn 0 N d dj ∧ Hid (Pre ltS dj b2 a) ∧ Hid (Blk ltS dj bs N a) ∧ Hid (SW w0 base g c dj wr2))
          case atStart => exact ⟨0, b2, dk, rfl, rfl, by omega, by omega, by omega, hs, hp, Lib.hid Pre.start, HB, HS⟩
          case round =>
            clear HS HB hp hs
            obtain ⟨a, b, dj, rfl, rfl, e1, e2, hk2, hs, hp, HP, HB, HS⟩ := hrel
            obtain ⟨am, ham⟩ : ∃ z, a + bs = z := ⟨_, rfl⟩
            have W2 := wrap_add ham (by omega)
            by_cases hle : b ≤ N
            · have hlez : (b : Int) ≤ (N : Int) := by omega
              obtain ⟨bn, hbn⟩ : ∃ z, b + b2 = z := ⟨_, rfl⟩
              have W3 := wrap_add hbn (by omega)
              have W1 := wrap_dbl hb2 (by omega)
              have htwo := HB.out.two (by omega) (by omega)
              rw [show a + bs + bs = b by omega, ham] at htwo
              have HT := Lib.hid htwo
              clear htwo
              go_wp2_with fail
              refine (sym_any w0 base g c N HCM.out hz (b - a + 1) a am b dj _ (by omega) HS.out hs (by omega) (by omega) hle HT.out.1 HT.out.2.1).mono ?_
              rintro e' W4 ⟨rfl, d4, p4, s4, h4⟩
              have HS4 := Lib.hid h4
              have HP4 := Lib.hid (show Pre ltS d4 b2 b from Pre.next e1 (HP.out.kept p4 (Nat.le_refl _)) s4)
              have HB4 := Lib.hid (HT.out.2.2.kept p4 (Nat.le_refl _))
              have hp4 := permIn_trans _ _ _ _ _ hp (permIn_mono _ _ _ _ _ _ (Nat.zero_le _) hle (by omega) p4)
              have hs4 : d4.size = N := by rw [p4.1]; exact hs
              clear h4 s4 p4 HT
              go_wp2_with fail
              go_roundg (N - b)
              case measure => omega
              case rel => exact ⟨b, bn, d4, rfl, rfl, hbn, hle, Nat.le_refl _, hs4, hp4, HP4, HB4, HS4⟩
            · have hlez : ¬ (b : Int) ≤ (N : Int) := by omega
              have W1 := wrap_dbl2 hb2 (by omega)
              by_cases hmn : am < N
              · have hmz : (am : Int) < (N : Int) := by omega
                have hone := HB.out.one (by omega) (by omega)
                rw [ham] at hone
                have HT := Lib.hid hone
                clear hone
                go_wp2_with fail
                refine (sym_any w0 base g c N HCM.out hz (N - a + 1) a am N dj _ (by omega) HS.out hs (by omega) hmn (Nat.le_refl _) HT.out.1 HT.out.2).mono ?_
                rintro e' W4 ⟨rfl, d4, p4, s4, h4⟩
                have HS4 := Lib.hid h4
                have HB4 := Lib.hid ((HP.out.kept p4 (Nat.le_refl _)).join (Blk.last (bs := b2) a e2 (by omega) s4) e2)
                have hp4 := permIn_trans _ _ _ _ _ hp (permIn_mono _ _ _ _ _ _ (Nat.zero_le _) (Nat.le_refl _) (by omega) p4)
                have hs4 : d4.size = N := by rw [p4.1]; exact hs
                clear h4 s4 p4 HT
                go_wp2_with fail
                go_roundg (N - b2)
                case measure => omega
                case rel => exact ⟨b2, d4, rfl, by omega, by omega, Nat.le_refl _, hs4, hp4, HB4, HS4⟩
              · have hmz : ¬ (am : Int) < (N : Int) := by omega
                have HB4 := Lib.hid (HP.out.join (Blk.last (bs := b2) a e2 (by omega) (HB.out.none (by omega))) e2)
                go_wp2_with fail
                go_roundg (N - b2)
                case measure => omega
                case rel => exact ⟨b2, dj, rfl, by omega, by omega, Nat.le_refl _, hs, hp, HB4, HS⟩
        · have hltz : ¬ (bs : Int) < (N : Int) := by omega
          have HF := Lib.hid (HB.out.none (by omega))
          go_wp2
          go_end0
          exact ⟨rfl, dk, hp, HF.out, HS.out⟩
theorem sort_any (w0 : World) (base g c N : Nat) (d : Array Spot) (W : World) (HC : ∀ x y, CmpAt x y) (S : SW w0 base g c d W) (hN : d.size = N) (hz : N ≤ 1099511627776) :
    Calls Try.prog 29 #[.slice (some ⟨g, 0, none⟩) N c, .func (.func 30) #[] #[]] W fun e w' => e = .returned (.tuple #[]) ∧ ∃ d', PermIn 0 N d d' ∧ SortedIn ltS 0 N d' ∧ SW w0 base g c d' w' := by
  have HST := Lib.hid (stable_any w0 base g c N d W HC S hN hz)
  clear S HC
  go_enter Try.func29, Try.ntmps29
  go_wp2_with fail
  refine HST.out.mono ?_
  rintro e' W2 ⟨rfl, h2⟩
  go_wp2_with fail
  go_end0
  exact ⟨rfl, h2⟩
/-- no packet at all -/
theorem sort_nil (W : World) :
    Calls Try.prog 29 #[.slice none 0 0, .func (.func 30) #[] #[]] W fun e w' => e = .returned (.tuple #[]) ∧ Below W.heap.size W w' := by
  have hi : ∀ V : World, Calls Try.prog 57 #[.slice none 0 0, .int .i64 0, .int .i64 0, .func (.func 30) #[] #[]] V fun e w' => e = .returned (.tuple #[]) ∧ V = w' := fun V => by
    go_enter Try.func57, Try.ntmps57
    go_wp2
    refine wp_loop_rounds 1 ?_
    rw [rounds_succ]
    go_wp2
    all_goals first | (exfalso; omega) | (go_end0; exact ⟨rfl, rfl⟩)
  have hs : Calls Try.prog 46 #[.slice none 0 0, .int .i64 0, .func (.func 30) #[] #[]] W fun e w' => e = .returned (.tuple #[]) ∧ W = w' := by
    go_enter Try.func46, Try.ntmps46
    go_wp2
    refine wp_loop_rounds 1 ?_
    rw [rounds_succ]
    go_wp2_with fail
    refine (hi _).mono ?_
    rintro e' W2 ⟨rfl, hw⟩
    subst hw
    go_wp2_with fail
    refine wp_loop_rounds 1 ?_
    rw [rounds_succ]
    go_wp2
    all_goals first | (exfalso; omega) | (go_end0; exact ⟨rfl, rfl⟩)
  go_enter Try.func29, Try.ntmps29
  go_wp2_with fail
  refine hs.mono ?_
  rintro e' W2 ⟨rfl, hw⟩
  subst hw
  go_wp2_with fail
  go_end0
  exact ⟨rfl, Below.refl _ _⟩
end Go.Proofs.Ytpgkdpoehkdhcaa
