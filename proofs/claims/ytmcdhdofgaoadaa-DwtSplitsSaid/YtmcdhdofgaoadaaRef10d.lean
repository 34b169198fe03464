/- CONTRACT of waveletref10.Split. -/
import Derived.Test.YtmcdhdofgaoadaaRef10c
import Derived.Test.YtmcdhdofgaoadaaRowsX
import Derived.Test.YtmcdhdofgaoadaaDPlane
import Derived.Deep.RegionHeld3
import Derived.StillTailTactics
namespace Go.Proofs.Ytmcdhdofgaoadaa
open Go.RowKit
set_option maxHeartbeats 8000000
set_option linter.unusedVariables false
set_option linter.unusedSimpArgs false

theorem OwnI.mono {w : World} {base base' : Nat} {e : TypeId} {v : Value} {n : Nat} {f : Nat → Int} (h : OwnI w base e v n f) (hb : base' ≤ base) : OwnI w base' e v n f := World.ownsRow.mono h hb

theorem rcutV (A : Option Addr) (W H c : Nat) (f : Nat → Int) (a b n m : Nat) (X0 Y0 X1 Y1 : Int) (hX0 : X0 = a) (hY0 : Y0 = b) (hX1 : X1 = (a : Int) + n) (hY1 : Y1 = (b : Int) + m) (w : World) (N : Nat) (hN : H * W = N) (ha : IntsAt w w.heap.size A N f) (hc : N ≤ c) (hN2 : N ≤ 1099511627776) (hW : W ≤ 1048576) (hH : H ≤ 1048576) (h1 : a + n ≤ W) (h2 : b + m ≤ H) :
    Calls Try.prog 34 #[.int .i64 W, .slice A N c, .int .i64 X0, .int .i64 Y0, .int .i64 X1, .int .i64 Y1] w fun e w' => ∃ A' c', e = .returned (.slice A' (m * n) c') ∧ m * n ≤ c' ∧ OwnI w' w.heap.size 3 (.slice A' (m * n) c') (m * n) (cutF W a b n f) ∧ Below w.heap.size w w' := by
  subst hX0 hY0
  exact rcut_any A W H c f a b n m X1 Y1 hX1 hY1 w N hN ha hc hN2 hW hH h1 h2

/-- the bound of a plane, k splits before the end -/
theorem bound_step {M : Int} {k : Nat} (h0 : 0 ≤ M) (h : (M + 1) * 16 ^ (k + 1) ≤ 4503599627370496) : M + 1 ≤ 281474976710656 ∧ (16 * M + 15 + 1) * 16 ^ k ≤ 4503599627370496 := by
  have h16 : (16 : Int) ^ (k + 1) = 16 * 16 ^ k := by rw [Int.pow_succ, Int.mul_comm]
  refine ⟨?_, ?_⟩
  · have hp : (1 : Int) ≤ 16 ^ k := Int.pow_pos (by omega)
    have h1 : (M + 1) * 1 ≤ (M + 1) * 16 ^ k := Int.mul_le_mul_of_nonneg_left hp (by omega)
    rw [h16, ← Int.mul_assoc, Int.mul_comm (M + 1) 16, Int.mul_assoc] at h
    omega
  · rw [show 16 * M + 15 + 1 = (M + 1) * 16 by omega, Int.mul_assoc, ← Int.pow_succ']
    exact h

theorem rsplit10_any (L : Nat) (hL : L ≤ 5) (x y W H N : Nat) (hN : H * W = N) (hx : x ≤ 1048576) (hy : y ≤ 1048576) (hW : W ≤ 4096) (hH : H ≤ 4096) (A : Option Addr) (c : Nat) (f : Nat → Int) (M : Int) (w : World) (ha : IntsAt w w.heap.size A N f) (hM : Within N M f) (hM0 : 0 ≤ M) (hM1 : (M + 1) * 16 ^ L ≤ 4503599627370496) :
    Calls Try.prog 16 #[.agg #[.int .i64 x, .int .i64 y, .int .i64 ((x : Int) + W), .int .i64 ((y : Int) + H)], .int .i64 L, .slice A N c] w fun e w' => ∃ v, e = .returned v ∧ RowsAt w' w.heap.size v (bandsF L x y W H f) ∧ Below w.heap.size w w' := by
  have hN2 : N ≤ 16777216 := by rw [← hN]; exact Nat.mul_le_mul hH hW
  have HN := Lib.hid hN
  have HM1 := Lib.hid hM1
  clear hN hM1
  go_enter Try.func16, Try.ntmps16
  have r0 := BoxR.new_ w (.int .i64 x) (.int .i64 y) (.int .i64 ((x : Int) + W)) (.int .i64 ((y : Int) + H))
  have bb := below_alloc (Below.refl w.heap.size w) (.cells #[.int .i64 x, .int .i64 y, .int .i64 ((x : Int) + W), .int .i64 ((y : Int) + H)] 23)
  have ha1 := (ha.below bb).more bb.size
  have hs1 := r0.lt
  clear ha
  go_wp2_with (first
    | (at_builtin; refine wpList_copyE rfl _ _ 24 rfl 3 int_info Try.underlying24 (w.heap.size + 1) (by simp [Act.eval]) _ A N c f rfl ha1 (Nat.le_refl _) (by omega) hs1 ?_; intro A2 c2 w2 o2 b2))
  have r2 := r0.below b2 (Nat.lt_succ_self _)
  have hb2 := bb.trans (b2.mono (Nat.le_succ _))
  have hnc := o2.cap.1
  clear r0 bb ha1 hs1 b2
  go_wp2_with fail
  go_loopw [7, 8, 9] (fun ll high i wr => ∃ (j k x' y' W' H' N' : Nat) (A' : Option Addr) (c' : Nat) (f' : Nat → Int) (M' : Int) (hs : List (Nat × (Nat → Int))), j + k = L ∧ i = .int .i64 j ∧ ll = .slice A' N' c' ∧ x' ≤ 1048576 ∧ y' ≤ 1048576 ∧ W' ≤ 4096 ∧ H' ≤ 4096 ∧ H' * W' = N' ∧ OwnI wr (w.heap.size + 1) 3 (.slice A' N' c') N' f' ∧ RowsX wr (w.heap.size + 1) w.heap.size high hs ∧ (hs = [] → high = .slice none 0 0) ∧ hs.length = 3 * j ∧ BoxR wr w.heap.size (.int .i64 x') (.int .i64 y') (.int .i64 ((x' : Int) + W')) (.int .i64 ((y' : Int) + H')) ∧ bandsF L x y W H f = bandsF k x' y' W' H' f' ++ hs ∧ Within N' M' f' ∧ 0 ≤ M' ∧ (M' + 1) * 16 ^ k ≤ 4503599627370496 ∧ Below w.heap.size w wr) (fun _ _ i _ => L - (intOf i).toNat)
  case atStart => exact ⟨0, L, x, y, W, H, N, A2, c2, f, M, [], by omega, rfl, rfl, hx, hy, hW, hH, HN.out, o2, RowsX.nil_ _ _ _, fun _ => rfl, rfl, r2, by rw [List.append_nil], hM, hM0, HM1.out, hb2⟩
  case round =>
    clear r2 hb2 o2 hM hM0 HM1 hnc hW hH hx hy HN hN2
    obtain ⟨wa, hwa⟩ : ∃ wa, wa = wr := ⟨_, rfl⟩
    subst hwa
    obtain ⟨j, k, x', y', W', H', N', A', c', f', M', hs, hjk, rfl, rfl, hx, hy, hW, hH, hN, own, rowX, hnil, hlen, r3, hbf, hM, hM0, hM1, hbel⟩ := hrel
    have hN2 : N' ≤ 16777216 := by rw [← hN]; exact Nat.mul_le_mul hH hW
    have HBF := Lib.hid hbf
    have HN := Lib.hid hN
    clear hbf hN
    have hnc := own.cap.1
    by_cases hlt : j < L
    · obtain ⟨k, rfl⟩ : ∃ k0, k = k0 + 1 := ⟨k - 1, by omega⟩
      obtain ⟨hM2, hM3⟩ := bound_step hM0 hM1
      have HM3 := Lib.hid hM3
      clear hM1 hM3
      have c0 := r3.c0
      have c1 := r3.c1
      have c2 := r3.c2
      have c3 := r3.c3
      go_wp2_with fail
      go_quiet (fail)
      go_wp2_with fail
      rw [show (x' : Int) + W' - x' = W' by omega, show (y' : Int) + H' - y' = H' by omega]
      obtain ⟨w3, hw3⟩ : ∃ w3, w3 = wa.drewN nq := ⟨_, rfl⟩
      have own3 : OwnI w3 (w.heap.size + 1) 3 (.slice A' N' c') N' f' := by rw [hw3]; exact own.drewN _
      have row3 : RowsX w3 (w.heap.size + 1) w.heap.size u8 hs := by rw [hw3]; exact rowX.drewN _
      have r3' : BoxR w3 w.heap.size (.int .i64 x') (.int .i64 y') (.int .i64 ((x' : Int) + W')) (.int .i64 ((y' : Int) + H')) := by rw [hw3]; exact r3.drewN _
      have hB3 : Below w.heap.size w w3 := by rw [hw3]; exact below_drewN hbel _
      rw [← hw3]
      clear hw3 own rowX r3 hbel c0 c1 c2 c3
      rename BoxR w3 _ _ _ _ _ => r3
      obtain ⟨w4, hw4⟩ : ∃ w4, w4 = w3.drew := ⟨_, rfl⟩
      have own4 : OwnI w4 (w.heap.size + 1) 3 (.slice A' N' c') N' f' := by rw [hw4]; exact own3.drew
      have r4 : BoxR w4 w.heap.size (.int .i64 x') (.int .i64 y') (.int .i64 ((x' : Int) + W')) (.int .i64 ((y' : Int) + H')) := by rw [hw4]; exact r3.drew
      have hB4 : Below w.heap.size w w4 := by rw [hw4]; exact hB3.drew
      have row4 : RowsX w4 (w.heap.size + 1) w.heap.size u8 hs := by rw [hw4]; exact row3.drewN 1
      have S0 : w3.cell? ⟨w.heap.size, 0, none⟩ = some (.int .i64 x') ∧ w3.cell? ⟨w.heap.size, 1, none⟩ = some (.int .i64 y') := ⟨r3.c0, r3.c1⟩
      have C1 := Lib.hid (rcolumns_any A' W' H' c' y' f' w4 N' HN.out own4.ints (by omega) (by omega) (by omega) hy (fun k hk => by have := hM k hk; omega))
      have hMc : Within N' 72057594037927936 (colF W' (splitF H' (y' % 2)) f') := fun k hk => by have := colF_within (o := y' % 2) HN.out (by omega) hM k hk; omega
      have C2 := Lib.hid (fun (v : World) (h : PInt v w4.heap.size N' (colF W' (splitF H' (y' % 2)) f')) => rrows_any (some ⟨w4.heap.size, 0, none⟩) W' H' N' x' _ v N' HN.out (h.ints h.lt) (Nat.le_refl _) (by omega) (by omega) (by omega) hx hMc)
      have HW4 := Lib.hid hw4
      clear hw4 hMc
      go_region_held3 (fun w' => w'.cell? ⟨w.heap.size, 0, none⟩ = some (.int .i64 x') ∧ w'.cell? ⟨w.heap.size, 1, none⟩ = some (.int .i64 y'))
        (first | exact S2 | exact S1 | exact S0)
        (first
          | (go_simp; go_at_call 32; rw [← HW4.out]; (with_reducible refine C1.out.mono ?_); rintro e v1 ⟨rfl, p1, b1⟩; have r5 := r4.below b1 r4.lt; have S1 : v1.cell? ⟨w.heap.size, 0, none⟩ = some (.int .i64 x') ∧ v1.cell? ⟨w.heap.size, 1, none⟩ = some (.int .i64 y') := ⟨r5.c0, r5.c1⟩; dsimp only)
          | (go_simp; go_at_call 31; (with_reducible refine (C2.out v1 p1).mono ?_); rintro e v2 ⟨Ax, cx, rfl, hcx, o2, b2⟩; have r6 := r5.below b2 r5.lt; have S2 : v2.cell? ⟨w.heap.size, 0, none⟩ = some (.int .i64 x') ∧ v2.cell? ⟨w.heap.size, 1, none⟩ = some (.int .i64 y') := ⟨r6.c0, r6.c1⟩; dsimp only)
          | fail)
      rename_i heldx
      clear heldx S0 S1 S2 C1 C2 HW4
      have row6 := (row4.below b1).below b2
      have hB6 := hB4.trans ((b1.mono (Nat.le_of_lt r4.lt)).trans (b2.mono (Nat.le_of_lt r5.lt)))
      have i6 := o2.ints
      have ho6 := o2.away
      have hp6 : ∀ ad, Ax = some ad → ad.block ≠ w.heap.size := fun ad h => by have := ho6 ad h; have := r5.lt; omega
      have hm6 := planeF_within (x := x') (y := y') HN.out hM
      have ePF : rowsF W' (splitF W' (x' % 2)) (colF W' (splitF H' (y' % 2)) f') = planeF x' y' W' H' f' := rfl
      rw [ePF] at i6
      clear o2 ho6 b1 b2 p1 r5 own4 row4 r4 hB4 own3 row3 r3 hB3 ePF
      have hlw : low W' (x' % 2) ≤ W' := low_le (by omega)
      have hlh : low H' (y' % 2) ≤ H' := low_le (by omega)
      have L1 := Lib.hid (fun v => rlows_any x' W' hx (by omega) v)
      have L2 := Lib.hid (fun v => rlows_any y' H' hy (by omega) v)
      have HH := Lib.hid (fun v => rhalf_any x' y' W' H' hx hy (by omega) (by omega) v)
      have hmL := cut_within (a := 0) (b := 0) (n := low W' (x' % 2)) (m := low H' (y' % 2)) HN.out (by omega) (by omega) hm6
      have ebf : bandsF (k + 1) x' y' W' H' f' = bandsF k (hf x') (hf y') (low W' (x' % 2)) (low H' (y' % 2)) (cutF W' 0 0 (low W' (x' % 2)) (planeF x' y' W' H' f')) ++ highs W' H' (low W' (x' % 2)) (low H' (y' % 2)) (planeF x' y' W' H' f') := rfl
      have hbf := HBF.out
      rw [ebf, List.append_assoc] at hbf
      clear HBF ebf hm6
      generalize planeF x' y' W' H' f' = G at *
      generalize low W' (x' % 2) = lw at *
      generalize low H' (y' % 2) = lh at *
      have HBF := Lib.hid hbf
      clear hbf
      have c0 := r6.c0
      have c1 := r6.c1
      have c2 := r6.c2
      have c3 := r6.c3
      go_wp2_with fail
      go_quiet (first | (go_at_call 33; first | (with_reducible exact Calls.quiet_of_same (L1.out _)) | (with_reducible exact Calls.quiet_of_same (L2.out _))))
      clear L1 L2
      obtain ⟨w7, hw7⟩ : ∃ w7, w7 = v2.drewN nq := ⟨_, rfl⟩
      have i7 : IntsAt w7 w7.heap.size Ax N' G := by rw [hw7]; exact i6.drewN _
      have row7 : RowsX w7 (w.heap.size + 1) w.heap.size u8 hs := by rw [hw7]; exact row6.drewN _
      have r7 : BoxR w7 w.heap.size (.int .i64 x') (.int .i64 y') (.int .i64 ((x' : Int) + W')) (.int .i64 ((y' : Int) + H')) := by rw [hw7]; exact r6.drewN _
      have hB7 : Below w.heap.size w w7 := by rw [hw7]; exact below_drewN hB6 _
      rw [← hw7]
      clear hw7 i6 row6 r6 hB6 c0 c1 c2 c3
      have CC := Lib.hid (fun (a b n m : Nat) (X0 Y0 X1 Y1 : Int) (hX0 : X0 = a) (hY0 : Y0 = b) (hX1 : X1 = (a : Int) + n) (hY1 : Y1 = (b : Int) + m) (h1 : a + n ≤ W') (h2 : b + m ≤ H') (v : World) (hv : IntsAt v v.heap.size Ax N' G) => rcutV Ax W' H' cx G a b n m X0 Y0 X1 Y1 hX0 hY0 hX1 hY1 v N' HN.out hv hcx (by omega) (by omega) (by omega) h1 h2)
      go_wp2_with fail
      refine (CC.out lw 0 (W' - lw) lh lw 0 W' lh rfl rfl (by omega) (by omega) (by omega) (by omega) w7 i7).mono ?_
      rintro e v8 ⟨A8, c8, rfl, hc8, o8, b8⟩
      have i8 := (i7.below b8).more b8.size
      go_wp2_with fail
      refine (CC.out 0 lh lw (H' - lh) 0 lh lw H' rfl rfl (by omega) (by omega) (by omega) (by omega) v8 i8).mono ?_
      rintro e v9 ⟨A9, c9, rfl, hc9, o9, b9⟩
      have i9 := (i8.below b9).more b9.size
      go_wp2_with fail
      refine (CC.out lw lh (W' - lw) (H' - lh) lw lh W' H' rfl rfl (by omega) (by omega) (by omega) (by omega) v9 i9).mono ?_
      rintro e v10 ⟨A10, c10, rfl, hc10, o10, b10⟩
      have i10 := (i9.below b10).more b10.size
      have l10 : RowsX (v10.alloc (.cells #[.slice A8 (lh * (W' - lw)) c8, .slice A9 ((H' - lh) * lw) c9, .slice A10 ((H' - lh) * (W' - lw)) c10] 24)) (w.heap.size + 1) w.heap.size (.slice (some ⟨v10.heap.size, 0, none⟩) 3 3) (highs W' H' lw lh G) := by
        have h7 := r7.lt
        have s8 := b8.size
        have s9 := b9.size
        have s10 := b10.size
        refine RowsX.lit3 v10 _ _ A8 A9 A10 _ _ _ c8 c9 c10 _ _ _ (by omega) hc8 hc9 hc10 ((o8.ints.below ((b9.trans (b10.mono s9)))).more (Nat.le_trans s9 s10)) ((o9.ints.below b10).more s10) o10.ints ?_ ?_ ?_
        · intro ad h; have := o8.away ad h; omega
        · intro ad h; have := o9.away ad h; omega
        · intro ad h; have := o10.away ad h; omega
      have row10 := ((row7.below b8).below b9).below b10
      have r10 := ((r7.below b8 r7.lt).below b9 (r7.below b8 r7.lt).lt).below b10 ((r7.below b8 r7.lt).below b9 (r7.below b8 r7.lt).lt).lt
      have hB10 : Below w.heap.size w v10 := hB7.trans ((b8.mono (Nat.le_of_lt r7.lt)).trans ((b9.mono (Nat.le_of_lt (r7.below b8 r7.lt).lt)).trans (b10.mono (Nat.le_of_lt ((r7.below b8 r7.lt).below b9 (r7.below b8 r7.lt).lt).lt))))
      clear i7 i8 i9 row7 r7 hB7 b8 b9 b10 o8 o9 o10 hc8 hc9 hc10
      have hal := below_alloc (Below.refl v10.heap.size v10) (.cells #[.slice A8 (lh * (W' - lw)) c8, .slice A9 ((H' - lh) * lw) c9, .slice A10 ((H' - lh) * (W' - lw)) c10] 24)
      have hl3 : (highs W' H' lw lh G).length = 3 := rfl
      have hs10 := r10.lt
      have hsa : w.heap.size + 1 ≤ (v10.alloc (.cells #[.slice A8 (lh * (W' - lw)) c8, .slice A9 ((H' - lh) * lw) c9, .slice A10 ((H' - lh) * (W' - lw)) c10] 24)).heap.size := by simp; omega
      have hk1 : ∀ k, Value.ownBlock (.slice (some ⟨v10.heap.size, 0, none⟩) 3 3) = some k → v10.heap.size ≤ k := fun k h => by
        simp only [Value.ownBlock, Option.some.injEq] at h
        omega
      have hk2 : (highs W' H' lw lh G).length ≤ 1048576 := by omega
      have hk3 : hs.length ≤ 1048576 := by omega
      go_wp2_with (first
        | (at_builtin; refine wpList_appRs rfl _ _ 30 rfl sl_info Try.underlying30 (w.heap.size + 1) w.heap.size v10 _ _ (highs W' H' lw lh G) hs rfl l10 rfl row10 hal hk1 hk2 hk3 hsa (Nat.lt_succ_self _) hnil ?_; intro vh w11 rowh b11))
      have hB11 : Below w.heap.size w w11 := hB10.trans (b11.mono (Nat.le_of_lt hs10))
      have i11 := (i10.below b11).more b11.size
      have r11 := r10.below b11 hs10
      have hne11 : highs W' H' lw lh G ++ hs = [] → vh = .slice none 0 0 := fun h => by
        have := congrArg List.length h
        rw [List.length_append, hl3] at this
        simp at this
      have hlen11 : (highs W' H' lw lh G ++ hs).length = 3 * (j + 1) := by rw [List.length_append, hl3, hlen]; omega
      generalize highs W' H' lw lh G ++ hs = hs' at *
      clear l10 row10 hal hsa hk1 hk2 hk3 hl3 i10 r10 b11 hnil hlen
      go_wp2_with fail
      refine (CC.out 0 0 lw lh 0 0 lw lh rfl rfl (by omega) (by omega) (by omega) (by omega) w11 i11).mono ?_
      rintro e w12 ⟨A12, c12, rfl, hc12, o12, b12⟩
      have r12 := r11.below b12 r11.lt
      have hB12 := hB11.trans (b12.mono hB11.size)
      have row12 := rowh.below b12
      have own12 := o12.mono r11.lt
      clear CC i11 rowh o12 b12 r11 hB11
      have c0 := r12.c0
      have c1 := r12.c1
      have c2 := r12.c2
      have c3 := r12.c3
      go_wp2_with fail
      refine (HH.out w12).mono ?_
      rintro e w13 ⟨rfl, b13⟩
      have r13 := r12.below b13 r12.lt
      have hB13 := hB12.trans (b13.mono hB12.size)
      have row13 := row12.below b13
      have own13 := own12.below b13
      clear HH r12 hB12 row12 own12 b13 c0 c1 c2 c3
      have hx3 : hf x' ≤ 1048576 := by unfold hf; omega
      have hy3 : hf y' ≤ 1048576 := by unfold hf; omega
      generalize hf x' = hx' at *
      generalize hf y' = hy' at *
      have c0 := r13.c0
      have c1 := r13.c1
      have c2 := r13.c2
      have c3 := r13.c3
      have fz := r13.fz
      have hpo : Value.ownBlock (.slice A12 (lh * lw) c12) ≠ some w.heap.size := fun h => by have := (own13.lt _ h).1; omega
      have R14 := Lib.hid ((((r13.set0 (.int .i64 hx')).set1 (.int .i64 hy')).set2 (.int .i64 ((hx' : Int) + lw))).set3 (.int .i64 ((hy' : Int) + lh)))
      have B14 := Lib.hid ((((hB13.setCell (p := ⟨w.heap.size, 0, none⟩) (Nat.le_refl _) (.int .i64 hx')).setCell (p := ⟨w.heap.size, 1, none⟩) (Nat.le_refl _) (.int .i64 hy')).setCell (p := ⟨w.heap.size, 2, none⟩) (Nat.le_refl _) (.int .i64 ((hx' : Int) + lw))).setCell (p := ⟨w.heap.size, 3, none⟩) (Nat.le_refl _) (.int .i64 ((hy' : Int) + lh)))
      have O14 := Lib.hid ((((own13.other (a := ⟨w.heap.size, 0, none⟩) hpo (.int .i64 hx')).other (a := ⟨w.heap.size, 1, none⟩) hpo (.int .i64 hy')).other (a := ⟨w.heap.size, 2, none⟩) hpo (.int .i64 ((hx' : Int) + lw))).other (a := ⟨w.heap.size, 3, none⟩) hpo (.int .i64 ((hy' : Int) + lh)))
      have X14 := Lib.hid ((((row13.set_ (j := 0) (Nat.lt_succ_self _) (.int .i64 hx')).set_ (j := 1) (Nat.lt_succ_self _) (.int .i64 hy')).set_ (j := 2) (Nat.lt_succ_self _) (.int .i64 ((hx' : Int) + lw))).set_ (j := 3) (Nat.lt_succ_self _) (.int .i64 ((hy' : Int) + lh)))
      clear r13 hB13 own13 row13
      go_wp2_with fail
      go_roundw
      case rel => exact ⟨j + 1, k, hx', hy', lw, lh, lh * lw, A12, c12, _, 16 * M' + 15, hs', by omega, by go_num, rfl, hx3, hy3, by omega, by omega, rfl, O14.out, X14.out, hne11, hlen11, R14.out, HBF.out, hmL, by omega, HM3.out, B14.out⟩
      case measure => simp [intOf]; omega
    · obtain rfl : j = L := by omega
      obtain rfl : k = 0 := by omega
      have hbf := HBF.out
      rw [show bandsF 0 x' y' W' H' f' = [(N', f')] by unfold bandsF; rw [HN.out]] at hbf
      have HBF2 := Lib.hid hbf
      clear hbf HBF
      have hp : ∀ ad, A' = some ad → ad.block ≠ w.heap.size := fun ad h => by have := own.away ad h; omega
      have l1 := RowsX.lit1 wa (w.heap.size + 1) w.heap.size A' N' c' f' r3.lt hnc own.ints hp
      have hal := below_alloc (Below.refl wa.heap.size wa) (.cells #[.slice A' N' c'] 24)
      have hk1 : ∀ k, Value.ownBlock (.slice (some ⟨wa.heap.size, 0, none⟩) 1 1) = some k → wa.heap.size ≤ k := fun k h => by
        simp only [Value.ownBlock, Option.some.injEq] at h
        omega
      have hk2 : [(N', f')].length ≤ 1048576 := by simp
      have hk3 : hs.length ≤ 1048576 := by omega
      have hs0 := r3.lt
      have hsa : w.heap.size + 1 ≤ (wa.alloc (.cells #[.slice A' N' c'] 24)).heap.size := by simp; omega
      go_wp2_with (first
        | (at_builtin; refine wpList_appRs rfl _ _ 30 rfl sl_info Try.underlying30 (w.heap.size + 1) w.heap.size wa _ _ [(N', f')] hs rfl l1 rfl rowX hal hk1 hk2 hk3 hsa (Nat.lt_succ_self _) hnil ?_; intro vh w11 rowh b11))
      go_wp2_with fail
      go_ret
      exact ⟨vh, rfl, by rw [HBF2.out]; exact rowh.rows.mono (Nat.le_succ _), hbel.trans (b11.mono (Nat.le_of_lt hs0))⟩
end Go.Proofs.Ytmcdhdofgaoadaa
