/- WORDS FOR THE ARMS of waveletlaw12.CanvasChecks: what one store, one append leaves of a made picture. -/
import Derived.Test.YtmieoifagnpbiaaMadeLaw
import Derived.Test.YtmieoifagnpbiaaForm
namespace Go.Proofs.Ytmieoifagnpbiaa
open Go.RowKit
set_option linter.unusedVariables false
set_option maxHeartbeats 2000000

/-- components, and their samples, wherever they lie below block B -/
def PicAt (w : World) (B : Nat) (A : Option Addr) (n c : Nat) (F : Nat → CompD) (G : Nat → Nat → Int) : Prop :=
  CompsAt w B A n F ∧ n ≤ c ∧ (∀ k, k < n → IntsAt w B (F k).A (F k).n (G k)) ∧ ∀ k, k < n → (F k).n ≤ 1099511627776
section
variable {w w' : World} {B B' base n c : Nat} {A : Option Addr} {F : Nat → CompD} {G : Nat → Nat → Int} {PC : CompD → (Nat → Int) → Prop}
theorem PicAt.below (h : PicAt w B A n c F G) (hb : Below B w w') : PicAt w' B A n c F G := ⟨h.1.below hb, h.2.1, fun k hk => (h.2.2.1 k hk).below hb, h.2.2.2⟩
theorem PicAt.more (h : PicAt w B A n c F G) (hB : B ≤ B') : PicAt w B' A n c F G := ⟨h.1.more hB, h.2.1, fun k hk => (h.2.2.1 k hk).more hB, h.2.2.2⟩
theorem MadeI.imp {PD : CompD → (Nat → Int) → Prop} (h : MadeI w base A n c F G PC) (hi : ∀ j, j < n → PC (F j) (G j) → PD (F j) (G j)) : MadeI w base A n c F G PD :=
  ⟨h.comps, h.data, h.sep, fun j hj => hi j hj (h.good j hj)⟩
theorem pic_of (h : MadeI w base A n c F G PC) (hs : ∀ k, k < n → (F k).n ≤ 1048576) : PicAt w w.heap.size A n c F G :=
  ⟨h.compsAt.1, h.compsAt.2, fun k hk => (h.data k hk).ints, fun k hk => Nat.le_trans (hs k hk) (by decide)⟩
/-- one cell of a component, not its samples -/
theorem pic_cell {g : Nat} (h : MadeI w base (some ⟨g, 0, none⟩) n c F G PC) (hs : ∀ k, k < n → (F k).n ≤ 1048576) {k j : Nat} (hk : k < n) (hj : j < 5) (u : Value) (d : CompD)
    (hd : compL d = (compL (F k)).set j u) (hA : d.A = (F k).A) (hn : d.n = (F k).n) :
    PicAt (w.setCell ⟨g, k * 5 + j, none⟩ u) w.heap.size (some ⟨g, 0, none⟩) n c (fun i => if i = k then d else F i) G := by
  have h1 := h.comps.stored hk hj u
  have hz : (w.setCell ⟨g, k * 5 + j, none⟩ u).heap.size = w.heap.size := by simp
  refine ⟨?_, h.compsAt.2, fun i hi => ?_, fun i hi => ?_⟩
  · have h2 := h1.at_
    rw [hz] at h2
    refine comps_of_cells (h2.congr fun i hi => ?_)
    try dsimp only
    split
    · rw [hd]
    · rfl
  · have hx := h.data i hi
    have hne : (dataV (F i)).ownBlock ≠ some g := by
      intro he
      exact sep_CI h.comps hx (by decide) g rfl he
    have h3 := (hx.other (a := ⟨g, k * 5 + j, none⟩) hne u).ints
    rw [hz] at h3
    dsimp only
    split
    · rename_i e; subst e; rw [hA, hn]; exact h3
    · exact h3
  · dsimp only
    split
    · rename_i e; rw [hn]; exact Nat.le_trans (hs k hk) (by decide)
    · exact Nat.le_trans (hs i hi) (by decide)
/-- one sample -/
theorem pic_sample (h : MadeI w base A n c F G PC) (hs : ∀ k, k < n → (F k).n ≤ 1048576) {k gd j : Nat} (hk : k < n) (hd : (F k).A = some ⟨gd, 0, none⟩) (u : Int) :
    PicAt (w.setCell ⟨gd, j, none⟩ (.int .i64 u)) w.heap.size A n c F (fun i => if i = k then fun x => if x = j then u else G k x else G i) := by
  have hz : (w.setCell ⟨gd, j, none⟩ (.int .i64 u)).heap.size = w.heap.size := by simp
  have hdk := h.data k hk
  have hov : (dataV (F k)).ownBlock = some gd := by unfold dataV; rw [hd]; rfl
  refine ⟨?_, h.compsAt.2, fun i hi => ?_, fun i hi => Nat.le_trans (hs i hi) (by decide)⟩
  · have hne : (Value.slice A n c).ownBlock ≠ some gd := fun he => sep_CI h.comps hdk (by decide) gd he hov
    have h2 := (h.comps.other (a := ⟨gd, j, none⟩) hne (.int .i64 u)).at_
    rw [hz] at h2
    exact comps_of_cells h2
  · dsimp only
    split
    · rename_i e
      subst e
      have hx := hdk
      unfold dataV at hx
      rw [hd] at hx
      have h3 := (hx.stored j u).ints
      rw [hz] at h3
      rw [hd]
      exact h3
    · rename_i e
      have hne : (dataV (F i)).ownBlock ≠ some gd := by
        intro he
        rcases Nat.lt_or_gt_of_ne e with hlt | hlt
        · exact h.sep i k hlt hk gd he hov
        · exact h.sep k i hlt hi gd hov he
      have h3 := ((h.data i hi).other (a := ⟨gd, j, none⟩) hne (.int .i64 u)).ints
      rw [hz] at h3
      exact h3
theorem flat_one (n : Nat) (f : Nat → Int) : (List.range n).flatMap (fun k => [Value.int .i64 (f k)]) = (List.range n).map fun k => .int .i64 (f k) := by
  induction n with
  | zero => rfl
  | succ n ih => rw [← flat_snoc, ih, ← range_snoc]
theorem ownI_C {e : TypeId} {v : Value} {f : Nat → Int} (h : OwnI w base e v n f) : OwnC w base e 1 v n (fun k => [.int .i64 (f k)]) := ⟨fun _ => rfl, by rw [flat_one]; exact h⟩
theorem ownC_I {e : TypeId} {v : Value} {f : Nat → Int} (h : OwnC w base e 1 v n (fun k => [.int .i64 (f k)])) : OwnI w base e v n f := by
  have h2 := h.2
  rw [flat_one] at h2
  exact h2
theorem int_elem : ElemC Try.prog 32 3 1 := elemC_of (.int .i64 0) 8 (by kernel_rfl) rfl (by omega) (by omega) Try.underlying32
/-- one sample more: the append, then the store into the component -/
theorem pic_more {w1 : World} {g g2 cap : Nat} (h : MadeI w base (some ⟨g, 0, none⟩) n c F G PC) (hs : ∀ k, k < n → (F k).n ≤ 1048576) {k : Nat} (hk : k < n) (u : Int)
    (hst : StepC w w1 base (dataV (F k)) (.slice (some ⟨g2, 0, none⟩) ((F k).n + 1) cap))
    (hown : OwnC w1 base 3 1 (.slice (some ⟨g2, 0, none⟩) ((F k).n + 1) cap) ((F k).n + 1) (fun x => [.int .i64 (if x = (F k).n then u else G k x)])) :
    PicAt (w1.setCell ⟨g, k * 5 + 4, none⟩ (.slice (some ⟨g2, 0, none⟩) ((F k).n + 1) cap)) w1.heap.size (some ⟨g, 0, none⟩) n c (fun i => if i = k then ⟨(F k).dp, (F k).sg, (F k).dx, (F k).dy, some ⟨g2, 0, none⟩, (F k).n + 1, cap⟩ else F i)
      (fun i => if i = k then fun x => if x = (F k).n then u else G k x else G i) := by
  have hz : (w1.setCell ⟨g, k * 5 + 4, none⟩ (.slice (some ⟨g2, 0, none⟩) ((F k).n + 1) cap)).heap.size = w1.heap.size := by simp
  have hc1 := hst.keep _ _ _ _ _ h.comps (sep_CI h.comps (h.data k hk) (by decide)).symm
  have hdat : ∀ i, i < n → i ≠ k → OwnI w1 base 3 (dataV (F i)) (F i).n (G i) := fun i hi hne => hst.keepI _ _ _ _ (h.data i hi) (by
    rcases Nat.lt_or_gt_of_ne hne with hlt | hlt
    · exact (h.sep i k hlt hk).symm
    · exact h.sep k i hlt hi)
  have hnew := ownC_I hown
  have far : ∀ {v : Value} {m : Nat} {f : Nat → Int}, OwnI w1 base 3 v m f → v.ownBlock ≠ some g := fun hx he => sep_CI hc1 hx (by decide) g rfl he
  refine ⟨?_, h.compsAt.2, fun i hi => ?_, fun i hi => ?_⟩
  · have h2 := (hc1.stored hk (by omega : 4 < 5) (.slice (some ⟨g2, 0, none⟩) ((F k).n + 1) cap)).at_
    rw [hz] at h2
    refine comps_of_cells (h2.congr fun i hi => ?_)
    try dsimp only
    split
    · rename_i e; subst e; rfl
    · rfl
  · dsimp only
    split
    · rename_i e
      have h3 := (hnew.other (a := ⟨g, k * 5 + 4, none⟩) (far hnew) (.slice (some ⟨g2, 0, none⟩) ((F k).n + 1) cap)).ints
      rw [hz] at h3
      exact h3
    · rename_i e
      have hx := hdat i hi e
      have h3 := (hx.other (a := ⟨g, k * 5 + 4, none⟩) (far hx) (.slice (some ⟨g2, 0, none⟩) ((F k).n + 1) cap)).ints
      rw [hz] at h3
      exact h3
  · dsimp only
    split
    · have := hs k hk
      show (F k).n + 1 ≤ _
      omega
    · exact Nat.le_trans (hs i hi) (by decide)
/-- the components behind themselves -/
theorem pic_twice {w1 : World} {cap : Nat} {A' : Option Addr} (h : MadeI w base A n c F G PC) (hs : ∀ k, k < n → (F k).n ≤ 1048576)
    (hst : StepC w w1 base (.slice A n c) (.slice A' (n + n) cap))
    (hown : OwnC w1 base 34 5 (.slice A' (n + n) cap) (n + n) (fun x => compL (if x < n then F x else F (x - n)))) :
    PicAt w1 w1.heap.size A' (n + n) cap (fun x => if x < n then F x else F (x - n)) (fun x => if x < n then G x else G (x - n)) := by
  have hdat : ∀ i, i < n → OwnI w1 base 3 (dataV (F i)) (F i).n (G i) := fun i hi => hst.keepI _ _ _ _ (h.data i hi) (sep_CI h.comps (h.data i hi) (by decide))
  refine ⟨comps_of_cells hown.at_, hown.cap.1, fun i hi => ?_, fun i hi => ?_⟩
  · dsimp only
    split
    · exact (hdat i (by omega)).ints
    · exact (hdat (i - n) (by omega)).ints
  · dsimp only
    split
    · exact Nat.le_trans (hs i (by omega)) (by decide)
    · exact Nat.le_trans (hs (i - n) (by omega)) (by decide)
end
/-- 'append(v, v...)', v of structs, the call's own -/
theorem run_appCC {P : Program} {w : World} {t e ty : TypeId} {sz : Nat} (E : ElemC P t e sz) (base : Nat) (A : Option Addr) (n c : Nat) (f : Nat → List Value) (hown : OwnC w base e sz (.slice A n c) n f)
    (h1 : ∀ k, k < n → ∀ u ∈ f k, u.oneCell' = true) (h0 : 0 < n) (hn : n ≤ 1048576) (hbase : base ≤ w.heap.size) :
    ∃ g cap w', (Builtin.append_ #[t, t] ty #[.slice A n c, .slice A n c]).run P w = .ok (.slice (some ⟨g, 0, none⟩) (n + n) cap) w' ∧ OwnC w' base e sz (.slice (some ⟨g, 0, none⟩) (n + n) cap) (n + n) (fun x => if x < n then f x else f (x - n)) ∧ StepC w w' base (.slice A n c) (.slice (some ⟨g, 0, none⟩) (n + n) cap) ∧ g < w'.heap.size := by
  obtain ⟨i0, z, by', hi, hz0, hz1, hz2, hz3, hz4, hz5⟩ := E.ex
  obtain ⟨g0, rfl, hg1, hg2⟩ := hown.row h0
  have hat := hown.at_
  obtain ⟨v', w', hr, k1, k2, _, k5⟩ := run_append_own_at (P := P) w base t ty e i0 z sz by' E.und hi hz0 hz1 hz2 hz3 hz4 _ n _ hown.2 ⟨g0, 0, none⟩ n c ((List.range n).flatMap f) (by rw [flat_len hown.1])
    (fun j u hj => by
      rw [add_plain, Nat.zero_add]
      have hj' : j < n * sz := by
        rcases Nat.lt_or_ge j (n * sz) with h | h
        · exact h
        · rw [List.getElem?_eq_none (by rw [flat_len hown.1]; exact h)] at hj; cases hj
      have hd : j / sz < n := (Nat.div_lt_iff_lt_mul (by omega)).2 hj'
      have hm := Nat.mod_lt j (show 0 < sz by omega)
      have he : j / sz * sz + j % sz = j := by rw [Nat.mul_comm]; exact Nat.div_add_mod j sz
      rw [← he, flat_get hown.1 _ _ hm n hd] at hj
      have := hat.cells hd hj
      rw [Nat.zero_add, he] at this
      exact this)
    (fun u hu => by
      obtain ⟨k, hk, hu⟩ := List.mem_flatMap.1 hu
      exact h1 k (List.mem_range.1 hk) u hu)
    (by unfold maxLen; omega) (by have : (n + n) * by' ≤ 2097152 * 128 := Nat.mul_le_mul (by omega) hz5; omega) hbase
  have hfl : (List.range n).flatMap f ++ (List.range n).flatMap f = (List.range (n + n)).flatMap (fun x => if x < n then f x else f (x - n)) := by
    rw [← flat_add]
    congr 1
    · refine flat_congr fun k hk => ?_
      rw [if_pos hk]
    · refine flat_congr fun k hk => ?_
      rw [if_neg (by omega), Nat.add_sub_cancel_left]
  rw [hfl] at k1
  have hst := stepC_of (Below.refl _ w) (KeepsOthers.refl w) hown hbase k2 k5
  have k1' : OwnC w' base e sz v' (n + n) (fun x => if x < n then f x else f (x - n)) := ⟨fun k => by dsimp only; split <;> exact hown.1 _, k1⟩
  obtain ⟨A2, c2, rfl, _⟩ := k1'.form
  obtain ⟨g, rfl, _, hg⟩ := k1'.row (by omega)
  exact ⟨g, c2, w', hr, k1', hst, hg⟩
/-- the image's row, the params' row -/
def RowI (w : World) (b : Nat) (X Y Ox Oy : Int) (A : Option Addr) (n c : Nat) : Prop := w.heap[b]? = some (.cells #[.int .i64 X, .int .i64 Y, .int .i64 Ox, .int .i64 Oy, .slice A n c] 25 (0, 0))
def RowP (w : World) (b : Nat) (tx ty lv cw ch pr st od ly : Int) (rct sop eph : Bool) : Prop := w.heap[b]? = some (.cells #[.int .i64 tx, .int .i64 ty, .int .i64 lv, .int .i64 cw, .int .i64 ch, .int .i64 pr, .int .i64 st, .int .i64 od, .int .i64 ly, .bool rct, .bool sop, .bool eph] 27 (0, 0))
/-- what every arm leaves -/
def SwOut (V W : World) (base gm : Nat) : Prop := ∃ (X Y Ox Oy : Int) (A : Option Addr) (n c : Nat) (tx ty lv cw ch pr st od ly : Int) (rct sop eph : Bool) (F : Nat → CompD) (G : Nat → Nat → Int),
  RowI W gm X Y Ox Oy A n c ∧ RowP W (gm + 1) tx ty lv cw ch pr st od ly rct sop eph ∧ PicAt W W.heap.size A n c F G ∧ Below base V W
/-- what every arm finds -/
structure SwIn (V : World) (base gm g kc : Nat) (X Y Ox Oy : Int) (n c : Nat) (tx ty lv cw ch pr st od ly : Int) (rct sop eph : Bool) (F : Nat → CompD) (G : Nat → Nat → Int) (PC : CompD → (Nat → Int) → Prop) : Prop where
  im : RowI V gm X Y Ox Oy (some ⟨g, 0, none⟩) n c
  par : RowP V (gm + 1) tx ty lv cw ch pr st od ly rct sop eph
  made : MadeI V base (some ⟨g, 0, none⟩) n c F G PC
  pic : PicAt V gm (some ⟨g, 0, none⟩) n c F G
  small : ∀ k, k < n → (F k).n ≤ 1048576
  kc : kc < n
  few : n ≤ 1024
  base : base ≤ gm
  lt : gm + 1 < V.heap.size
section
variable {V : World} {base gm g kc n c : Nat} {X Y Ox Oy tx ty lv cw ch pr st od ly : Int} {rct sop eph : Bool} {F : Nat → CompD} {G : Nat → Nat → Int} {PC : CompD → (Nat → Int) → Prop}
theorem SwIn.gne (S : SwIn V base gm g kc X Y Ox Oy n c tx ty lv cw ch pr st od ly rct sop eph F G PC) : g ≠ gm ∧ g ≠ gm + 1 :=
  ⟨fun e => S.made.comps.ne_block S.im (by decide) (by rw [e]; rfl), fun e => S.made.comps.ne_block S.par (by decide) (by rw [e]; rfl)⟩
theorem SwIn.compCell (S : SwIn V base gm g kc X Y Ox Oy n c tx ty lv cw ch pr st od ly rct sop eph F G PC) {j : Nat} {u : Value} (hu : (compL (F kc))[j]? = some u) : V.cell? ⟨g, kc * 5 + j, none⟩ = some u := by
  have := S.made.comps.at_.cells S.kc hu
  rwa [Nat.zero_add] at this
theorem rowI_set {W : World} {b : Nat} {A : Option Addr} (h : RowI W b X Y Ox Oy A n c) {p j : Nat} (hp : b ≠ p) (u : Value) : RowI (W.setCell ⟨p, j, none⟩ u) b X Y Ox Oy A n c := (Below.heap_setCell W ⟨p, j, none⟩ u b hp).trans h
theorem rowP_set {W : World} {b : Nat} (h : RowP W b tx ty lv cw ch pr st od ly rct sop eph) {p j : Nat} (hp : b ≠ p) (u : Value) : RowP (W.setCell ⟨p, j, none⟩ u) b tx ty lv cw ch pr st od ly rct sop eph := (Below.heap_setCell W ⟨p, j, none⟩ u b hp).trans h
theorem SwIn.out_row (S : SwIn V base gm g kc X Y Ox Oy n c tx ty lv cw ch pr st od ly rct sop eph F G PC) {p j : Nat} (hp : gm ≤ p) (u : Value) : Below base V (V.setCell ⟨p, j, none⟩ u) ∧ PicAt (V.setCell ⟨p, j, none⟩ u) (V.setCell ⟨p, j, none⟩ u).heap.size (some ⟨g, 0, none⟩) n c F G := by
  have h1 : Below gm V (V.setCell ⟨p, j, none⟩ u) := (Below.refl _ _).setCell (p := ⟨p, j, none⟩) hp u
  refine ⟨h1.mono S.base, (S.pic.below h1).more ?_⟩
  have := S.lt
  simp
  omega
theorem SwIn.out_i0 (S : SwIn V base gm g kc X Y Ox Oy n c tx ty lv cw ch pr st od ly rct sop eph F G PC) (u : Int) : SwOut V (V.setCell ⟨gm, 0, none⟩ (.int .i64 u)) base gm :=
  ⟨u, Y, Ox, Oy, some ⟨g, 0, none⟩, n, c, tx, ty, lv, cw, ch, pr, st, od, ly, rct, sop, eph, F, G, heap_setCell_same V gm 0 _ _ (.int .i64 u) S.im, rowP_set S.par (by omega) _, (S.out_row (Nat.le_refl _) _).2, (S.out_row (Nat.le_refl _) _).1⟩
theorem SwIn.out_i1 (S : SwIn V base gm g kc X Y Ox Oy n c tx ty lv cw ch pr st od ly rct sop eph F G PC) (u : Int) : SwOut V (V.setCell ⟨gm, 1, none⟩ (.int .i64 u)) base gm :=
  ⟨X, u, Ox, Oy, some ⟨g, 0, none⟩, n, c, tx, ty, lv, cw, ch, pr, st, od, ly, rct, sop, eph, F, G, heap_setCell_same V gm 1 _ _ (.int .i64 u) S.im, rowP_set S.par (by omega) _, (S.out_row (Nat.le_refl _) _).2, (S.out_row (Nat.le_refl _) _).1⟩
theorem SwIn.out_i2 (S : SwIn V base gm g kc X Y Ox Oy n c tx ty lv cw ch pr st od ly rct sop eph F G PC) (u : Int) : SwOut V (V.setCell ⟨gm, 2, none⟩ (.int .i64 u)) base gm :=
  ⟨X, Y, u, Oy, some ⟨g, 0, none⟩, n, c, tx, ty, lv, cw, ch, pr, st, od, ly, rct, sop, eph, F, G, heap_setCell_same V gm 2 _ _ (.int .i64 u) S.im, rowP_set S.par (by omega) _, (S.out_row (Nat.le_refl _) _).2, (S.out_row (Nat.le_refl _) _).1⟩
theorem SwIn.out_i3 (S : SwIn V base gm g kc X Y Ox Oy n c tx ty lv cw ch pr st od ly rct sop eph F G PC) (u : Int) : SwOut V (V.setCell ⟨gm, 3, none⟩ (.int .i64 u)) base gm :=
  ⟨X, Y, Ox, u, some ⟨g, 0, none⟩, n, c, tx, ty, lv, cw, ch, pr, st, od, ly, rct, sop, eph, F, G, heap_setCell_same V gm 3 _ _ (.int .i64 u) S.im, rowP_set S.par (by omega) _, (S.out_row (Nat.le_refl _) _).2, (S.out_row (Nat.le_refl _) _).1⟩
theorem SwIn.out_p0 (S : SwIn V base gm g kc X Y Ox Oy n c tx ty lv cw ch pr st od ly rct sop eph F G PC) (u : Int) : SwOut V (V.setCell ⟨gm + 1, 0, none⟩ (.int .i64 u)) base gm :=
  ⟨X, Y, Ox, Oy, some ⟨g, 0, none⟩, n, c, u, ty, lv, cw, ch, pr, st, od, ly, rct, sop, eph, F, G, rowI_set S.im (by omega) _, heap_setCell_same V (gm + 1) 0 _ _ (.int .i64 u) S.par, (S.out_row (by omega) _).2, (S.out_row (by omega) _).1⟩
theorem SwIn.out_p1 (S : SwIn V base gm g kc X Y Ox Oy n c tx ty lv cw ch pr st od ly rct sop eph F G PC) (u : Int) : SwOut V (V.setCell ⟨gm + 1, 1, none⟩ (.int .i64 u)) base gm :=
  ⟨X, Y, Ox, Oy, some ⟨g, 0, none⟩, n, c, tx, u, lv, cw, ch, pr, st, od, ly, rct, sop, eph, F, G, rowI_set S.im (by omega) _, heap_setCell_same V (gm + 1) 1 _ _ (.int .i64 u) S.par, (S.out_row (by omega) _).2, (S.out_row (by omega) _).1⟩
theorem SwIn.out_p2 (S : SwIn V base gm g kc X Y Ox Oy n c tx ty lv cw ch pr st od ly rct sop eph F G PC) (u : Int) : SwOut V (V.setCell ⟨gm + 1, 2, none⟩ (.int .i64 u)) base gm :=
  ⟨X, Y, Ox, Oy, some ⟨g, 0, none⟩, n, c, tx, ty, u, cw, ch, pr, st, od, ly, rct, sop, eph, F, G, rowI_set S.im (by omega) _, heap_setCell_same V (gm + 1) 2 _ _ (.int .i64 u) S.par, (S.out_row (by omega) _).2, (S.out_row (by omega) _).1⟩
theorem SwIn.out_p3 (S : SwIn V base gm g kc X Y Ox Oy n c tx ty lv cw ch pr st od ly rct sop eph F G PC) (u : Int) : SwOut V (V.setCell ⟨gm + 1, 3, none⟩ (.int .i64 u)) base gm :=
  ⟨X, Y, Ox, Oy, some ⟨g, 0, none⟩, n, c, tx, ty, lv, u, ch, pr, st, od, ly, rct, sop, eph, F, G, rowI_set S.im (by omega) _, heap_setCell_same V (gm + 1) 3 _ _ (.int .i64 u) S.par, (S.out_row (by omega) _).2, (S.out_row (by omega) _).1⟩
theorem SwIn.out_p4 (S : SwIn V base gm g kc X Y Ox Oy n c tx ty lv cw ch pr st od ly rct sop eph F G PC) (u : Int) : SwOut V (V.setCell ⟨gm + 1, 4, none⟩ (.int .i64 u)) base gm :=
  ⟨X, Y, Ox, Oy, some ⟨g, 0, none⟩, n, c, tx, ty, lv, cw, u, pr, st, od, ly, rct, sop, eph, F, G, rowI_set S.im (by omega) _, heap_setCell_same V (gm + 1) 4 _ _ (.int .i64 u) S.par, (S.out_row (by omega) _).2, (S.out_row (by omega) _).1⟩
theorem SwIn.out_p5 (S : SwIn V base gm g kc X Y Ox Oy n c tx ty lv cw ch pr st od ly rct sop eph F G PC) (u : Int) : SwOut V (V.setCell ⟨gm + 1, 5, none⟩ (.int .i64 u)) base gm :=
  ⟨X, Y, Ox, Oy, some ⟨g, 0, none⟩, n, c, tx, ty, lv, cw, ch, u, st, od, ly, rct, sop, eph, F, G, rowI_set S.im (by omega) _, heap_setCell_same V (gm + 1) 5 _ _ (.int .i64 u) S.par, (S.out_row (by omega) _).2, (S.out_row (by omega) _).1⟩
theorem SwIn.out_p6 (S : SwIn V base gm g kc X Y Ox Oy n c tx ty lv cw ch pr st od ly rct sop eph F G PC) (u : Int) : SwOut V (V.setCell ⟨gm + 1, 6, none⟩ (.int .i64 u)) base gm :=
  ⟨X, Y, Ox, Oy, some ⟨g, 0, none⟩, n, c, tx, ty, lv, cw, ch, pr, u, od, ly, rct, sop, eph, F, G, rowI_set S.im (by omega) _, heap_setCell_same V (gm + 1) 6 _ _ (.int .i64 u) S.par, (S.out_row (by omega) _).2, (S.out_row (by omega) _).1⟩
theorem SwIn.out_p7 (S : SwIn V base gm g kc X Y Ox Oy n c tx ty lv cw ch pr st od ly rct sop eph F G PC) (u : Int) : SwOut V (V.setCell ⟨gm + 1, 7, none⟩ (.int .i64 u)) base gm :=
  ⟨X, Y, Ox, Oy, some ⟨g, 0, none⟩, n, c, tx, ty, lv, cw, ch, pr, st, u, ly, rct, sop, eph, F, G, rowI_set S.im (by omega) _, heap_setCell_same V (gm + 1) 7 _ _ (.int .i64 u) S.par, (S.out_row (by omega) _).2, (S.out_row (by omega) _).1⟩
theorem SwIn.out_p8 (S : SwIn V base gm g kc X Y Ox Oy n c tx ty lv cw ch pr st od ly rct sop eph F G PC) (u : Int) : SwOut V (V.setCell ⟨gm + 1, 8, none⟩ (.int .i64 u)) base gm :=
  ⟨X, Y, Ox, Oy, some ⟨g, 0, none⟩, n, c, tx, ty, lv, cw, ch, pr, st, od, u, rct, sop, eph, F, G, rowI_set S.im (by omega) _, heap_setCell_same V (gm + 1) 8 _ _ (.int .i64 u) S.par, (S.out_row (by omega) _).2, (S.out_row (by omega) _).1⟩
theorem SwIn.out_rct (S : SwIn V base gm g kc X Y Ox Oy n c tx ty lv cw ch pr st od ly rct sop eph F G PC) : SwOut V (V.setCell ⟨gm + 1, 9, none⟩ (.bool true)) base gm :=
  ⟨X, Y, Ox, Oy, some ⟨g, 0, none⟩, n, c, tx, ty, lv, cw, ch, pr, st, od, ly, true, sop, eph, F, G, rowI_set S.im (by omega) _, heap_setCell_same V (gm + 1) 9 _ _ (.bool true) S.par, (S.out_row (by omega) _).2, (S.out_row (by omega) _).1⟩
theorem SwIn.gbase (S : SwIn V base gm g kc X Y Ox Oy n c tx ty lv cw ch pr st od ly rct sop eph F G PC) : base ≤ g := (S.made.comps.lt g rfl).1
theorem SwIn.out_comp (S : SwIn V base gm g kc X Y Ox Oy n c tx ty lv cw ch pr st od ly rct sop eph F G PC) {j : Nat} (hj : j < 5) (u : Value) (d : CompD) (hd : compL d = (compL (F kc)).set j u) (hA : d.A = (F kc).A) (hn : d.n = (F kc).n) : SwOut V (V.setCell ⟨g, kc * 5 + j, none⟩ u) base gm :=
  ⟨X, Y, Ox, Oy, some ⟨g, 0, none⟩, n, c, tx, ty, lv, cw, ch, pr, st, od, ly, rct, sop, eph, _, G, rowI_set S.im (Ne.symm S.gne.1) _, rowP_set S.par (Ne.symm S.gne.2) _, (pic_cell S.made S.small S.kc hj u d hd hA hn).more (by simp), (Below.refl _ _).setCell (p := ⟨g, kc * 5 + j, none⟩) S.gbase u⟩
theorem SwIn.out_sample (S : SwIn V base gm g kc X Y Ox Oy n c tx ty lv cw ch pr st od ly rct sop eph F G PC) {gd j : Nat} (hd : (F kc).A = some ⟨gd, 0, none⟩) (u : Int) : SwOut V (V.setCell ⟨gd, j, none⟩ (.int .i64 u)) base gm := by
  have hx := S.made.data kc S.kc
  have ho : (dataV (F kc)).ownBlock = some gd := by unfold dataV; rw [hd]; rfl
  have h1 : gm ≠ gd := fun e => hx.ne_block S.im (by decide) (by rw [e]; exact ho)
  have h2 : gm + 1 ≠ gd := fun e => hx.ne_block S.par (by decide) (by rw [e]; exact ho)
  exact ⟨X, Y, Ox, Oy, some ⟨g, 0, none⟩, n, c, tx, ty, lv, cw, ch, pr, st, od, ly, rct, sop, eph, F, _, rowI_set S.im h1 _, rowP_set S.par h2 _, (pic_sample S.made S.small S.kc hd u).more (by simp), (Below.refl _ _).setCell (p := ⟨gd, j, none⟩) (hx.lt gd ho).1 _⟩
theorem SwIn.out_more (S : SwIn V base gm g kc X Y Ox Oy n c tx ty lv cw ch pr st od ly rct sop eph F G PC) {w1 : World} {g2 cap : Nat} (u : Int) (hst : StepC V w1 base (dataV (F kc)) (.slice (some ⟨g2, 0, none⟩) ((F kc).n + 1) cap))
    (hown : OwnC w1 base 3 1 (.slice (some ⟨g2, 0, none⟩) ((F kc).n + 1) cap) ((F kc).n + 1) (fun x => [.int .i64 (if x = (F kc).n then u else G kc x)])) :
    SwOut V (w1.setCell ⟨g, kc * 5 + 4, none⟩ (.slice (some ⟨g2, 0, none⟩) ((F kc).n + 1) cap)) base gm := by
  have hx := S.made.data kc S.kc
  have h1 : RowI w1 gm X Y Ox Oy (some ⟨g, 0, none⟩) n c := (hst.blocks gm (by have := S.lt; omega) (hx.ne_block S.im (by decide))).trans S.im
  have h2 : RowP w1 (gm + 1) tx ty lv cw ch pr st od ly rct sop eph := (hst.blocks (gm + 1) S.lt (hx.ne_block S.par (by decide))).trans S.par
  exact ⟨X, Y, Ox, Oy, some ⟨g, 0, none⟩, n, c, tx, ty, lv, cw, ch, pr, st, od, ly, rct, sop, eph, _, _, rowI_set h1 (Ne.symm S.gne.1) _, rowP_set h2 (Ne.symm S.gne.2) _, (pic_more S.made S.small S.kc u hst hown).more (by simp), hst.below.setCell (p := ⟨g, kc * 5 + 4, none⟩) S.gbase _⟩
theorem SwIn.out_twice (S : SwIn V base gm g kc X Y Ox Oy n c tx ty lv cw ch pr st od ly rct sop eph F G PC) {w1 : World} {g2 cap : Nat} (hst : StepC V w1 base (.slice (some ⟨g, 0, none⟩) n c) (.slice (some ⟨g2, 0, none⟩) (n + n) cap))
    (hown : OwnC w1 base 34 5 (.slice (some ⟨g2, 0, none⟩) (n + n) cap) (n + n) (fun x => if x < n then compL (F x) else compL (F (x - n)))) :
    SwOut V (w1.setCell ⟨gm, 4, none⟩ (.slice (some ⟨g2, 0, none⟩) (n + n) cap)) base gm := by
  have h1 : RowI w1 gm X Y Ox Oy (some ⟨g, 0, none⟩) n c := (hst.blocks gm (by have := S.lt; omega) (S.made.comps.ne_block S.im (by decide))).trans S.im
  have h2 : RowP w1 (gm + 1) tx ty lv cw ch pr st od ly rct sop eph := (hst.blocks (gm + 1) S.lt (S.made.comps.ne_block S.par (by decide))).trans S.par
  have hown' : OwnC w1 base 34 5 (.slice (some ⟨g2, 0, none⟩) (n + n) cap) (n + n) (fun x => compL (if x < n then F x else F (x - n))) :=
    hown.congr (fun _ => rfl) (fun x hx => by split <;> rfl)
  have hpic := pic_twice S.made S.small hst hown'
  have hne : (Value.slice (some ⟨g2, 0, none⟩) (n + n) cap).ownBlock ≠ some gm := hown'.ne_block h1 (by decide)
  -- what is stored lies in the image's row, so nowhere among the components or their samples
  have hdat : ∀ i, i < n → OwnI w1 base 3 (dataV (F i)) (F i).n (G i) := fun i hi => hst.keepI _ _ _ _ (S.made.data i hi) (sep_CI S.made.comps (S.made.data i hi) (by decide))
  refine ⟨X, Y, Ox, Oy, some ⟨g2, 0, none⟩, n + n, cap, tx, ty, lv, cw, ch, pr, st, od, ly, rct, sop, eph, (fun x => if x < n then F x else F (x - n)), (fun x => if x < n then G x else G (x - n)), heap_setCell_same w1 gm 4 _ _ _ h1, rowP_set h2 (by omega) _, ?_, hst.below.setCell (p := ⟨gm, 4, none⟩) S.base _⟩
  refine ⟨?_, hpic.2.1, fun i hi => ?_, hpic.2.2.2⟩
  · have h3 := (hown'.other (a := ⟨gm, 4, none⟩) hne (.slice (some ⟨g2, 0, none⟩) (n + n) cap)).at_
    exact comps_of_cells h3
  · have far : ∀ i, i < n → IntsAt (w1.setCell ⟨gm, 4, none⟩ (.slice (some ⟨g2, 0, none⟩) (n + n) cap)) (w1.setCell ⟨gm, 4, none⟩ (.slice (some ⟨g2, 0, none⟩) (n + n) cap)).heap.size (F i).A (F i).n (G i) := fun i hi =>
      ((hdat i hi).other (a := ⟨gm, 4, none⟩) ((hdat i hi).ne_block h1 (by decide)) _).ints
    have e1 : ∀ (P : CompD → (Nat → Int) → Prop), (i < n → P (F i) (G i)) → (¬ i < n → P (F (i - n)) (G (i - n))) → P (if i < n then F i else F (i - n)) (if i < n then G i else G (i - n)) := fun P p1 p2 => by
      split
      · exact p1 ‹_›
      · exact p2 ‹_›
    exact e1 (fun d f => IntsAt _ _ d.A d.n f) (fun _ => far i (by omega)) (fun _ => far (i - n) (by omega))
/-- the sixteen pointers -/
def ptrs (gm g kc : Nat) : Array Value := #[.pointer (some ⟨gm, 0, none⟩), .pointer (some ⟨gm, 1, none⟩), .pointer (some ⟨gm, 2, none⟩), .pointer (some ⟨gm, 3, none⟩), .pointer (some ⟨gm + 1, 0, none⟩), .pointer (some ⟨gm + 1, 1, none⟩), .pointer (some ⟨gm + 1, 2, none⟩), .pointer (some ⟨gm + 1, 3, none⟩), .pointer (some ⟨gm + 1, 4, none⟩), .pointer (some ⟨gm + 1, 5, none⟩), .pointer (some ⟨gm + 1, 6, none⟩), .pointer (some ⟨gm + 1, 7, none⟩), .pointer (some ⟨gm + 1, 8, none⟩), .pointer (some ⟨g, kc * 5 + 0, none⟩), .pointer (some ⟨g, kc * 5 + 2, none⟩), .pointer (some ⟨g, kc * 5 + 3, none⟩)]
theorem SwIn.ways (S : SwIn V base gm g kc X Y Ox Oy n c tx ty lv cw ch pr st od ly rct sop eph F G PC) {lb : Nat} {T : TypeId} (hL : V.heap[lb]? = some (.cells (ptrs gm g kc) T (0, 0))) {k : Nat} (hk : k < 16) :
    ∃ b o old, V.cell? ⟨lb, k, none⟩ = some (.pointer (some ⟨b, o, none⟩)) ∧ V.cell? ⟨b, o, none⟩ = some (.int .i64 old) ∧ V.frozen? ⟨b, o, none⟩ = false ∧ ∀ u : Int, SwOut V (V.setCell ⟨b, o, none⟩ (.int .i64 u)) base gm := by
  match k, hk with
  | 0, _ => exact ⟨gm, 0, X, cell_of_row _ _ 0 _ _ (0, 0) hL, cell_of_row _ _ 0 _ _ (0, 0) S.im, frozen_of_row _ _ 0 _ _ S.im, fun u => S.out_i0 u⟩
  | 1, _ => exact ⟨gm, 1, Y, cell_of_row _ _ 1 _ _ (0, 0) hL, cell_of_row _ _ 1 _ _ (0, 0) S.im, frozen_of_row _ _ 1 _ _ S.im, fun u => S.out_i1 u⟩
  | 2, _ => exact ⟨gm, 2, Ox, cell_of_row _ _ 2 _ _ (0, 0) hL, cell_of_row _ _ 2 _ _ (0, 0) S.im, frozen_of_row _ _ 2 _ _ S.im, fun u => S.out_i2 u⟩
  | 3, _ => exact ⟨gm, 3, Oy, cell_of_row _ _ 3 _ _ (0, 0) hL, cell_of_row _ _ 3 _ _ (0, 0) S.im, frozen_of_row _ _ 3 _ _ S.im, fun u => S.out_i3 u⟩
  | 4, _ => exact ⟨gm + 1, 0, tx, cell_of_row _ _ 4 _ _ (0, 0) hL, cell_of_row _ _ 0 _ _ (0, 0) S.par, frozen_of_row _ _ 0 _ _ S.par, fun u => S.out_p0 u⟩
  | 5, _ => exact ⟨gm + 1, 1, ty, cell_of_row _ _ 5 _ _ (0, 0) hL, cell_of_row _ _ 1 _ _ (0, 0) S.par, frozen_of_row _ _ 1 _ _ S.par, fun u => S.out_p1 u⟩
  | 6, _ => exact ⟨gm + 1, 2, lv, cell_of_row _ _ 6 _ _ (0, 0) hL, cell_of_row _ _ 2 _ _ (0, 0) S.par, frozen_of_row _ _ 2 _ _ S.par, fun u => S.out_p2 u⟩
  | 7, _ => exact ⟨gm + 1, 3, cw, cell_of_row _ _ 7 _ _ (0, 0) hL, cell_of_row _ _ 3 _ _ (0, 0) S.par, frozen_of_row _ _ 3 _ _ S.par, fun u => S.out_p3 u⟩
  | 8, _ => exact ⟨gm + 1, 4, ch, cell_of_row _ _ 8 _ _ (0, 0) hL, cell_of_row _ _ 4 _ _ (0, 0) S.par, frozen_of_row _ _ 4 _ _ S.par, fun u => S.out_p4 u⟩
  | 9, _ => exact ⟨gm + 1, 5, pr, cell_of_row _ _ 9 _ _ (0, 0) hL, cell_of_row _ _ 5 _ _ (0, 0) S.par, frozen_of_row _ _ 5 _ _ S.par, fun u => S.out_p5 u⟩
  | 10, _ => exact ⟨gm + 1, 6, st, cell_of_row _ _ 10 _ _ (0, 0) hL, cell_of_row _ _ 6 _ _ (0, 0) S.par, frozen_of_row _ _ 6 _ _ S.par, fun u => S.out_p6 u⟩
  | 11, _ => exact ⟨gm + 1, 7, od, cell_of_row _ _ 11 _ _ (0, 0) hL, cell_of_row _ _ 7 _ _ (0, 0) S.par, frozen_of_row _ _ 7 _ _ S.par, fun u => S.out_p7 u⟩
  | 12, _ => exact ⟨gm + 1, 8, ly, cell_of_row _ _ 12 _ _ (0, 0) hL, cell_of_row _ _ 8 _ _ (0, 0) S.par, frozen_of_row _ _ 8 _ _ S.par, fun u => S.out_p8 u⟩
  | 13, _ => exact ⟨g, kc * 5 + 0, (F kc).dp, cell_of_row _ _ 13 _ _ (0, 0) hL, S.compCell rfl, S.made.comps.frozen _, fun u => S.out_comp (by omega) _ ⟨u, (F kc).sg, (F kc).dx, (F kc).dy, (F kc).A, (F kc).n, (F kc).c⟩ rfl rfl rfl⟩
  | 14, _ => exact ⟨g, kc * 5 + 2, (F kc).dx, cell_of_row _ _ 14 _ _ (0, 0) hL, S.compCell rfl, S.made.comps.frozen _, fun u => S.out_comp (by omega) _ ⟨(F kc).dp, (F kc).sg, u, (F kc).dy, (F kc).A, (F kc).n, (F kc).c⟩ rfl rfl rfl⟩
  | 15, _ => exact ⟨g, kc * 5 + 3, (F kc).dy, cell_of_row _ _ 15 _ _ (0, 0) hL, S.compCell rfl, S.made.comps.frozen _, fun u => S.out_comp (by omega) _ ⟨(F kc).dp, (F kc).sg, (F kc).dx, u, (F kc).A, (F kc).n, (F kc).c⟩ rfl rfl rfl⟩
  | k + 16, h => exact absurd h (by omega)
end
/-- .. as a step of a plain region -/
theorem wpList_appCC {P : Program} {ops : Array Oper} {rest : List Oper} {o : Oper} {a : Act} {Q : Exit → Act → World → Prop} {w : World} (hgd : o.guard = none) (s x : Operand) (t : TypeId)
    (ho : o.op = .call { callee := .builtin .append, args := #[s, x], argTypes := #[t, t] }) (e : TypeId) (sz : Nat) (E : ElemC P t e sz)
    (base : Nat) (A : Option Addr) (n c : Nat) (f : Nat → List Value) (hs : a.eval s = .slice A n c) (hx : a.eval x = .slice A n c) (hown : OwnC w base e sz (.slice A n c) n f)
    (h1 : ∀ k, k < n → ∀ u ∈ f k, u.oneCell' = true) (h0 : 0 < n) (hn : n ≤ 1048576) (hbase : base ≤ w.heap.size)
    (h : ∀ g cap w', OwnC w' base e sz (.slice (some ⟨g, 0, none⟩) (n + n) cap) (n + n) (fun x => if x < n then f x else f (x - n)) → StepC w w' base (.slice A n c) (.slice (some ⟨g, 0, none⟩) (n + n) cap) → g < w'.heap.size →
      wpList P ops Q rest (a.put o.dst (.slice (some ⟨g, 0, none⟩) (n + n) cap)) w') : wpList P ops Q (o :: rest) a w := by
  obtain ⟨g, cap, w', hr, k1, k2, k3⟩ := run_appCC (ty := o.type) E base A n c f hown h1 h0 hn hbase
  refine wpList_plain hgd fun K hK => ?_
  unfold Oper.wp execOp
  simp only [ho, resolve, invoke, builtin, Sem.run_bind, Sem.run_pure, Result.andThen_ok, List.map_toArray, List.map_cons, List.map_nil, hs, hx, hr]
  exact hK _ _ (h g cap w' k1 k2 k3)
theorem one_comp (d : CompD) : ∀ u ∈ compL d, u.oneCell' = true := by
  intro u hu
  simp only [compL, List.mem_cons, List.not_mem_nil, or_false] at hu
  rcases hu with rfl | rfl | rfl | rfl | rfl <;> rfl
theorem byN_bd {X d : Nat} (hX : X ≤ 38) (hd : d ≤ 3) : byN X d ≤ 64 := by
  unfold byN
  exact Nat.le_trans (Nat.div_le_self _ _) (by omega)
theorem made_small {side : Nat} {fC fS : Int} {Xn Yn On Pn tx ty lv cw ch pr st od ly n dn c base : Nat} {rct PL sg : Bool} {w : World} {A : Option Addr} {F : Nat → CompD} {G : Nat → Nat → Int}
    (hP : MadeP side fC fS Xn Yn On Pn tx ty lv cw ch pr st od ly n dn rct PL) (hs : side ≤ 32) (hI : MadeI w base A n c F G (MadeC Xn Yn On Pn dn sg PL)) : ∀ k, k < n → (F k).n ≤ 1048576 := by
  intro k hk
  have hc := hI.good k hk
  have h1 := hP.xs
  have h2 := hP.on
  have h3 := hc.dx
  have h4 := hc.dy
  rw [hc.num]
  unfold areaN
  calc _ ≤ 64 * 64 := Nat.mul_le_mul (Nat.le_trans (Nat.sub_le _ _) (byN_bd (by omega) (by omega))) (Nat.le_trans (Nat.sub_le _ _) (byN_bd (by omega) (by omega)))
    _ ≤ 1048576 := by decide
end Go.Proofs.Ytmieoifagnpbiaa
