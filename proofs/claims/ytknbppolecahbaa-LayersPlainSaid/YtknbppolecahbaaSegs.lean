/- CONTRACT of layers.Segments. -/
import Derived.Test.YtknbppolecahbaaPieces
import Derived.Test.YtknbppolecahbaaRound
import Derived.Test.YtknbppolecahbaaMem3
import Derived.Deep.RegionLaw
namespace Go.Proofs.Ytknbppolecahbaa
open Go.RowKit Go.Shelf
attribute [local go_sem] Oper.semAt_some
set_option maxHeartbeats 1000000
set_option linter.unusedVariables false
set_option linter.unusedSimpArgs false

theorem int_info : (Try.prog.info? 3).map (fun i => (i.zero, i.size, i.bytes)) = some (some (.int .i64 0), 1, 8) := by kernel_rfl

theorem pieces_any (s frm to : Int) (w : World) :
    Calls Try.prog 19 #[.int .i64 s, .int .i64 frm, .int .i64 to] w fun e w' => e = .returned (.func (.func 21) #[] #[.pointer (some ⟨w.heap.size + 1, 0, none⟩), .pointer (some ⟨w.heap.size + 2, 0, none⟩), .pointer (some ⟨w.heap.size, 0, none⟩)]) ∧
      w' = ((w.alloc (.cells #[.int .i64 s] 3)).alloc (.cells #[.int .i64 frm] 3)).alloc (.cells #[.int .i64 to] 3) := by
  go_enter Try.func19, Try.ntmps19
  go_wp2_with fail
  go_ret
  exact ⟨rfl, rfl⟩

theorem cell_new'' (w : World) (x : Value) (T : TypeId) (b : Nat) (h : w.heap.size = b) : (w.alloc (.cells #[x] T)).cell? ⟨b, 0, none⟩ = some x := by subst h; simp
theorem cell_al {w : World} {a : Addr} {v : Value} (h : w.cell? a = some v) (o : Obj) : (w.alloc o).cell? a = some v := by rw [World.cell?_alloc_lt _ _ _ (World.block_lt_of_cell? _ _ h), h]
/-- 'append([]int(nil), xs...)', as a step of a region that draws -/
theorem step_app0 {P : Program} {ops : Array Oper} {o : Oper} {a : Act} {K : Act → World → Prop} {Q : Exit → Act → World → Prop} {E : Prop} {w : World} (hgd : o.guard = none) (s x : Operand) (t : TypeId)
    (ho : o.op = .call { callee := .builtin .append, args := #[s, x], argTypes := #[t, t] })
    (e : TypeId) (hinfo : (P.info? e).map (fun i => (i.zero, i.size, i.bytes)) = some (some (.int .i64 0), 1, 8)) (ht : P.underlying t = some (.slice e))
    (base : Nat) (hs : a.eval s = .slice none 0 0) (B : Nat) (X : Option Addr) (m d : Nat) (g : Nat → Int) (hx : a.eval x = .slice X m d) (hg : IntsAt w B X m g) (hn : m ≤ 1099511627776) (hbase : base ≤ w.heap.size)
    (h : ∀ A' cap w', OwnI w' base e (.slice A' m cap) m g → Below base w w' → K (a.put o.dst (.slice A' m cap)) w') :
    if Region.wanted o (yielded ops a.tmps) = true then Oper.wp P o a w K Q else E := by
  have hw : Region.wanted o (yielded ops a.tmps) = true := by simp [Region.wanted, hgd]
  rw [if_pos hw]
  refine wp_appN s x t ho e hinfo ht base none 0 0 (fun _ => 0) hs (OwnI.nil_ _ _ _ _) B X m d g hx hg (by omega) hbase fun A' cap w' h1 h2 => ?_
  have h1' : OwnI w' base e (.slice A' (0 + m) cap) (0 + m) g := h1.congr fun k hk => by simp [joinRow]
  have h2' := h2.below
  clear h1 h2
  rw [Nat.zero_add] at h1' ⊢
  exact h A' cap w' h1' h2'
/-- what stands ahead of place x -/
def valE (f : Nat → Int) (x : Nat) : Int := if x = 0 then 0 else f (x - 1)
def passF (l : List (Nat × Nat)) (k : Nat) : Int := ((l.getD k (0, 0)).2 : Int) - (l.getD k (0, 0)).1
def wasF (f : Nat → Int) (frm : Nat) (l : List (Nat × Nat)) : Int := if l.length = 0 then valE f frm else valE f (l.getD (l.length - 1) (0, 0)).2
def byteF (f : Nat → Int) (frm : Nat) (l : List (Nat × Nat)) (k : Nat) : Int := valE f (l.getD k (0, 0)).2 - (if k = 0 then valE f frm else valE f (l.getD (k - 1) (0, 0)).2)
theorem getD_snoc_lt (l : List (Nat × Nat)) (x : Nat × Nat) {k : Nat} (h : k < l.length) : (l ++ [x]).getD k (0, 0) = l.getD k (0, 0) := by
  simp [List.getD_eq_getElem?_getD, List.getElem?_append_left h]
theorem getD_snoc (l : List (Nat × Nat)) (x : Nat × Nat) : (l ++ [x]).getD l.length (0, 0) = x := by simp [List.getD_eq_getElem?_getD]
theorem passF_lt (l : List (Nat × Nat)) (x : Nat × Nat) {k : Nat} (h : k < l.length) : passF (l ++ [x]) k = passF l k := by unfold passF; rw [getD_snoc_lt l x h]
theorem passF_new (l : List (Nat × Nat)) (x : Nat × Nat) : passF (l ++ [x]) l.length = (x.2 : Int) - x.1 := by unfold passF; rw [getD_snoc]
theorem byteF_lt (f : Nat → Int) (frm : Nat) (l : List (Nat × Nat)) (x : Nat × Nat) {k : Nat} (h : k < l.length) : byteF f frm (l ++ [x]) k = byteF f frm l k := by
  unfold byteF
  rw [getD_snoc_lt l x h]
  split
  · rfl
  · rw [getD_snoc_lt l x (by omega)]
theorem byteF_new (f : Nat → Int) (frm : Nat) (l : List (Nat × Nat)) (x : Nat × Nat) : byteF f frm (l ++ [x]) l.length = valE f x.2 - wasF f frm l := by
  unfold byteF wasF
  rw [getD_snoc]
  split
  · rfl
  · rw [getD_snoc_lt l x (by omega)]
theorem wasF_new (f : Nat → Int) (frm : Nat) (l : List (Nat × Nat)) (x : Nat × Nat) : wasF f frm (l ++ [x]) = valE f x.2 := by
  unfold wasF
  rw [if_neg (by simp)]
  have : (l ++ [x]).length - 1 = l.length := by simp
  rw [this, getD_snoc]

theorem valE_bd {f : Nat → Int} {m x : Nat} (hf : ∀ k, k < m → -1099511627776 ≤ f k ∧ f k ≤ 1099511627776) (hx : x ≤ m) : -1099511627776 ≤ valE f x ∧ valE f x ≤ 1099511627776 := by
  unfold valE
  split
  · omega
  · exact hf _ (by omega)
theorem wasF_bd {f : Nat → Int} {m frm : Nat} {L : List (Nat × Nat)} (hf : ∀ k, k < m → -1099511627776 ≤ f k ∧ f k ≤ 1099511627776) (hx : frm ≤ m) (hL : ∀ y ∈ L, y.2 ≤ m) : -1099511627776 ≤ wasF f frm L ∧ wasF f frm L ≤ 1099511627776 := by
  unfold wasF
  split
  · exact valE_bd hf hx
  · refine valE_bd hf ?_
    rw [List.getD_eq_getElem?_getD]
    rcases h : L[L.length - 1]? with _ | y
    · exact Nat.zero_le _
    · exact hL y (List.mem_of_getElem? h)

/-- between two rounds -/
def SegI (w : World) (A : Option Addr) (m c : Nat) (f : Nat → Int) (frm : Nat) (T E : TypeId) (l : List (Nat × Nat)) (W : World) : Prop :=
  ∃ (X Y : Option Addr) (cx cy : Nat), Boxed W w.heap.size T (.slice A m c) ∧ Boxed W (w.heap.size + 1) T (.slice X l.length cx) ∧ Boxed W (w.heap.size + 1 + 1) T (.slice Y l.length cy) ∧ Boxed W (w.heap.size + 3) E (.int .i64 (wasF f frm l)) ∧
    OwnI W (w.heap.size + 7) E (.slice X l.length cx) l.length (passF l) ∧ OwnI W (w.heap.size + 7) E (.slice Y l.length cy) l.length (byteF f frm l) ∧ Sep (.slice X l.length cx) (.slice Y l.length cy) ∧ Below w.heap.size w W ∧ w.heap.size + 7 ≤ W.heap.size
theorem segI_own {w : World} {A : Option Addr} {m c : Nat} {f : Nat → Int} {frm : Nat} {T E : TypeId} {α : Type} {g : List α → List (Nat × Nat)} {B : Nat} (hB : w.heap.size ≤ B) : OwnFrom B (fun (pre : List α) W => SegI w A m c f frm T E (g pre) W) := by
  rintro s W W' row ⟨X, Y, cx, cy, h1, h2, h3, h4, h5, h6, h7, h8, h9⟩ hg hr
  have hr' := fun r e => (hr r e).2
  exact ⟨X, Y, cx, cy, Boxed.keptNC h1 hg hr', Boxed.keptNC h2 hg hr', Boxed.keptNC h3 hg hr', Boxed.keptNC h4 hg hr', h5.keptNC hg hr', h6.keptNC hg hr', h7, h8.grown hg h8.size (fun k hk => Nat.le_trans hB (hr k hk).1), Nat.le_trans h9 hg.size⟩
theorem keeps3_put {W : World} {l a b c : Nat} {o : Obj} (h1 : a < l) (h2 : b < l) (h3 : c < l) : Keeps3 a b c W (W.putObj l o) :=
  ⟨World.putObj_heap_other (by omega), World.putObj_heap_other (by omega), World.putObj_heap_other (by omega)⟩

set_option maxRecDepth 100000 in
set_option maxHeartbeats 16000000 in
theorem segments_any (s : Int) (t b : Bool) (ht : (bits .and .i64 s 4 != 0) = t) (hb : (bits .and .i64 s 1 != 0) = b) (frm to : Nat) (A : Option Addr) (m c : Nat) (f : Nat → Int) (w : World) (ha : IntsAt w w.heap.size A m f)
    (hft : frm ≤ to) (hto : to ≤ m) (hm : m ≤ 1000) (hf : ∀ k, k < m → -1099511627776 ≤ f k ∧ f k ≤ 1099511627776) :
    Calls Try.prog 13 #[.int .i64 s, .int .i64 frm, .int .i64 to, .slice A m c] w fun e w' => ∃ (A1 A2 : Option Addr) (d1 d2 : Nat) (l : List (Nat × Nat)), l = (piecesP (fun k => endsB t b k) to frm (to - frm)).1 ∧
      e = .returned (.tuple #[.slice A1 l.length d1, .slice A2 l.length d2]) ∧ IntsAt w' w'.heap.size A1 l.length (passF l) ∧ IntsAt w' w'.heap.size A2 l.length (byteF f frm l) ∧ Below w.heap.size w w' := by
  refine (callsIn_wide (n := 4)).1 ?_
  refine callsIn_of_wp_marks Try.func13 rfl trivial ?_ rfl
  simp only [Try.ntmps13, List.size_toArray, List.length_cons, List.length_nil, Nat.reduceAdd, Nat.reduceSub, Array.replicate_succ, Array.replicate_zero, List.push_toArray, List.append_toArray, List.nil_append, List.cons_append]
  gi_wp2
  have bE : Boxed (((w.alloc (.cells #[.slice A m c] 26)).alloc (.cells #[.slice none 0 0] 26)).alloc (.cells #[.slice none 0 0] 26)) w.heap.size 26 (.slice A m c) := ((Boxed.new w _ _).alloc _).alloc _
  have bP : Boxed (((w.alloc (.cells #[.slice A m c] 26)).alloc (.cells #[.slice none 0 0] 26)).alloc (.cells #[.slice none 0 0] 26)) (w.heap.size + 1) 26 (.slice none 0 0) := by
    have := (Boxed.new (w.alloc (.cells #[.slice A m c] 26)) 26 (.slice none 0 0)).alloc (.cells #[.slice none 0 0] 26)
    rwa [World.size_alloc] at this
  have bB : Boxed (((w.alloc (.cells #[.slice A m c] 26)).alloc (.cells #[.slice none 0 0] 26)).alloc (.cells #[.slice none 0 0] 26)) (w.heap.size + 1 + 1) 26 (.slice none 0 0) := by
    have := Boxed.new ((w.alloc (.cells #[.slice A m c] 26)).alloc (.cells #[.slice none 0 0] 26)) 26 (.slice none 0 0)
    rwa [World.size_alloc, World.size_alloc] at this
  have hsz : (((w.alloc (.cells #[.slice A m c] 26)).alloc (.cells #[.slice none 0 0] 26)).alloc (.cells #[.slice none 0 0] 26)).heap.size = w.heap.size + 3 := by simp
  have hbl := below_alloc (below_alloc (below_alloc (Below.refl _ w) (.cells #[.slice A m c] 26)) (.cells #[.slice none 0 0] 26)) (.cells #[.slice none 0 0] 26)
  generalize ((w.alloc (.cells #[.slice A m c] 26)).alloc (.cells #[.slice none 0 0] 26)).alloc (.cells #[.slice none 0 0] 26) = W0 at *
  have xE := bE.cell
  have hft0 : (0 : Int) ≤ frm := by omega
  have n1 : ¬ ((m : Int) < to) := by omega
  refine wpIn_wide.2 ?_
  go_quiet (fail)
  have ENDS := Lib.hid (And.intro ht hb)
  clear ht hb
  have bE1 : Boxed (W0.drewN nq) w.heap.size 26 (.slice A m c) := bE
  have bP1 : Boxed (W0.drewN nq) (w.heap.size + 1) 26 (.slice none 0 0) := bP
  have bB1 : Boxed (W0.drewN nq) (w.heap.size + 1 + 1) 26 (.slice none 0 0) := bB
  have hsz1 : (W0.drewN nq).heap.size = w.heap.size + 3 := hsz
  have hbl1 : Below w.heap.size w (W0.drewN nq) := below_drewN hbl _
  clear bE bP bB hsz hbl xE n1
  generalize W0.drewN nq = W1 at *
  have xE := bE1.cell
  have hv0 : (¬ (0 : Int) < frm ∧ valE f frm = 0) ∨ (0 < frm ∧ (0 : Int) < frm ∧ (frm : Int) ≤ m ∧ valE f frm = f (frm - 1)) := by
    unfold valE
    rcases Nat.eq_zero_or_pos frm with rfl | h
    · exact .inl ⟨by omega, rfl⟩
    · exact .inr ⟨h, by omega, by omega, if_neg (by omega)⟩
  rcases hv0 with ⟨q2, q3⟩ | ⟨q1, q2, q4, q3⟩
  · have Q3 := Lib.hid q3
    clear q3
    gi_wp2_with fail
    have bE := bE1.alloc (.cells #[.int .i64 (0)] 3)
    have bP := bP1.alloc (.cells #[.int .i64 (0)] 3)
    have bB := bB1.alloc (.cells #[.int .i64 (0)] 3)
    have bW : Boxed (W1.alloc (.cells #[.int .i64 (0)] 3)) (w.heap.size + 3) 3 (.int .i64 (valE f frm)) := by rw [Q3.out, ← hsz1]; exact Boxed.new W1 3 (.int .i64 (0))
    have hB2 := below_alloc hbl1 (.cells #[.int .i64 (0)] 3)
    have hs2 : (W1.alloc (.cells #[.int .i64 (0)] 3)).heap.size = w.heap.size + 4 := by rw [World.size_alloc, hsz1]
    generalize W1.alloc (.cells #[.int .i64 (0)] 3) = W2 at *
    clear bE1 bP1 bB1 hsz1 hbl1 xE Q3 q2
    refine ⟨trivial, ?_⟩
    refine (callsIn_wide.2 (pieces_any _ _ _ _)).mono ?_
    rintro e w' ⟨rfl, rfl⟩
    rw [hs2]
    gi_wp2
    have bE := ((bE.alloc (.cells #[.int .i64 s] 3)).alloc (.cells #[.int .i64 frm] 3)).alloc (.cells #[.int .i64 to] 3)
    have bP := ((bP.alloc (.cells #[.int .i64 s] 3)).alloc (.cells #[.int .i64 frm] 3)).alloc (.cells #[.int .i64 to] 3)
    have bB := ((bB.alloc (.cells #[.int .i64 s] 3)).alloc (.cells #[.int .i64 frm] 3)).alloc (.cells #[.int .i64 to] 3)
    have bW := ((bW.alloc (.cells #[.int .i64 s] 3)).alloc (.cells #[.int .i64 frm] 3)).alloc (.cells #[.int .i64 to] 3)
    have hB3 := below_alloc (below_alloc (below_alloc hB2 (.cells #[.int .i64 s] 3)) (.cells #[.int .i64 frm] 3)) (.cells #[.int .i64 to] 3)
    have b4 := ((Boxed.new W2 3 (.int .i64 s)).alloc (.cells #[.int .i64 frm] 3)).alloc (.cells #[.int .i64 to] 3)
    have b5 := (Boxed.new (W2.alloc (.cells #[.int .i64 s] 3)) 3 (.int .i64 frm)).alloc (.cells #[.int .i64 to] 3)
    have b6 := Boxed.new ((W2.alloc (.cells #[.int .i64 s] 3)).alloc (.cells #[.int .i64 frm] 3)) 3 (.int .i64 to)
    rw [hs2] at b4
    rw [World.size_alloc, hs2] at b5
    rw [World.size_alloc, World.size_alloc, hs2] at b6
    have hs3 : (((W2.alloc (.cells #[.int .i64 s] 3)).alloc (.cells #[.int .i64 frm] 3)).alloc (.cells #[.int .i64 to] 3)).heap.size = w.heap.size + 7 := by simp [hs2]
    generalize ((W2.alloc (.cells #[.int .i64 s] 3)).alloc (.cells #[.int .i64 frm] 3)).alloc (.cells #[.int .i64 to] 3) = W3 at *
    clear hB2 hs2
    have hseq : SeqStopsK Fence.wide 3 Try.prog 21 #[.pointer (some ⟨w.heap.size + 4 + 1, 0, none⟩), .pointer (some ⟨w.heap.size + 4 + 2, 0, none⟩), .pointer (some ⟨w.heap.size + 4, 0, none⟩)] (encP to) (Keeps3 (w.heap.size + 4 + 1) (w.heap.size + 4 + 2) (w.heap.size + 4))
        (fun xs => xs.map Subtype.val = (piecesP (fun k => endsB t b k) to frm (to - frm)).1) (fun _ => True) (to + 1) W3 := fun l J Jx W hW _ _ hY h0 =>
      pieces1_in 3 (by omega) l _ _ _ s t b ENDS.out.1 ENDS.out.2 frm to (by omega) hft J Jx hY W ((hW.cell (p := ⟨w.heap.size + 4 + 1, 0, none⟩) b5.lt).trans b5.cell) ((hW.cell (p := ⟨w.heap.size + 4 + 2, 0, none⟩) b6.lt).trans b6.cell) ((hW.cell (p := ⟨w.heap.size + 4, 0, none⟩) b4.lt).trans b4.cell) h0
    refine' wpIn_rangeFunc_ownF rfl (by omega) rfl trivial (enters_of Try.func21 (by kernel_rfl) rfl) hseq Keeps3.trans (fun W l o o' hl ho hc _ => keeps3_put (by omega) (by omega) (by omega)) (Below.refl _ _) (fun _ => rfl)
      (fun pre W => SegI w A m c f frm 26 3 (pre.map Subtype.val) W) (fun _ _ _ => False) (segI_own (by omega)) (fun _ _ _ _ _ hs _ _ => hs) ?start _ ?assign ?body ?done ?stop
    case start => exact ⟨none, none, 0, 0, bE, bP, bB, bW, OwnI.nil_ _ _ _ _, OwnI.nil_ _ _ _ _, Sep.nil_ _, hB3, Nat.le_of_eq hs3.symm⟩
    case assign =>
      intro l x W K hK
      gi_wp2
      exact hK
    case body =>
      rintro l pre ⟨⟨ia, ib⟩, hab, hbt⟩ W ⟨X, Y, cx, cy, bE, bP, bB, bW, oX, oY, sXY, hbel, hsz7⟩ hlen
      have hLl : (pre.map Subtype.val).length = pre.length := List.length_map ..
      have hmapx : (pre ++ [(⟨(ia, ib), hab, hbt⟩ : Piece to)]).map Subtype.val = pre.map Subtype.val ++ [(ia, ib)] := by simp
      unfold ownPostK
      simp only [hmapx]
      have hL2 : ∀ y ∈ pre.map Subtype.val, y.2 ≤ m := by
        intro y hy
        obtain ⟨z, _, rfl⟩ := List.mem_map.1 hy
        exact Nat.le_trans z.2.2 hto
      generalize pre.map Subtype.val = L at *
      simp only at hab hbt
      have hLn : L.length ≤ 1001 := by omega
      clear hLl hmapx hlen
      have xP := bP.cell
      have fP := bP.frozen
      have oX := oX.congr (g := passF (L ++ [(ia, ib)])) (fun k hk => (passF_lt _ _ hk).symm)
      have oY := oY.congr (g := byteF f frm (L ++ [(ia, ib)])) (fun k hk => (byteF_lt _ _ _ _ hk).symm)
      have hv1 : passF (L ++ [(ia, ib)]) L.length = (ib : Int) - ia := passF_new _ _
      have HV2 := Lib.hid (byteF_new f frm L (ia, ib))
      have ne1 : ∀ q, q < w.heap.size + 7 → (Value.slice X L.length cx).ownBlock ≠ some q := fun q hq he => Nat.not_lt.2 (oX.lt _ he).1 hq
      have hsz := hbel.size
      have BP := Lib.hid bP
      have BE := Lib.hid bE
      have BB := Lib.hid bB
      have BW := Lib.hid bW
      clear bP bE bB bW
      have t1 : L.length ≤ 1099511627776 := by omega
      have t2 : (⟨w.heap.size + 1, 0, none⟩ : Addr).block < w.heap.size + 7 := by simp only; omega
      have t3 : (W.alloc (.cells #[.int .i64 ((ib : Int) - ia)] 3)).cell? ⟨W.heap.size, 0, none⟩ = some (.int .i64 (passF (L ++ [(ia, ib)]) L.length)) := by simp [hv1]
      have F1 : ∀ V : World, Below (w.heap.size + 7) W V → V.cell? ⟨w.heap.size + 1, 0, none⟩ = some (.slice X L.length cx) ∧ V.frozen? ⟨w.heap.size + 1, 0, none⟩ = false := fun V h => ⟨(h.cell (p := ⟨w.heap.size + 1, 0, none⟩) t2).trans xP, (h.frozen (p := ⟨w.heap.size + 1, 0, none⟩) t2).trans fP⟩
      have F1 := Lib.hid F1
      gi_wp2_with (gi_at_builtin; refine wpListIn_app1 W ((Below.refl _ _).alloc (Nat.le_refl _) _) (KeepsOthers.alloc _ _) rfl _ _ 26 rfl 3 int_info Try.underlying26 (w.heap.size + 7) X L.length cx _ rfl oX W.heap.size rfl t3 t1 hsz7 ?_; intro g1 cap1 W1 o1 st1 ko1; have c1 := (F1.out _ st1.below).1; have f1 := (F1.out _ st1.below).2)
      have bE := boxed_step (u := .slice (some ⟨g1, 0, none⟩) (L.length + 1) cap1) (r := w.heap.size + 1) BE.out st1.below (by omega) (by omega)
      have bB := boxed_step (u := .slice (some ⟨g1, 0, none⟩) (L.length + 1) cap1) (r := w.heap.size + 1) BB.out st1.below (by omega) (by omega)
      have bW := boxed_step (u := .slice (some ⟨g1, 0, none⟩) (L.length + 1) cap1) (r := w.heap.size + 1) BW.out st1.below (by omega) (by omega)
      have bP := boxed_here BP.out st1.below (by omega) (.slice (some ⟨g1, 0, none⟩) (L.length + 1) cap1)
      have oX1 := o1.other (a := ⟨w.heap.size + 1, 0, none⟩) (fun he => Nat.not_lt.2 (o1.lt _ he).1 (by simp only; omega)) (.slice (some ⟨g1, 0, none⟩) (L.length + 1) cap1)
      have oY1 := (st1.keep _ _ _ _ oY sXY).other (a := ⟨w.heap.size + 1, 0, none⟩) (fun he => Nat.not_lt.2 (oY.lt _ he).1 (by simp only; omega)) (.slice (some ⟨g1, 0, none⟩) (L.length + 1) cap1)
      have s1 := st1.sep _ _ _ _ oY sXY
      have ko := ko1.trans (KeepsOthers.setCell W1 ⟨w.heap.size + 1, 0, none⟩ (.slice (some ⟨g1, 0, none⟩) (L.length + 1) cap1))
      have kp : Keeps3 (w.heap.size + 4 + 1) (w.heap.size + 4 + 2) (w.heap.size + 4) W (W1.setCell ⟨w.heap.size + 1, 0, none⟩ (.slice (some ⟨g1, 0, none⟩) (L.length + 1) cap1)) := Keeps3.step st1.below (by omega) (by omega) (by omega) (by omega) (by omega) (by omega)
      have hbel1 := (hbel.trans (st1.below.mono (Nat.le_add_right _ _))).setCell (p := ⟨w.heap.size + 1, 0, none⟩) (Nat.le_add_right _ _) (.slice (some ⟨g1, 0, none⟩) (L.length + 1) cap1)
      have hsz8 : w.heap.size + 7 ≤ (W1.setCell ⟨w.heap.size + 1, 0, none⟩ (.slice (some ⟨g1, 0, none⟩) (L.length + 1) cap1)).heap.size := by have := st1.below.size; simp; omega
      generalize W1.setCell ⟨w.heap.size + 1, 0, none⟩ (.slice (some ⟨g1, 0, none⟩) (L.length + 1) cap1) = V1 at *
      clear BP BE BB BW xP fP oX oY o1 st1 ko1 c1 f1 hbel hsz7 hsz ne1
      obtain ⟨e0, eo, rfl, he0, hcv⟩ := (ha.below hbel1).at_ (show ib - 1 < m by omega)
      have hvE : valE f ib = f (ib - 1) := if_neg (by omega)
      have hy := HV2.out
      rw [hvE] at hy
      have vb := hf (ib - 1) (by omega)
      have wb := wasF_bd hf (Nat.le_trans hft hto) hL2
      have i1 : (0 : Int) ≤ (ib : Int) - 1 := by omega
      have i2 : ((ib : Int) - 1).toNat = ib - 1 := by omega
      have i3 : (ib : Int) - 1 < m := by omega
      have HW := Lib.hid (wasF_new f frm L (ia, ib))
      have swi : IntKind.i64.wrap ((ib : Int) - 1) = (ib : Int) - 1 := IntWalk.i64_in _ (by omega)
      have sw : IntKind.i64.wrap (f (ib - 1) - wasF f frm L) = f (ib - 1) - wasF f frm L := IntWalk.i64_in _ (by omega)
      have hS0 : V1.drew.cell? ⟨w.heap.size, 0, none⟩ = some (.slice (some ⟨e0, 0 + eo, none⟩) m c) ∧ V1.drew.cell? ⟨e0, eo + (ib - 1), none⟩ = some (.int .i64 (f (ib - 1))) ∧ V1.drew.cell? ⟨w.heap.size + 3, 0, none⟩ = some (.int .i64 (wasF f frm L)) := ⟨by rw [Nat.zero_add]; exact bE.cell, hcv, bW.cell⟩
      rw [Nat.zero_add] at hS0
      generalize f (ib - 1) = vv at *
      generalize wasF f frm L = wv at *
      refine round_region (by kernel_rfl) (by kernel_rfl) (fun V => V.cell? ⟨w.heap.size, 0, none⟩ = some (.slice (some ⟨e0, eo, none⟩) m c) ∧ V.cell? ⟨e0, eo + (ib - 1), none⟩ = some (.int .i64 vv) ∧ V.cell? ⟨w.heap.size + 3, 0, none⟩ = some (.int .i64 wv)) (fun _ _ h => h) (fun hS => ?_) hS0
      clear hS0
      refine wpAnyH_take (i := 1) (v := .slice (some ⟨e0, eo, none⟩) m c) rfl (by kernel_rfl) (by kernel_rfl) (by kernel_rfl) (fun _ _ _ h => h) (Or.inl ⟨by rfl, ?_⟩) hS ?_
      · intro V hV
        try dsimp only at hV
        go_simp
      simp only [Act.put, List.setIfInBounds_toArray, List.set_cons_zero, List.set_cons_succ]
      refine wpAnyH_take (i := 2) (v := .int .i64 ib) rfl (by kernel_rfl) (by kernel_rfl) (by kernel_rfl) (fun _ _ _ h => h) (Or.inl ⟨by rfl, ?_⟩) hS ?_
      · intro V hV
        try dsimp only at hV
        go_simp
      simp only [Act.put, List.setIfInBounds_toArray, List.set_cons_zero, List.set_cons_succ]
      refine wpAnyH_take (i := 3) (v := .int .i64 ((ib : Int) - 1)) rfl (by kernel_rfl) (by kernel_rfl) (by kernel_rfl) (fun _ _ _ h => h) (Or.inl ⟨by rfl, ?_⟩) hS ?_
      · intro V hV
        try dsimp only at hV
        go_simp
      simp only [Act.put, List.setIfInBounds_toArray, List.set_cons_zero, List.set_cons_succ]
      refine wpAnyH_take (i := 4) (v := .pointer (some ⟨e0, eo + (ib - 1), none⟩)) rfl (by kernel_rfl) (by kernel_rfl) (by kernel_rfl) (fun _ _ _ h => h) (Or.inl ⟨by rfl, ?_⟩) hS ?_
      · intro V hV
        try dsimp only at hV
        go_simp
        intro h
        exact absurd h (by omega)
      simp only [Act.put, List.setIfInBounds_toArray, List.set_cons_zero, List.set_cons_succ]
      refine wpAnyH_take (i := 5) (v := .int .i64 vv) rfl (by kernel_rfl) (by kernel_rfl) (by kernel_rfl) (fun _ _ _ h => h) (Or.inl ⟨by rfl, ?_⟩) hS ?_
      · intro V hV
        try dsimp only at hV
        go_simp
      simp only [Act.put, List.setIfInBounds_toArray, List.set_cons_zero, List.set_cons_succ]
      refine wpAnyH_take (i := 6) (v := .int .i64 wv) rfl (by kernel_rfl) (by kernel_rfl) (by kernel_rfl) (fun _ _ _ h => h) (Or.inl ⟨by rfl, ?_⟩) hS ?_
      · intro V hV
        try dsimp only at hV
        go_simp
      simp only [Act.put, List.setIfInBounds_toArray, List.set_cons_zero, List.set_cons_succ]
      refine wpAnyH_take (i := 7) (v := .int .i64 (vv - wv)) rfl (by kernel_rfl) (by kernel_rfl) (by kernel_rfl) (fun _ _ _ h => h) (Or.inl ⟨by rfl, ?_⟩) hS ?_
      · intro V hV
        try dsimp only at hV
        go_simp
      simp only [Act.put, List.setIfInBounds_toArray, List.set_cons_zero, List.set_cons_succ]
      have hbE : Boxed V1.drew w.heap.size 26 (.slice (some ⟨e0, eo, none⟩) m c) := bE
      have hbB : Boxed V1.drew (w.heap.size + 1 + 1) 26 (.slice Y L.length cy) := bB
      have hbW : Boxed V1.drew (w.heap.size + 3) 3 (.int .i64 wv) := bW
      have hbP : Boxed V1.drew (w.heap.size + 1) 26 (.slice (some ⟨g1, 0, none⟩) (L.length + 1) cap1) := bP
      have oX2 := oX1.drew
      have oY2 := oY1.drew
      have ko2 := ko.trans (KeepsOthers.drew V1)
      have kp2 : Keeps3 (w.heap.size + 4 + 1) (w.heap.size + 4 + 2) (w.heap.size + 4) W V1.drew := kp
      have hbel2 := hbel1.drew
      have hsz9 : w.heap.size + 7 ≤ V1.drew.heap.size := hsz8
      clear bE bB bW bP oX1 oY1 ko kp hbel1 hsz8 hcv
      generalize V1.drew = V2 at *
      have xB := hbB.cell
      have fB := hbB.frozen
      have hy1 : byteF f frm (L ++ [(ia, ib)]) L.length = vv - wv := hy
      have t5 : (V2.alloc (.cells #[.int .i64 (vv - wv)] 3)).cell? ⟨V2.heap.size, 0, none⟩ = some (.int .i64 (byteF f frm (L ++ [(ia, ib)]) L.length)) := by simp [hy1]
      refine wpAnyH_ready (rs := [0, 8]) (by kernel_rfl) (by simp) ?_
      refine AllReadyH.cons (by simp only [List.getElem?_toArray, List.getElem?_cons_succ, List.getElem?_cons_zero]; rfl) (fun K' hK' => ?_) (AllReadyH.cons (by simp only [List.getElem?_toArray, List.getElem?_cons_succ, List.getElem?_cons_zero]; rfl) (fun K' hK' => ?_) AllReadyH.nil)
      · go_simp
        refine hK'.out _ _ hS (fun _ => ?_)
        clear hK' K'
        try simp only [Act.put, List.setIfInBounds_toArray, List.set_cons_zero, List.set_cons_succ]
        refine wpAnyH_ready (rs := [8]) (by kernel_rfl) (by simp) ?_
        refine AllReadyH.cons (by simp only [List.getElem?_toArray, List.getElem?_cons_succ, List.getElem?_cons_zero]; rfl) (fun K' hK' => ?_) AllReadyH.nil
        go_simp
        refine hK'.out _ _ ⟨cell_al hS.1 _, cell_al hS.2.1 _, cell_al hS.2.2 _⟩ (fun _ => ?_)
        clear hK' K'
        try simp only [Act.put, List.setIfInBounds_toArray, List.set_cons_zero, List.set_cons_succ]
        refine wpAnyH_ready (rs := [9]) (by kernel_rfl) (by simp) ?_
        refine AllReadyH.cons (by simp only [List.getElem?_toArray, List.getElem?_cons_succ, List.getElem?_cons_zero]; rfl) (fun K' hK' => ?_) AllReadyH.nil
        refine step_app1K V2 ((Below.refl _ _).alloc (Nat.le_refl _) _) (KeepsOthers.alloc _ _) (by rfl) _ _ 26 (by rfl) 3 int_info Try.underlying26 (w.heap.size + 7) Y L.length cy _ (by rfl) oY2 V2.heap.size (by rfl) t5 t1 hsz9 ?_
        intro g2 cap2 W2 o2 st2 ko3
        have l1 : w.heap.size + 1 + 1 < w.heap.size + 7 := by omega
        have l2 : w.heap.size + 3 < w.heap.size + 7 := by omega
        have l0 : w.heap.size < w.heap.size + 7 := by omega
        have le0 : e0 < w.heap.size + 7 := by omega
        have hS3 : W2.cell? ⟨w.heap.size, 0, none⟩ = some (.slice (some ⟨e0, eo, none⟩) m c) ∧ W2.cell? ⟨e0, eo + (ib - 1), none⟩ = some (.int .i64 vv) ∧ W2.cell? ⟨w.heap.size + 3, 0, none⟩ = some (.int .i64 wv) :=
          ⟨(st2.below.cell (p := ⟨w.heap.size, 0, none⟩) l0).trans hS.1, (st2.below.cell (p := ⟨e0, eo + (ib - 1), none⟩) le0).trans hS.2.1, (st2.below.cell (p := ⟨w.heap.size + 3, 0, none⟩) l2).trans hS.2.2⟩
        refine hK'.out _ _ hS3 (fun _ => ?_)
        clear hK' K'
        try simp only [Act.put, List.setIfInBounds_toArray, List.set_cons_zero, List.set_cons_succ]
        have xB3 := (st2.below.cell (p := ⟨w.heap.size + 1 + 1, 0, none⟩) l1).trans xB
        have fB3 := (st2.below.frozen (p := ⟨w.heap.size + 1 + 1, 0, none⟩) l1).trans fB
        refine wpAnyH_ready (rs := [10]) (by kernel_rfl) (by simp) ?_
        refine AllReadyH.cons (by simp only [List.getElem?_toArray, List.getElem?_cons_succ, List.getElem?_cons_zero]; rfl) (fun K' hK' => ?_) AllReadyH.nil
        go_simp
        refine hK'.out _ _ ⟨(World.cell?_of_block (Below.heap_setCell W2 ⟨w.heap.size + 1 + 1, 0, none⟩ _ w.heap.size (by simp only; omega))).trans hS3.1, (World.cell?_of_block (Below.heap_setCell W2 ⟨w.heap.size + 1 + 1, 0, none⟩ _ e0 (by simp only; omega))).trans hS3.2.1, (World.cell?_of_block (Below.heap_setCell W2 ⟨w.heap.size + 1 + 1, 0, none⟩ _ (w.heap.size + 3) (by simp only; omega))).trans hS3.2.2⟩ (fun _ => ?_)
        clear hK' K'
        try simp only [Act.put, List.setIfInBounds_toArray, List.set_cons_zero, List.set_cons_succ]
        refine wpAnyH_done (by kernel_rfl) ?_ _
        have nY := Value.slice (some ⟨g2, 0, none⟩) (L.length + 1) cap2
        have bE3 := boxed_step (u := .slice (some ⟨g2, 0, none⟩) (L.length + 1) cap2) (r := w.heap.size + 1 + 1) hbE st2.below l0 (by omega)
        have bP3 := boxed_step (u := .slice (some ⟨g2, 0, none⟩) (L.length + 1) cap2) (r := w.heap.size + 1 + 1) hbP st2.below (by omega) (by omega)
        have bW3 := boxed_step (u := .slice (some ⟨g2, 0, none⟩) (L.length + 1) cap2) (r := w.heap.size + 1 + 1) hbW st2.below l2 (by omega)
        have bB3 := boxed_here hbB st2.below l1 (.slice (some ⟨g2, 0, none⟩) (L.length + 1) cap2)
        have oX3 := (st2.keep _ _ _ _ oX2 s1.symm).other (a := ⟨w.heap.size + 1 + 1, 0, none⟩) (fun he => Nat.not_lt.2 (oX2.lt _ he).1 (by simp only; omega)) (.slice (some ⟨g2, 0, none⟩) (L.length + 1) cap2)
        have oY3 := o2.other (a := ⟨w.heap.size + 1 + 1, 0, none⟩) (fun he => Nat.not_lt.2 (o2.lt _ he).1 (by simp only; omega)) (.slice (some ⟨g2, 0, none⟩) (L.length + 1) cap2)
        have s3 := (st2.sep _ _ _ _ oX2 s1.symm).symm
        have ko4 := (ko2.trans ko3).trans (KeepsOthers.setCell W2 ⟨w.heap.size + 1 + 1, 0, none⟩ (.slice (some ⟨g2, 0, none⟩) (L.length + 1) cap2))
        have kp4 := kp2.trans (Keeps3.step (r := w.heap.size + 1 + 1) (u := .slice (some ⟨g2, 0, none⟩) (L.length + 1) cap2) st2.below (by omega) (by omega) (by omega) (by omega) (by omega) (by omega))
        have hbel4 := (hbel2.trans (st2.below.mono (Nat.le_add_right _ _))).setCell (p := ⟨w.heap.size + 1 + 1, 0, none⟩) (by simp only; omega) (.slice (some ⟨g2, 0, none⟩) (L.length + 1) cap2)
        have hsz5 : w.heap.size + 7 ≤ (W2.setCell ⟨w.heap.size + 1 + 1, 0, none⟩ (.slice (some ⟨g2, 0, none⟩) (L.length + 1) cap2)).heap.size := by have := st2.below.size; simp; omega
        have ce3 : (W2.setCell ⟨w.heap.size + 1 + 1, 0, none⟩ (.slice (some ⟨g2, 0, none⟩) (L.length + 1) cap2)).cell? ⟨e0, eo + (ib - 1), none⟩ = some (.int .i64 vv) := (World.cell?_of_block (Below.heap_setCell W2 ⟨w.heap.size + 1 + 1, 0, none⟩ _ e0 (by simp only; omega))).trans hS3.2.1
        simp only [OnlyN]
        generalize W2.setCell ⟨w.heap.size + 1 + 1, 0, none⟩ (.slice (some ⟨g2, 0, none⟩) (L.length + 1) cap2) = V4 at *
        clear st2 o2 ko2 ko3 kp2 hbel2 hsz9 hbE hbB hbW hbP oX2 oY2 s1 hS3 xB3 fB3 xB fB hS t5 nY
        have xE4 := bE3.cell
        have xW4 := bW3.cell
        have fW4 := bW3.frozen
        gi_wp2
        have e1 : (L ++ [(ia, ib)]).length = L.length + 1 := by simp
        have ne5 : ∀ q, q ≠ w.heap.size + 3 → ∀ {T : TypeId} {v : Value}, Boxed V4 q T v → Boxed (V4.setCell ⟨w.heap.size + 3, 0, none⟩ (.int .i64 vv)) q T v := fun q hq T v h => (Below.heap_setCell V4 ⟨w.heap.size + 3, 0, none⟩ _ q hq).trans h
        refine ⟨ko4.trans (KeepsOthers.setCell _ _ _), kp4.trans (Keeps3.set_ (by omega) (by omega) (by omega)), ?_⟩
        unfold SegI
        rw [e1, HW.out]
        have hvE' : valE f ib = vv := hvE
        rw [hvE']
        exact ⟨some ⟨g1, 0, none⟩, some ⟨g2, 0, none⟩, cap1, cap2, ne5 _ (by omega) bE3, ne5 _ (by omega) bP3, ne5 _ (by omega) bB3, Boxed.set _ bW3,
          oX3.other (a := ⟨w.heap.size + 3, 0, none⟩) (fun he => Nat.not_lt.2 (oX3.lt _ he).1 (by simp only; omega)) _, oY3.other (a := ⟨w.heap.size + 3, 0, none⟩) (fun he => Nat.not_lt.2 (oY3.lt _ he).1 (by simp only; omega)) _, s3,
          hbel4.setCell (p := ⟨w.heap.size + 3, 0, none⟩) (by simp only; omega) _, by simp; omega⟩
      · go_simp
        refine hK'.out _ _ ⟨cell_al hS.1 _, cell_al hS.2.1 _, cell_al hS.2.2 _⟩ (fun _ => ?_)
        clear hK' K'
        try simp only [Act.put, List.setIfInBounds_toArray, List.set_cons_zero, List.set_cons_succ]
        refine wpAnyH_ready (rs := [0]) (by kernel_rfl) (by simp) ?_
        refine AllReadyH.cons (by simp only [List.getElem?_toArray, List.getElem?_cons_succ, List.getElem?_cons_zero]; rfl) (fun K' hK' => ?_) AllReadyH.nil
        have xB' := cell_al xB (.cells #[.int .i64 (vv - wv)] 3)
        go_simp
        refine hK'.out _ _ ⟨cell_al hS.1 _, cell_al hS.2.1 _, cell_al hS.2.2 _⟩ (fun _ => ?_)
        clear hK' K' xB'
        try simp only [Act.put, List.setIfInBounds_toArray, List.set_cons_zero, List.set_cons_succ]
        refine wpAnyH_ready (rs := [9]) (by kernel_rfl) (by simp) ?_
        refine AllReadyH.cons (by simp only [List.getElem?_toArray, List.getElem?_cons_succ, List.getElem?_cons_zero]; rfl) (fun K' hK' => ?_) AllReadyH.nil
        refine step_app1K V2 ((Below.refl _ _).alloc (Nat.le_refl _) _) (KeepsOthers.alloc _ _) (by rfl) _ _ 26 (by rfl) 3 int_info Try.underlying26 (w.heap.size + 7) Y L.length cy _ (by rfl) oY2 V2.heap.size (by rfl) t5 t1 hsz9 ?_
        intro g2 cap2 W2 o2 st2 ko3
        have l1 : w.heap.size + 1 + 1 < w.heap.size + 7 := by omega
        have l2 : w.heap.size + 3 < w.heap.size + 7 := by omega
        have l0 : w.heap.size < w.heap.size + 7 := by omega
        have le0 : e0 < w.heap.size + 7 := by omega
        have hS3 : W2.cell? ⟨w.heap.size, 0, none⟩ = some (.slice (some ⟨e0, eo, none⟩) m c) ∧ W2.cell? ⟨e0, eo + (ib - 1), none⟩ = some (.int .i64 vv) ∧ W2.cell? ⟨w.heap.size + 3, 0, none⟩ = some (.int .i64 wv) :=
          ⟨(st2.below.cell (p := ⟨w.heap.size, 0, none⟩) l0).trans hS.1, (st2.below.cell (p := ⟨e0, eo + (ib - 1), none⟩) le0).trans hS.2.1, (st2.below.cell (p := ⟨w.heap.size + 3, 0, none⟩) l2).trans hS.2.2⟩
        refine hK'.out _ _ hS3 (fun _ => ?_)
        clear hK' K'
        try simp only [Act.put, List.setIfInBounds_toArray, List.set_cons_zero, List.set_cons_succ]
        have xB3 := (st2.below.cell (p := ⟨w.heap.size + 1 + 1, 0, none⟩) l1).trans xB
        have fB3 := (st2.below.frozen (p := ⟨w.heap.size + 1 + 1, 0, none⟩) l1).trans fB
        refine wpAnyH_ready (rs := [10]) (by kernel_rfl) (by simp) ?_
        refine AllReadyH.cons (by simp only [List.getElem?_toArray, List.getElem?_cons_succ, List.getElem?_cons_zero]; rfl) (fun K' hK' => ?_) AllReadyH.nil
        go_simp
        refine hK'.out _ _ ⟨(World.cell?_of_block (Below.heap_setCell W2 ⟨w.heap.size + 1 + 1, 0, none⟩ _ w.heap.size (by simp only; omega))).trans hS3.1, (World.cell?_of_block (Below.heap_setCell W2 ⟨w.heap.size + 1 + 1, 0, none⟩ _ e0 (by simp only; omega))).trans hS3.2.1, (World.cell?_of_block (Below.heap_setCell W2 ⟨w.heap.size + 1 + 1, 0, none⟩ _ (w.heap.size + 3) (by simp only; omega))).trans hS3.2.2⟩ (fun _ => ?_)
        clear hK' K'
        try simp only [Act.put, List.setIfInBounds_toArray, List.set_cons_zero, List.set_cons_succ]
        refine wpAnyH_done (by kernel_rfl) ?_ _
        have nY := Value.slice (some ⟨g2, 0, none⟩) (L.length + 1) cap2
        have bE3 := boxed_step (u := .slice (some ⟨g2, 0, none⟩) (L.length + 1) cap2) (r := w.heap.size + 1 + 1) hbE st2.below l0 (by omega)
        have bP3 := boxed_step (u := .slice (some ⟨g2, 0, none⟩) (L.length + 1) cap2) (r := w.heap.size + 1 + 1) hbP st2.below (by omega) (by omega)
        have bW3 := boxed_step (u := .slice (some ⟨g2, 0, none⟩) (L.length + 1) cap2) (r := w.heap.size + 1 + 1) hbW st2.below l2 (by omega)
        have bB3 := boxed_here hbB st2.below l1 (.slice (some ⟨g2, 0, none⟩) (L.length + 1) cap2)
        have oX3 := (st2.keep _ _ _ _ oX2 s1.symm).other (a := ⟨w.heap.size + 1 + 1, 0, none⟩) (fun he => Nat.not_lt.2 (oX2.lt _ he).1 (by simp only; omega)) (.slice (some ⟨g2, 0, none⟩) (L.length + 1) cap2)
        have oY3 := o2.other (a := ⟨w.heap.size + 1 + 1, 0, none⟩) (fun he => Nat.not_lt.2 (o2.lt _ he).1 (by simp only; omega)) (.slice (some ⟨g2, 0, none⟩) (L.length + 1) cap2)
        have s3 := (st2.sep _ _ _ _ oX2 s1.symm).symm
        have ko4 := (ko2.trans ko3).trans (KeepsOthers.setCell W2 ⟨w.heap.size + 1 + 1, 0, none⟩ (.slice (some ⟨g2, 0, none⟩) (L.length + 1) cap2))
        have kp4 := kp2.trans (Keeps3.step (r := w.heap.size + 1 + 1) (u := .slice (some ⟨g2, 0, none⟩) (L.length + 1) cap2) st2.below (by omega) (by omega) (by omega) (by omega) (by omega) (by omega))
        have hbel4 := (hbel2.trans (st2.below.mono (Nat.le_add_right _ _))).setCell (p := ⟨w.heap.size + 1 + 1, 0, none⟩) (by simp only; omega) (.slice (some ⟨g2, 0, none⟩) (L.length + 1) cap2)
        have hsz5 : w.heap.size + 7 ≤ (W2.setCell ⟨w.heap.size + 1 + 1, 0, none⟩ (.slice (some ⟨g2, 0, none⟩) (L.length + 1) cap2)).heap.size := by have := st2.below.size; simp; omega
        have ce3 : (W2.setCell ⟨w.heap.size + 1 + 1, 0, none⟩ (.slice (some ⟨g2, 0, none⟩) (L.length + 1) cap2)).cell? ⟨e0, eo + (ib - 1), none⟩ = some (.int .i64 vv) := (World.cell?_of_block (Below.heap_setCell W2 ⟨w.heap.size + 1 + 1, 0, none⟩ _ e0 (by simp only; omega))).trans hS3.2.1
        simp only [OnlyN]
        generalize W2.setCell ⟨w.heap.size + 1 + 1, 0, none⟩ (.slice (some ⟨g2, 0, none⟩) (L.length + 1) cap2) = V4 at *
        clear st2 o2 ko2 ko3 kp2 hbel2 hsz9 hbE hbB hbW hbP oX2 oY2 s1 hS3 xB3 fB3 xB fB hS t5 nY
        have xE4 := bE3.cell
        have xW4 := bW3.cell
        have fW4 := bW3.frozen
        gi_wp2
        have e1 : (L ++ [(ia, ib)]).length = L.length + 1 := by simp
        have ne5 : ∀ q, q ≠ w.heap.size + 3 → ∀ {T : TypeId} {v : Value}, Boxed V4 q T v → Boxed (V4.setCell ⟨w.heap.size + 3, 0, none⟩ (.int .i64 vv)) q T v := fun q hq T v h => (Below.heap_setCell V4 ⟨w.heap.size + 3, 0, none⟩ _ q hq).trans h
        refine ⟨ko4.trans (KeepsOthers.setCell _ _ _), kp4.trans (Keeps3.set_ (by omega) (by omega) (by omega)), ?_⟩
        unfold SegI
        rw [e1, HW.out]
        have hvE' : valE f ib = vv := hvE
        rw [hvE']
        exact ⟨some ⟨g1, 0, none⟩, some ⟨g2, 0, none⟩, cap1, cap2, ne5 _ (by omega) bE3, ne5 _ (by omega) bP3, ne5 _ (by omega) bB3, Boxed.set _ bW3,
          oX3.other (a := ⟨w.heap.size + 3, 0, none⟩) (fun he => Nat.not_lt.2 (oX3.lt _ he).1 (by simp only; omega)) _, oY3.other (a := ⟨w.heap.size + 3, 0, none⟩) (fun he => Nat.not_lt.2 (oY3.lt _ he).1 (by simp only; omega)) _, s3,
          hbel4.setCell (p := ⟨w.heap.size + 3, 0, none⟩) (by simp only; omega) _, by simp; omega⟩
    case done =>
      rintro D xs W hD hxs ⟨X, Y, cx, cy, bE, bP, bB, bW, oX, oY, sXY, hbel, hsz7⟩ hK
      have hlen : (xs.map Subtype.val).length ≤ 1001 := by
        rw [hxs]
        have := piecesP_len (fun k => endsB t b k) to frm (to - frm)
        omega
      generalize hL : xs.map Subtype.val = L at *
      clear hL
      have HXS := Lib.hid hxs
      clear hxs
      have xP := bP.cell
      have xB := bB.cell
      have fP := bP.frozen
      have fB := bB.frozen
      have iX := oX.ints
      have iY := oY.ints
      have t1 : L.length ≤ 1099511627776 := by omega
      have pW : w.heap.size + 1 < W.heap.size := by omega
      have qW : w.heap.size + 1 + 1 < W.heap.size := by omega
      gi_wp2
      refine wpIn_wide.2 ?_
      go_region_law (first
        | (refine step_app0 (by rfl) _ _ 26 (by rfl) 3 int_info Try.underlying26 W.heap.size (by rfl) W.heap.size X L.length cx (passF L) (by rfl) iX.drew t1 (Nat.le_refl _) ?_; intro A1 k1 Wa oa ba; replace ba : Below W.heap.size W Wa := (Below.refl _ _).drew.trans ba; have xBa := (ba.cell (p := ⟨w.heap.size + 1 + 1, 0, none⟩) qW).trans xB; have iYa := iY.below ba; have sza := ba.size)
        | (refine step_app0 (by rfl) _ _ 26 (by rfl) 3 int_info Try.underlying26 Wa.heap.size (by rfl) W.heap.size Y L.length cy (byteF f frm L) (by rfl) iYa t1 (Nat.le_refl _) ?_; intro A2 k2 Wb ob bb; have bab := ba.trans (bb.mono sza); have xPb := (bab.cell (p := ⟨w.heap.size + 1, 0, none⟩) pW).trans xP; have xBb := (bab.cell (p := ⟨w.heap.size + 1 + 1, 0, none⟩) qW).trans xB; have fPb := (bab.frozen (p := ⟨w.heap.size + 1, 0, none⟩) pW).trans fP; have fBb := (bab.frozen (p := ⟨w.heap.size + 1 + 1, 0, none⟩) qW).trans fB))
      all_goals
        have dlt : D < W.heap.size := (Array.getElem?_eq_some_iff.1 hK).1
        have d7 : w.heap.size + 7 ≤ D := by omega
        have hK1 : ((Wb.setCell ⟨w.heap.size + 1, 0, none⟩ (.slice A1 L.length k1)).setCell ⟨w.heap.size + 1 + 1, 0, none⟩ (.slice A2 L.length k2)).heap[D]? = some (.deferred (some [])) :=
          (Below.heap_setCell _ ⟨w.heap.size + 1 + 1, 0, none⟩ _ D (by simp only; omega)).trans ((Below.heap_setCell _ ⟨w.heap.size + 1, 0, none⟩ _ D (by simp only; omega)).trans ((bab.block D dlt).trans hK))
        have bP5 : Boxed ((Wb.setCell ⟨w.heap.size + 1, 0, none⟩ (.slice A1 L.length k1)).setCell ⟨w.heap.size + 1 + 1, 0, none⟩ (.slice A2 L.length k2)) (w.heap.size + 1) 26 (.slice A1 L.length k1) :=
          (Below.heap_setCell _ ⟨w.heap.size + 1 + 1, 0, none⟩ _ (w.heap.size + 1) (by simp only; omega)).trans (Boxed.set _ ((bab.block (w.heap.size + 1) pW).trans bP))
        have bB5 : Boxed ((Wb.setCell ⟨w.heap.size + 1, 0, none⟩ (.slice A1 L.length k1)).setCell ⟨w.heap.size + 1 + 1, 0, none⟩ (.slice A2 L.length k2)) (w.heap.size + 1 + 1) 26 (.slice A2 L.length k2) :=
          Boxed.set _ ((Below.heap_setCell _ ⟨w.heap.size + 1, 0, none⟩ _ (w.heap.size + 1 + 1) (by simp only; omega)).trans ((bab.block (w.heap.size + 1 + 1) qW).trans bB))
        have oa1 := ((oa.below bb).other (a := ⟨w.heap.size + 1, 0, none⟩) (fun he => Nat.not_lt.2 (oa.lt _ he).1 pW) (.slice A1 L.length k1)).other (a := ⟨w.heap.size + 1 + 1, 0, none⟩) (fun he => Nat.not_lt.2 (oa.lt _ he).1 qW) (.slice A2 L.length k2)
        have ob1 := (ob.other (a := ⟨w.heap.size + 1, 0, none⟩) (fun he => Nat.not_lt.2 (ob.lt _ he).1 (Nat.lt_of_lt_of_le pW sza)) (.slice A1 L.length k1)).other (a := ⟨w.heap.size + 1 + 1, 0, none⟩) (fun he => Nat.not_lt.2 (ob.lt _ he).1 (Nat.lt_of_lt_of_le qW sza)) (.slice A2 L.length k2)
        have hbl6 : Below w.heap.size w ((Wb.setCell ⟨w.heap.size + 1, 0, none⟩ (.slice A1 L.length k1)).setCell ⟨w.heap.size + 1 + 1, 0, none⟩ (.slice A2 L.length k2)) := ((hbel.trans (bab.mono hbel.size)).setCell (p := ⟨w.heap.size + 1, 0, none⟩) (by simp only; omega) _).setCell (p := ⟨w.heap.size + 1 + 1, 0, none⟩) (by simp only; omega) _
        gi_wp2
        generalize ((Wb.setCell ⟨w.heap.size + 1, 0, none⟩ (.slice A1 L.length k1)).setCell ⟨w.heap.size + 1 + 1, 0, none⟩ (.slice A2 L.length k2)) = V6 at *
        refine ⟨by simp, .inl ⟨_, _, rfl, run_takeDeferred hK1, ?_⟩⟩
        have gp := grownBy_putObj' V6 D (.deferred none)
        have gn : ∀ r, some D = some r → ∃ o : Obj, V6.heap[r]? = some o ∧ o.isCells = false := fun r e => by cases e; exact ⟨_, hK1, rfl⟩
        have cP := cell_kept bP5.cell gp gn
        have cB := cell_kept bB5.cell gp gn
        have iA := (oa1.keptNC gp gn).ints
        have iB := (ob1.keptNC gp gn).ints
        have hbl7 := hbl6.grown gp hbl6.size (fun k hk => by cases hk; omega)
        refine ⟨.tuple #[.slice A1 L.length k1, .slice A2 L.length k2], ?_, A1, A2, k1, k2, L, HXS.out, rfl, iA, iB, hbl7⟩
        simp [results, Try.f13, go_sem, cP, cB]
    case stop =>
      rintro D cc pre W _ _ h _
      exact h.elim
  · have Q3 := Lib.hid q3
    clear q3
    obtain ⟨b0, o0, rfl, hb0, hc0⟩ := ((ha.below hbl1).more (Nat.le_trans (Nat.le_add_right _ _) (Nat.le_of_eq hsz1.symm))).at_ (show frm - 1 < m by omega)
    have i1 : (0 : Int) ≤ (frm : Int) - 1 := by omega
    have i2 : ((frm : Int) - 1).toNat = frm - 1 := by omega
    have i3 : (frm : Int) - 1 < m := by omega
    have hcw := cell_new'' W1 (.int .i64 0) 3 _ hsz1
    have hfw : (W1.alloc (.cells #[.int .i64 0] 3)).frozen? ⟨w.heap.size + 3, 0, none⟩ = false := by rw [← hsz1]; exact (Boxed.new W1 3 (.int .i64 0)).frozen
    have hc1 : (W1.alloc (.cells #[.int .i64 0] 3)).cell? ⟨b0, o0 + (frm - 1), none⟩ = some (.int .i64 (f (frm - 1))) := by rw [World.cell?_alloc_lt _ _ _ (World.block_lt_of_cell? _ _ hc0), hc0]
    gi_wp2_with fail
    have bE := bE1.alloc (.cells #[.int .i64 (f (frm - 1))] 3)
    have bP := bP1.alloc (.cells #[.int .i64 (f (frm - 1))] 3)
    have bB := bB1.alloc (.cells #[.int .i64 (f (frm - 1))] 3)
    have bW : Boxed (W1.alloc (.cells #[.int .i64 (f (frm - 1))] 3)) (w.heap.size + 3) 3 (.int .i64 (valE f frm)) := by rw [Q3.out, ← hsz1]; exact Boxed.new W1 3 (.int .i64 (f (frm - 1)))
    have hB2 := below_alloc hbl1 (.cells #[.int .i64 (f (frm - 1))] 3)
    have hs2 : (W1.alloc (.cells #[.int .i64 (f (frm - 1))] 3)).heap.size = w.heap.size + 4 := by rw [World.size_alloc, hsz1]
    generalize W1.alloc (.cells #[.int .i64 (f (frm - 1))] 3) = W2 at *
    clear bE1 bP1 bB1 hsz1 hbl1 xE Q3 q2 hcw hfw hc1 hc0 i1 i2 i3 q1 q4 hb0
    generalize hAA : (some ⟨b0, o0, none⟩ : Option Addr) = A at *
    clear hAA
    refine ⟨trivial, ?_⟩
    refine (callsIn_wide.2 (pieces_any _ _ _ _)).mono ?_
    rintro e w' ⟨rfl, rfl⟩
    rw [hs2]
    gi_wp2
    have bE := ((bE.alloc (.cells #[.int .i64 s] 3)).alloc (.cells #[.int .i64 frm] 3)).alloc (.cells #[.int .i64 to] 3)
    have bP := ((bP.alloc (.cells #[.int .i64 s] 3)).alloc (.cells #[.int .i64 frm] 3)).alloc (.cells #[.int .i64 to] 3)
    have bB := ((bB.alloc (.cells #[.int .i64 s] 3)).alloc (.cells #[.int .i64 frm] 3)).alloc (.cells #[.int .i64 to] 3)
    have bW := ((bW.alloc (.cells #[.int .i64 s] 3)).alloc (.cells #[.int .i64 frm] 3)).alloc (.cells #[.int .i64 to] 3)
    have hB3 := below_alloc (below_alloc (below_alloc hB2 (.cells #[.int .i64 s] 3)) (.cells #[.int .i64 frm] 3)) (.cells #[.int .i64 to] 3)
    have b4 := ((Boxed.new W2 3 (.int .i64 s)).alloc (.cells #[.int .i64 frm] 3)).alloc (.cells #[.int .i64 to] 3)
    have b5 := (Boxed.new (W2.alloc (.cells #[.int .i64 s] 3)) 3 (.int .i64 frm)).alloc (.cells #[.int .i64 to] 3)
    have b6 := Boxed.new ((W2.alloc (.cells #[.int .i64 s] 3)).alloc (.cells #[.int .i64 frm] 3)) 3 (.int .i64 to)
    rw [hs2] at b4
    rw [World.size_alloc, hs2] at b5
    rw [World.size_alloc, World.size_alloc, hs2] at b6
    have hs3 : (((W2.alloc (.cells #[.int .i64 s] 3)).alloc (.cells #[.int .i64 frm] 3)).alloc (.cells #[.int .i64 to] 3)).heap.size = w.heap.size + 7 := by simp [hs2]
    generalize ((W2.alloc (.cells #[.int .i64 s] 3)).alloc (.cells #[.int .i64 frm] 3)).alloc (.cells #[.int .i64 to] 3) = W3 at *
    clear hB2 hs2
    have hseq : SeqStopsK Fence.wide 3 Try.prog 21 #[.pointer (some ⟨w.heap.size + 4 + 1, 0, none⟩), .pointer (some ⟨w.heap.size + 4 + 2, 0, none⟩), .pointer (some ⟨w.heap.size + 4, 0, none⟩)] (encP to) (Keeps3 (w.heap.size + 4 + 1) (w.heap.size + 4 + 2) (w.heap.size + 4))
        (fun xs => xs.map Subtype.val = (piecesP (fun k => endsB t b k) to frm (to - frm)).1) (fun _ => True) (to + 1) W3 := fun l J Jx W hW _ _ hY h0 =>
      pieces1_in 3 (by omega) l _ _ _ s t b ENDS.out.1 ENDS.out.2 frm to (by omega) hft J Jx hY W ((hW.cell (p := ⟨w.heap.size + 4 + 1, 0, none⟩) b5.lt).trans b5.cell) ((hW.cell (p := ⟨w.heap.size + 4 + 2, 0, none⟩) b6.lt).trans b6.cell) ((hW.cell (p := ⟨w.heap.size + 4, 0, none⟩) b4.lt).trans b4.cell) h0
    refine' wpIn_rangeFunc_ownF rfl (by omega) rfl trivial (enters_of Try.func21 (by kernel_rfl) rfl) hseq Keeps3.trans (fun W l o o' hl ho hc _ => keeps3_put (by omega) (by omega) (by omega)) (Below.refl _ _) (fun _ => rfl)
      (fun pre W => SegI w A m c f frm 26 3 (pre.map Subtype.val) W) (fun _ _ _ => False) (segI_own (by omega)) (fun _ _ _ _ _ hs _ _ => hs) ?start _ ?assign ?body ?done ?stop
    case start => exact ⟨none, none, 0, 0, bE, bP, bB, bW, OwnI.nil_ _ _ _ _, OwnI.nil_ _ _ _ _, Sep.nil_ _, hB3, Nat.le_of_eq hs3.symm⟩
    case assign =>
      intro l x W K hK
      gi_wp2
      exact hK
    case body =>
      rintro l pre ⟨⟨ia, ib⟩, hab, hbt⟩ W ⟨X, Y, cx, cy, bE, bP, bB, bW, oX, oY, sXY, hbel, hsz7⟩ hlen
      have hLl : (pre.map Subtype.val).length = pre.length := List.length_map ..
      have hmapx : (pre ++ [(⟨(ia, ib), hab, hbt⟩ : Piece to)]).map Subtype.val = pre.map Subtype.val ++ [(ia, ib)] := by simp
      unfold ownPostK
      simp only [hmapx]
      have hL2 : ∀ y ∈ pre.map Subtype.val, y.2 ≤ m := by
        intro y hy
        obtain ⟨z, _, rfl⟩ := List.mem_map.1 hy
        exact Nat.le_trans z.2.2 hto
      generalize pre.map Subtype.val = L at *
      simp only at hab hbt
      have hLn : L.length ≤ 1001 := by omega
      clear hLl hmapx hlen
      have xP := bP.cell
      have fP := bP.frozen
      have oX := oX.congr (g := passF (L ++ [(ia, ib)])) (fun k hk => (passF_lt _ _ hk).symm)
      have oY := oY.congr (g := byteF f frm (L ++ [(ia, ib)])) (fun k hk => (byteF_lt _ _ _ _ hk).symm)
      have hv1 : passF (L ++ [(ia, ib)]) L.length = (ib : Int) - ia := passF_new _ _
      have HV2 := Lib.hid (byteF_new f frm L (ia, ib))
      have ne1 : ∀ q, q < w.heap.size + 7 → (Value.slice X L.length cx).ownBlock ≠ some q := fun q hq he => Nat.not_lt.2 (oX.lt _ he).1 hq
      have hsz := hbel.size
      have BP := Lib.hid bP
      have BE := Lib.hid bE
      have BB := Lib.hid bB
      have BW := Lib.hid bW
      clear bP bE bB bW
      have t1 : L.length ≤ 1099511627776 := by omega
      have t2 : (⟨w.heap.size + 1, 0, none⟩ : Addr).block < w.heap.size + 7 := by simp only; omega
      have t3 : (W.alloc (.cells #[.int .i64 ((ib : Int) - ia)] 3)).cell? ⟨W.heap.size, 0, none⟩ = some (.int .i64 (passF (L ++ [(ia, ib)]) L.length)) := by simp [hv1]
      have F1 : ∀ V : World, Below (w.heap.size + 7) W V → V.cell? ⟨w.heap.size + 1, 0, none⟩ = some (.slice X L.length cx) ∧ V.frozen? ⟨w.heap.size + 1, 0, none⟩ = false := fun V h => ⟨(h.cell (p := ⟨w.heap.size + 1, 0, none⟩) t2).trans xP, (h.frozen (p := ⟨w.heap.size + 1, 0, none⟩) t2).trans fP⟩
      have F1 := Lib.hid F1
      gi_wp2_with (gi_at_builtin; refine wpListIn_app1 W ((Below.refl _ _).alloc (Nat.le_refl _) _) (KeepsOthers.alloc _ _) rfl _ _ 26 rfl 3 int_info Try.underlying26 (w.heap.size + 7) X L.length cx _ rfl oX W.heap.size rfl t3 t1 hsz7 ?_; intro g1 cap1 W1 o1 st1 ko1; have c1 := (F1.out _ st1.below).1; have f1 := (F1.out _ st1.below).2)
      have bE := boxed_step (u := .slice (some ⟨g1, 0, none⟩) (L.length + 1) cap1) (r := w.heap.size + 1) BE.out st1.below (by omega) (by omega)
      have bB := boxed_step (u := .slice (some ⟨g1, 0, none⟩) (L.length + 1) cap1) (r := w.heap.size + 1) BB.out st1.below (by omega) (by omega)
      have bW := boxed_step (u := .slice (some ⟨g1, 0, none⟩) (L.length + 1) cap1) (r := w.heap.size + 1) BW.out st1.below (by omega) (by omega)
      have bP := boxed_here BP.out st1.below (by omega) (.slice (some ⟨g1, 0, none⟩) (L.length + 1) cap1)
      have oX1 := o1.other (a := ⟨w.heap.size + 1, 0, none⟩) (fun he => Nat.not_lt.2 (o1.lt _ he).1 (by simp only; omega)) (.slice (some ⟨g1, 0, none⟩) (L.length + 1) cap1)
      have oY1 := (st1.keep _ _ _ _ oY sXY).other (a := ⟨w.heap.size + 1, 0, none⟩) (fun he => Nat.not_lt.2 (oY.lt _ he).1 (by simp only; omega)) (.slice (some ⟨g1, 0, none⟩) (L.length + 1) cap1)
      have s1 := st1.sep _ _ _ _ oY sXY
      have ko := ko1.trans (KeepsOthers.setCell W1 ⟨w.heap.size + 1, 0, none⟩ (.slice (some ⟨g1, 0, none⟩) (L.length + 1) cap1))
      have kp : Keeps3 (w.heap.size + 4 + 1) (w.heap.size + 4 + 2) (w.heap.size + 4) W (W1.setCell ⟨w.heap.size + 1, 0, none⟩ (.slice (some ⟨g1, 0, none⟩) (L.length + 1) cap1)) := Keeps3.step st1.below (by omega) (by omega) (by omega) (by omega) (by omega) (by omega)
      have hbel1 := (hbel.trans (st1.below.mono (Nat.le_add_right _ _))).setCell (p := ⟨w.heap.size + 1, 0, none⟩) (Nat.le_add_right _ _) (.slice (some ⟨g1, 0, none⟩) (L.length + 1) cap1)
      have hsz8 : w.heap.size + 7 ≤ (W1.setCell ⟨w.heap.size + 1, 0, none⟩ (.slice (some ⟨g1, 0, none⟩) (L.length + 1) cap1)).heap.size := by have := st1.below.size; simp; omega
      generalize W1.setCell ⟨w.heap.size + 1, 0, none⟩ (.slice (some ⟨g1, 0, none⟩) (L.length + 1) cap1) = V1 at *
      clear BP BE BB BW xP fP oX oY o1 st1 ko1 c1 f1 hbel hsz7 hsz ne1
      obtain ⟨e0, eo, rfl, he0, hcv⟩ := (ha.below hbel1).at_ (show ib - 1 < m by omega)
      have hvE : valE f ib = f (ib - 1) := if_neg (by omega)
      have hy := HV2.out
      rw [hvE] at hy
      have vb := hf (ib - 1) (by omega)
      have wb := wasF_bd hf (Nat.le_trans hft hto) hL2
      have i1 : (0 : Int) ≤ (ib : Int) - 1 := by omega
      have i2 : ((ib : Int) - 1).toNat = ib - 1 := by omega
      have i3 : (ib : Int) - 1 < m := by omega
      have HW := Lib.hid (wasF_new f frm L (ia, ib))
      have swi : IntKind.i64.wrap ((ib : Int) - 1) = (ib : Int) - 1 := IntWalk.i64_in _ (by omega)
      have sw : IntKind.i64.wrap (f (ib - 1) - wasF f frm L) = f (ib - 1) - wasF f frm L := IntWalk.i64_in _ (by omega)
      have hS0 : V1.drew.cell? ⟨w.heap.size, 0, none⟩ = some (.slice (some ⟨e0, 0 + eo, none⟩) m c) ∧ V1.drew.cell? ⟨e0, eo + (ib - 1), none⟩ = some (.int .i64 (f (ib - 1))) ∧ V1.drew.cell? ⟨w.heap.size + 3, 0, none⟩ = some (.int .i64 (wasF f frm L)) := ⟨by rw [Nat.zero_add]; exact bE.cell, hcv, bW.cell⟩
      rw [Nat.zero_add] at hS0
      generalize f (ib - 1) = vv at *
      generalize wasF f frm L = wv at *
      refine round_region (by kernel_rfl) (by kernel_rfl) (fun V => V.cell? ⟨w.heap.size, 0, none⟩ = some (.slice (some ⟨e0, eo, none⟩) m c) ∧ V.cell? ⟨e0, eo + (ib - 1), none⟩ = some (.int .i64 vv) ∧ V.cell? ⟨w.heap.size + 3, 0, none⟩ = some (.int .i64 wv)) (fun _ _ h => h) (fun hS => ?_) hS0
      clear hS0
      refine wpAnyH_take (i := 1) (v := .slice (some ⟨e0, eo, none⟩) m c) rfl (by kernel_rfl) (by kernel_rfl) (by kernel_rfl) (fun _ _ _ h => h) (Or.inl ⟨by rfl, ?_⟩) hS ?_
      · intro V hV
        try dsimp only at hV
        go_simp
      simp only [Act.put, List.setIfInBounds_toArray, List.set_cons_zero, List.set_cons_succ]
      refine wpAnyH_take (i := 2) (v := .int .i64 ib) rfl (by kernel_rfl) (by kernel_rfl) (by kernel_rfl) (fun _ _ _ h => h) (Or.inl ⟨by rfl, ?_⟩) hS ?_
      · intro V hV
        try dsimp only at hV
        go_simp
      simp only [Act.put, List.setIfInBounds_toArray, List.set_cons_zero, List.set_cons_succ]
      refine wpAnyH_take (i := 3) (v := .int .i64 ((ib : Int) - 1)) rfl (by kernel_rfl) (by kernel_rfl) (by kernel_rfl) (fun _ _ _ h => h) (Or.inl ⟨by rfl, ?_⟩) hS ?_
      · intro V hV
        try dsimp only at hV
        go_simp
      simp only [Act.put, List.setIfInBounds_toArray, List.set_cons_zero, List.set_cons_succ]
      refine wpAnyH_take (i := 4) (v := .pointer (some ⟨e0, eo + (ib - 1), none⟩)) rfl (by kernel_rfl) (by kernel_rfl) (by kernel_rfl) (fun _ _ _ h => h) (Or.inl ⟨by rfl, ?_⟩) hS ?_
      · intro V hV
        try dsimp only at hV
        go_simp
        intro h
        exact absurd h (by omega)
      simp only [Act.put, List.setIfInBounds_toArray, List.set_cons_zero, List.set_cons_succ]
      refine wpAnyH_take (i := 5) (v := .int .i64 vv) rfl (by kernel_rfl) (by kernel_rfl) (by kernel_rfl) (fun _ _ _ h => h) (Or.inl ⟨by rfl, ?_⟩) hS ?_
      · intro V hV
        try dsimp only at hV
        go_simp
      simp only [Act.put, List.setIfInBounds_toArray, List.set_cons_zero, List.set_cons_succ]
      refine wpAnyH_take (i := 6) (v := .int .i64 wv) rfl (by kernel_rfl) (by kernel_rfl) (by kernel_rfl) (fun _ _ _ h => h) (Or.inl ⟨by rfl, ?_⟩) hS ?_
      · intro V hV
        try dsimp only at hV
        go_simp
      simp only [Act.put, List.setIfInBounds_toArray, List.set_cons_zero, List.set_cons_succ]
      refine wpAnyH_take (i := 7) (v := .int .i64 (vv - wv)) rfl (by kernel_rfl) (by kernel_rfl) (by kernel_rfl) (fun _ _ _ h => h) (Or.inl ⟨by rfl, ?_⟩) hS ?_
      · intro V hV
        try dsimp only at hV
        go_simp
      simp only [Act.put, List.setIfInBounds_toArray, List.set_cons_zero, List.set_cons_succ]
      have hbE : Boxed V1.drew w.heap.size 26 (.slice (some ⟨e0, eo, none⟩) m c) := bE
      have hbB : Boxed V1.drew (w.heap.size + 1 + 1) 26 (.slice Y L.length cy) := bB
      have hbW : Boxed V1.drew (w.heap.size + 3) 3 (.int .i64 wv) := bW
      have hbP : Boxed V1.drew (w.heap.size + 1) 26 (.slice (some ⟨g1, 0, none⟩) (L.length + 1) cap1) := bP
      have oX2 := oX1.drew
      have oY2 := oY1.drew
      have ko2 := ko.trans (KeepsOthers.drew V1)
      have kp2 : Keeps3 (w.heap.size + 4 + 1) (w.heap.size + 4 + 2) (w.heap.size + 4) W V1.drew := kp
      have hbel2 := hbel1.drew
      have hsz9 : w.heap.size + 7 ≤ V1.drew.heap.size := hsz8
      clear bE bB bW bP oX1 oY1 ko kp hbel1 hsz8 hcv
      generalize V1.drew = V2 at *
      have xB := hbB.cell
      have fB := hbB.frozen
      have hy1 : byteF f frm (L ++ [(ia, ib)]) L.length = vv - wv := hy
      have t5 : (V2.alloc (.cells #[.int .i64 (vv - wv)] 3)).cell? ⟨V2.heap.size, 0, none⟩ = some (.int .i64 (byteF f frm (L ++ [(ia, ib)]) L.length)) := by simp [hy1]
      refine wpAnyH_ready (rs := [0, 8]) (by kernel_rfl) (by simp) ?_
      refine AllReadyH.cons (by simp only [List.getElem?_toArray, List.getElem?_cons_succ, List.getElem?_cons_zero]; rfl) (fun K' hK' => ?_) (AllReadyH.cons (by simp only [List.getElem?_toArray, List.getElem?_cons_succ, List.getElem?_cons_zero]; rfl) (fun K' hK' => ?_) AllReadyH.nil)
      · go_simp
        refine hK'.out _ _ hS (fun _ => ?_)
        clear hK' K'
        try simp only [Act.put, List.setIfInBounds_toArray, List.set_cons_zero, List.set_cons_succ]
        refine wpAnyH_ready (rs := [8]) (by kernel_rfl) (by simp) ?_
        refine AllReadyH.cons (by simp only [List.getElem?_toArray, List.getElem?_cons_succ, List.getElem?_cons_zero]; rfl) (fun K' hK' => ?_) AllReadyH.nil
        go_simp
        refine hK'.out _ _ ⟨cell_al hS.1 _, cell_al hS.2.1 _, cell_al hS.2.2 _⟩ (fun _ => ?_)
        clear hK' K'
        try simp only [Act.put, List.setIfInBounds_toArray, List.set_cons_zero, List.set_cons_succ]
        refine wpAnyH_ready (rs := [9]) (by kernel_rfl) (by simp) ?_
        refine AllReadyH.cons (by simp only [List.getElem?_toArray, List.getElem?_cons_succ, List.getElem?_cons_zero]; rfl) (fun K' hK' => ?_) AllReadyH.nil
        refine step_app1K V2 ((Below.refl _ _).alloc (Nat.le_refl _) _) (KeepsOthers.alloc _ _) (by rfl) _ _ 26 (by rfl) 3 int_info Try.underlying26 (w.heap.size + 7) Y L.length cy _ (by rfl) oY2 V2.heap.size (by rfl) t5 t1 hsz9 ?_
        intro g2 cap2 W2 o2 st2 ko3
        have l1 : w.heap.size + 1 + 1 < w.heap.size + 7 := by omega
        have l2 : w.heap.size + 3 < w.heap.size + 7 := by omega
        have l0 : w.heap.size < w.heap.size + 7 := by omega
        have le0 : e0 < w.heap.size + 7 := by omega
        have hS3 : W2.cell? ⟨w.heap.size, 0, none⟩ = some (.slice (some ⟨e0, eo, none⟩) m c) ∧ W2.cell? ⟨e0, eo + (ib - 1), none⟩ = some (.int .i64 vv) ∧ W2.cell? ⟨w.heap.size + 3, 0, none⟩ = some (.int .i64 wv) :=
          ⟨(st2.below.cell (p := ⟨w.heap.size, 0, none⟩) l0).trans hS.1, (st2.below.cell (p := ⟨e0, eo + (ib - 1), none⟩) le0).trans hS.2.1, (st2.below.cell (p := ⟨w.heap.size + 3, 0, none⟩) l2).trans hS.2.2⟩
        refine hK'.out _ _ hS3 (fun _ => ?_)
        clear hK' K'
        try simp only [Act.put, List.setIfInBounds_toArray, List.set_cons_zero, List.set_cons_succ]
        have xB3 := (st2.below.cell (p := ⟨w.heap.size + 1 + 1, 0, none⟩) l1).trans xB
        have fB3 := (st2.below.frozen (p := ⟨w.heap.size + 1 + 1, 0, none⟩) l1).trans fB
        refine wpAnyH_ready (rs := [10]) (by kernel_rfl) (by simp) ?_
        refine AllReadyH.cons (by simp only [List.getElem?_toArray, List.getElem?_cons_succ, List.getElem?_cons_zero]; rfl) (fun K' hK' => ?_) AllReadyH.nil
        go_simp
        refine hK'.out _ _ ⟨(World.cell?_of_block (Below.heap_setCell W2 ⟨w.heap.size + 1 + 1, 0, none⟩ _ w.heap.size (by simp only; omega))).trans hS3.1, (World.cell?_of_block (Below.heap_setCell W2 ⟨w.heap.size + 1 + 1, 0, none⟩ _ e0 (by simp only; omega))).trans hS3.2.1, (World.cell?_of_block (Below.heap_setCell W2 ⟨w.heap.size + 1 + 1, 0, none⟩ _ (w.heap.size + 3) (by simp only; omega))).trans hS3.2.2⟩ (fun _ => ?_)
        clear hK' K'
        try simp only [Act.put, List.setIfInBounds_toArray, List.set_cons_zero, List.set_cons_succ]
        refine wpAnyH_done (by kernel_rfl) ?_ _
        have nY := Value.slice (some ⟨g2, 0, none⟩) (L.length + 1) cap2
        have bE3 := boxed_step (u := .slice (some ⟨g2, 0, none⟩) (L.length + 1) cap2) (r := w.heap.size + 1 + 1) hbE st2.below l0 (by omega)
        have bP3 := boxed_step (u := .slice (some ⟨g2, 0, none⟩) (L.length + 1) cap2) (r := w.heap.size + 1 + 1) hbP st2.below (by omega) (by omega)
        have bW3 := boxed_step (u := .slice (some ⟨g2, 0, none⟩) (L.length + 1) cap2) (r := w.heap.size + 1 + 1) hbW st2.below l2 (by omega)
        have bB3 := boxed_here hbB st2.below l1 (.slice (some ⟨g2, 0, none⟩) (L.length + 1) cap2)
        have oX3 := (st2.keep _ _ _ _ oX2 s1.symm).other (a := ⟨w.heap.size + 1 + 1, 0, none⟩) (fun he => Nat.not_lt.2 (oX2.lt _ he).1 (by simp only; omega)) (.slice (some ⟨g2, 0, none⟩) (L.length + 1) cap2)
        have oY3 := o2.other (a := ⟨w.heap.size + 1 + 1, 0, none⟩) (fun he => Nat.not_lt.2 (o2.lt _ he).1 (by simp only; omega)) (.slice (some ⟨g2, 0, none⟩) (L.length + 1) cap2)
        have s3 := (st2.sep _ _ _ _ oX2 s1.symm).symm
        have ko4 := (ko2.trans ko3).trans (KeepsOthers.setCell W2 ⟨w.heap.size + 1 + 1, 0, none⟩ (.slice (some ⟨g2, 0, none⟩) (L.length + 1) cap2))
        have kp4 := kp2.trans (Keeps3.step (r := w.heap.size + 1 + 1) (u := .slice (some ⟨g2, 0, none⟩) (L.length + 1) cap2) st2.below (by omega) (by omega) (by omega) (by omega) (by omega) (by omega))
        have hbel4 := (hbel2.trans (st2.below.mono (Nat.le_add_right _ _))).setCell (p := ⟨w.heap.size + 1 + 1, 0, none⟩) (by simp only; omega) (.slice (some ⟨g2, 0, none⟩) (L.length + 1) cap2)
        have hsz5 : w.heap.size + 7 ≤ (W2.setCell ⟨w.heap.size + 1 + 1, 0, none⟩ (.slice (some ⟨g2, 0, none⟩) (L.length + 1) cap2)).heap.size := by have := st2.below.size; simp; omega
        have ce3 : (W2.setCell ⟨w.heap.size + 1 + 1, 0, none⟩ (.slice (some ⟨g2, 0, none⟩) (L.length + 1) cap2)).cell? ⟨e0, eo + (ib - 1), none⟩ = some (.int .i64 vv) := (World.cell?_of_block (Below.heap_setCell W2 ⟨w.heap.size + 1 + 1, 0, none⟩ _ e0 (by simp only; omega))).trans hS3.2.1
        simp only [OnlyN]
        generalize W2.setCell ⟨w.heap.size + 1 + 1, 0, none⟩ (.slice (some ⟨g2, 0, none⟩) (L.length + 1) cap2) = V4 at *
        clear st2 o2 ko2 ko3 kp2 hbel2 hsz9 hbE hbB hbW hbP oX2 oY2 s1 hS3 xB3 fB3 xB fB hS t5 nY
        have xE4 := bE3.cell
        have xW4 := bW3.cell
        have fW4 := bW3.frozen
        gi_wp2
        have e1 : (L ++ [(ia, ib)]).length = L.length + 1 := by simp
        have ne5 : ∀ q, q ≠ w.heap.size + 3 → ∀ {T : TypeId} {v : Value}, Boxed V4 q T v → Boxed (V4.setCell ⟨w.heap.size + 3, 0, none⟩ (.int .i64 vv)) q T v := fun q hq T v h => (Below.heap_setCell V4 ⟨w.heap.size + 3, 0, none⟩ _ q hq).trans h
        refine ⟨ko4.trans (KeepsOthers.setCell _ _ _), kp4.trans (Keeps3.set_ (by omega) (by omega) (by omega)), ?_⟩
        unfold SegI
        rw [e1, HW.out]
        have hvE' : valE f ib = vv := hvE
        rw [hvE']
        exact ⟨some ⟨g1, 0, none⟩, some ⟨g2, 0, none⟩, cap1, cap2, ne5 _ (by omega) bE3, ne5 _ (by omega) bP3, ne5 _ (by omega) bB3, Boxed.set _ bW3,
          oX3.other (a := ⟨w.heap.size + 3, 0, none⟩) (fun he => Nat.not_lt.2 (oX3.lt _ he).1 (by simp only; omega)) _, oY3.other (a := ⟨w.heap.size + 3, 0, none⟩) (fun he => Nat.not_lt.2 (oY3.lt _ he).1 (by simp only; omega)) _, s3,
          hbel4.setCell (p := ⟨w.heap.size + 3, 0, none⟩) (by simp only; omega) _, by simp; omega⟩
      · go_simp
        refine hK'.out _ _ ⟨cell_al hS.1 _, cell_al hS.2.1 _, cell_al hS.2.2 _⟩ (fun _ => ?_)
        clear hK' K'
        try simp only [Act.put, List.setIfInBounds_toArray, List.set_cons_zero, List.set_cons_succ]
        refine wpAnyH_ready (rs := [0]) (by kernel_rfl) (by simp) ?_
        refine AllReadyH.cons (by simp only [List.getElem?_toArray, List.getElem?_cons_succ, List.getElem?_cons_zero]; rfl) (fun K' hK' => ?_) AllReadyH.nil
        have xB' := cell_al xB (.cells #[.int .i64 (vv - wv)] 3)
        go_simp
        refine hK'.out _ _ ⟨cell_al hS.1 _, cell_al hS.2.1 _, cell_al hS.2.2 _⟩ (fun _ => ?_)
        clear hK' K' xB'
        try simp only [Act.put, List.setIfInBounds_toArray, List.set_cons_zero, List.set_cons_succ]
        refine wpAnyH_ready (rs := [9]) (by kernel_rfl) (by simp) ?_
        refine AllReadyH.cons (by simp only [List.getElem?_toArray, List.getElem?_cons_succ, List.getElem?_cons_zero]; rfl) (fun K' hK' => ?_) AllReadyH.nil
        refine step_app1K V2 ((Below.refl _ _).alloc (Nat.le_refl _) _) (KeepsOthers.alloc _ _) (by rfl) _ _ 26 (by rfl) 3 int_info Try.underlying26 (w.heap.size + 7) Y L.length cy _ (by rfl) oY2 V2.heap.size (by rfl) t5 t1 hsz9 ?_
        intro g2 cap2 W2 o2 st2 ko3
        have l1 : w.heap.size + 1 + 1 < w.heap.size + 7 := by omega
        have l2 : w.heap.size + 3 < w.heap.size + 7 := by omega
        have l0 : w.heap.size < w.heap.size + 7 := by omega
        have le0 : e0 < w.heap.size + 7 := by omega
        have hS3 : W2.cell? ⟨w.heap.size, 0, none⟩ = some (.slice (some ⟨e0, eo, none⟩) m c) ∧ W2.cell? ⟨e0, eo + (ib - 1), none⟩ = some (.int .i64 vv) ∧ W2.cell? ⟨w.heap.size + 3, 0, none⟩ = some (.int .i64 wv) :=
          ⟨(st2.below.cell (p := ⟨w.heap.size, 0, none⟩) l0).trans hS.1, (st2.below.cell (p := ⟨e0, eo + (ib - 1), none⟩) le0).trans hS.2.1, (st2.below.cell (p := ⟨w.heap.size + 3, 0, none⟩) l2).trans hS.2.2⟩
        refine hK'.out _ _ hS3 (fun _ => ?_)
        clear hK' K'
        try simp only [Act.put, List.setIfInBounds_toArray, List.set_cons_zero, List.set_cons_succ]
        have xB3 := (st2.below.cell (p := ⟨w.heap.size + 1 + 1, 0, none⟩) l1).trans xB
        have fB3 := (st2.below.frozen (p := ⟨w.heap.size + 1 + 1, 0, none⟩) l1).trans fB
        refine wpAnyH_ready (rs := [10]) (by kernel_rfl) (by simp) ?_
        refine AllReadyH.cons (by simp only [List.getElem?_toArray, List.getElem?_cons_succ, List.getElem?_cons_zero]; rfl) (fun K' hK' => ?_) AllReadyH.nil
        go_simp
        refine hK'.out _ _ ⟨(World.cell?_of_block (Below.heap_setCell W2 ⟨w.heap.size + 1 + 1, 0, none⟩ _ w.heap.size (by simp only; omega))).trans hS3.1, (World.cell?_of_block (Below.heap_setCell W2 ⟨w.heap.size + 1 + 1, 0, none⟩ _ e0 (by simp only; omega))).trans hS3.2.1, (World.cell?_of_block (Below.heap_setCell W2 ⟨w.heap.size + 1 + 1, 0, none⟩ _ (w.heap.size + 3) (by simp only; omega))).trans hS3.2.2⟩ (fun _ => ?_)
        clear hK' K'
        try simp only [Act.put, List.setIfInBounds_toArray, List.set_cons_zero, List.set_cons_succ]
        refine wpAnyH_done (by kernel_rfl) ?_ _
        have nY := Value.slice (some ⟨g2, 0, none⟩) (L.length + 1) cap2
        have bE3 := boxed_step (u := .slice (some ⟨g2, 0, none⟩) (L.length + 1) cap2) (r := w.heap.size + 1 + 1) hbE st2.below l0 (by omega)
        have bP3 := boxed_step (u := .slice (some ⟨g2, 0, none⟩) (L.length + 1) cap2) (r := w.heap.size + 1 + 1) hbP st2.below (by omega) (by omega)
        have bW3 := boxed_step (u := .slice (some ⟨g2, 0, none⟩) (L.length + 1) cap2) (r := w.heap.size + 1 + 1) hbW st2.below l2 (by omega)
        have bB3 := boxed_here hbB st2.below l1 (.slice (some ⟨g2, 0, none⟩) (L.length + 1) cap2)
        have oX3 := (st2.keep _ _ _ _ oX2 s1.symm).other (a := ⟨w.heap.size + 1 + 1, 0, none⟩) (fun he => Nat.not_lt.2 (oX2.lt _ he).1 (by simp only; omega)) (.slice (some ⟨g2, 0, none⟩) (L.length + 1) cap2)
        have oY3 := o2.other (a := ⟨w.heap.size + 1 + 1, 0, none⟩) (fun he => Nat.not_lt.2 (o2.lt _ he).1 (by simp only; omega)) (.slice (some ⟨g2, 0, none⟩) (L.length + 1) cap2)
        have s3 := (st2.sep _ _ _ _ oX2 s1.symm).symm
        have ko4 := (ko2.trans ko3).trans (KeepsOthers.setCell W2 ⟨w.heap.size + 1 + 1, 0, none⟩ (.slice (some ⟨g2, 0, none⟩) (L.length + 1) cap2))
        have kp4 := kp2.trans (Keeps3.step (r := w.heap.size + 1 + 1) (u := .slice (some ⟨g2, 0, none⟩) (L.length + 1) cap2) st2.below (by omega) (by omega) (by omega) (by omega) (by omega) (by omega))
        have hbel4 := (hbel2.trans (st2.below.mono (Nat.le_add_right _ _))).setCell (p := ⟨w.heap.size + 1 + 1, 0, none⟩) (by simp only; omega) (.slice (some ⟨g2, 0, none⟩) (L.length + 1) cap2)
        have hsz5 : w.heap.size + 7 ≤ (W2.setCell ⟨w.heap.size + 1 + 1, 0, none⟩ (.slice (some ⟨g2, 0, none⟩) (L.length + 1) cap2)).heap.size := by have := st2.below.size; simp; omega
        have ce3 : (W2.setCell ⟨w.heap.size + 1 + 1, 0, none⟩ (.slice (some ⟨g2, 0, none⟩) (L.length + 1) cap2)).cell? ⟨e0, eo + (ib - 1), none⟩ = some (.int .i64 vv) := (World.cell?_of_block (Below.heap_setCell W2 ⟨w.heap.size + 1 + 1, 0, none⟩ _ e0 (by simp only; omega))).trans hS3.2.1
        simp only [OnlyN]
        generalize W2.setCell ⟨w.heap.size + 1 + 1, 0, none⟩ (.slice (some ⟨g2, 0, none⟩) (L.length + 1) cap2) = V4 at *
        clear st2 o2 ko2 ko3 kp2 hbel2 hsz9 hbE hbB hbW hbP oX2 oY2 s1 hS3 xB3 fB3 xB fB hS t5 nY
        have xE4 := bE3.cell
        have xW4 := bW3.cell
        have fW4 := bW3.frozen
        gi_wp2
        have e1 : (L ++ [(ia, ib)]).length = L.length + 1 := by simp
        have ne5 : ∀ q, q ≠ w.heap.size + 3 → ∀ {T : TypeId} {v : Value}, Boxed V4 q T v → Boxed (V4.setCell ⟨w.heap.size + 3, 0, none⟩ (.int .i64 vv)) q T v := fun q hq T v h => (Below.heap_setCell V4 ⟨w.heap.size + 3, 0, none⟩ _ q hq).trans h
        refine ⟨ko4.trans (KeepsOthers.setCell _ _ _), kp4.trans (Keeps3.set_ (by omega) (by omega) (by omega)), ?_⟩
        unfold SegI
        rw [e1, HW.out]
        have hvE' : valE f ib = vv := hvE
        rw [hvE']
        exact ⟨some ⟨g1, 0, none⟩, some ⟨g2, 0, none⟩, cap1, cap2, ne5 _ (by omega) bE3, ne5 _ (by omega) bP3, ne5 _ (by omega) bB3, Boxed.set _ bW3,
          oX3.other (a := ⟨w.heap.size + 3, 0, none⟩) (fun he => Nat.not_lt.2 (oX3.lt _ he).1 (by simp only; omega)) _, oY3.other (a := ⟨w.heap.size + 3, 0, none⟩) (fun he => Nat.not_lt.2 (oY3.lt _ he).1 (by simp only; omega)) _, s3,
          hbel4.setCell (p := ⟨w.heap.size + 3, 0, none⟩) (by simp only; omega) _, by simp; omega⟩
    case done =>
      rintro D xs W hD hxs ⟨X, Y, cx, cy, bE, bP, bB, bW, oX, oY, sXY, hbel, hsz7⟩ hK
      have hlen : (xs.map Subtype.val).length ≤ 1001 := by
        rw [hxs]
        have := piecesP_len (fun k => endsB t b k) to frm (to - frm)
        omega
      generalize hL : xs.map Subtype.val = L at *
      clear hL
      have HXS := Lib.hid hxs
      clear hxs
      have xP := bP.cell
      have xB := bB.cell
      have fP := bP.frozen
      have fB := bB.frozen
      have iX := oX.ints
      have iY := oY.ints
      have t1 : L.length ≤ 1099511627776 := by omega
      have pW : w.heap.size + 1 < W.heap.size := by omega
      have qW : w.heap.size + 1 + 1 < W.heap.size := by omega
      gi_wp2
      refine wpIn_wide.2 ?_
      go_region_law (first
        | (refine step_app0 (by rfl) _ _ 26 (by rfl) 3 int_info Try.underlying26 W.heap.size (by rfl) W.heap.size X L.length cx (passF L) (by rfl) iX.drew t1 (Nat.le_refl _) ?_; intro A1 k1 Wa oa ba; replace ba : Below W.heap.size W Wa := (Below.refl _ _).drew.trans ba; have xBa := (ba.cell (p := ⟨w.heap.size + 1 + 1, 0, none⟩) qW).trans xB; have iYa := iY.below ba; have sza := ba.size)
        | (refine step_app0 (by rfl) _ _ 26 (by rfl) 3 int_info Try.underlying26 Wa.heap.size (by rfl) W.heap.size Y L.length cy (byteF f frm L) (by rfl) iYa t1 (Nat.le_refl _) ?_; intro A2 k2 Wb ob bb; have bab := ba.trans (bb.mono sza); have xPb := (bab.cell (p := ⟨w.heap.size + 1, 0, none⟩) pW).trans xP; have xBb := (bab.cell (p := ⟨w.heap.size + 1 + 1, 0, none⟩) qW).trans xB; have fPb := (bab.frozen (p := ⟨w.heap.size + 1, 0, none⟩) pW).trans fP; have fBb := (bab.frozen (p := ⟨w.heap.size + 1 + 1, 0, none⟩) qW).trans fB))
      all_goals
        have dlt : D < W.heap.size := (Array.getElem?_eq_some_iff.1 hK).1
        have d7 : w.heap.size + 7 ≤ D := by omega
        have hK1 : ((Wb.setCell ⟨w.heap.size + 1, 0, none⟩ (.slice A1 L.length k1)).setCell ⟨w.heap.size + 1 + 1, 0, none⟩ (.slice A2 L.length k2)).heap[D]? = some (.deferred (some [])) :=
          (Below.heap_setCell _ ⟨w.heap.size + 1 + 1, 0, none⟩ _ D (by simp only; omega)).trans ((Below.heap_setCell _ ⟨w.heap.size + 1, 0, none⟩ _ D (by simp only; omega)).trans ((bab.block D dlt).trans hK))
        have bP5 : Boxed ((Wb.setCell ⟨w.heap.size + 1, 0, none⟩ (.slice A1 L.length k1)).setCell ⟨w.heap.size + 1 + 1, 0, none⟩ (.slice A2 L.length k2)) (w.heap.size + 1) 26 (.slice A1 L.length k1) :=
          (Below.heap_setCell _ ⟨w.heap.size + 1 + 1, 0, none⟩ _ (w.heap.size + 1) (by simp only; omega)).trans (Boxed.set _ ((bab.block (w.heap.size + 1) pW).trans bP))
        have bB5 : Boxed ((Wb.setCell ⟨w.heap.size + 1, 0, none⟩ (.slice A1 L.length k1)).setCell ⟨w.heap.size + 1 + 1, 0, none⟩ (.slice A2 L.length k2)) (w.heap.size + 1 + 1) 26 (.slice A2 L.length k2) :=
          Boxed.set _ ((Below.heap_setCell _ ⟨w.heap.size + 1, 0, none⟩ _ (w.heap.size + 1 + 1) (by simp only; omega)).trans ((bab.block (w.heap.size + 1 + 1) qW).trans bB))
        have oa1 := ((oa.below bb).other (a := ⟨w.heap.size + 1, 0, none⟩) (fun he => Nat.not_lt.2 (oa.lt _ he).1 pW) (.slice A1 L.length k1)).other (a := ⟨w.heap.size + 1 + 1, 0, none⟩) (fun he => Nat.not_lt.2 (oa.lt _ he).1 qW) (.slice A2 L.length k2)
        have ob1 := (ob.other (a := ⟨w.heap.size + 1, 0, none⟩) (fun he => Nat.not_lt.2 (ob.lt _ he).1 (Nat.lt_of_lt_of_le pW sza)) (.slice A1 L.length k1)).other (a := ⟨w.heap.size + 1 + 1, 0, none⟩) (fun he => Nat.not_lt.2 (ob.lt _ he).1 (Nat.lt_of_lt_of_le qW sza)) (.slice A2 L.length k2)
        have hbl6 : Below w.heap.size w ((Wb.setCell ⟨w.heap.size + 1, 0, none⟩ (.slice A1 L.length k1)).setCell ⟨w.heap.size + 1 + 1, 0, none⟩ (.slice A2 L.length k2)) := ((hbel.trans (bab.mono hbel.size)).setCell (p := ⟨w.heap.size + 1, 0, none⟩) (by simp only; omega) _).setCell (p := ⟨w.heap.size + 1 + 1, 0, none⟩) (by simp only; omega) _
        gi_wp2
        generalize ((Wb.setCell ⟨w.heap.size + 1, 0, none⟩ (.slice A1 L.length k1)).setCell ⟨w.heap.size + 1 + 1, 0, none⟩ (.slice A2 L.length k2)) = V6 at *
        refine ⟨by simp, .inl ⟨_, _, rfl, run_takeDeferred hK1, ?_⟩⟩
        have gp := grownBy_putObj' V6 D (.deferred none)
        have gn : ∀ r, some D = some r → ∃ o : Obj, V6.heap[r]? = some o ∧ o.isCells = false := fun r e => by cases e; exact ⟨_, hK1, rfl⟩
        have cP := cell_kept bP5.cell gp gn
        have cB := cell_kept bB5.cell gp gn
        have iA := (oa1.keptNC gp gn).ints
        have iB := (ob1.keptNC gp gn).ints
        have hbl7 := hbl6.grown gp hbl6.size (fun k hk => by cases hk; omega)
        refine ⟨.tuple #[.slice A1 L.length k1, .slice A2 L.length k2], ?_, A1, A2, k1, k2, L, HXS.out, rfl, iA, iB, hbl7⟩
        simp [results, Try.f13, go_sem, cP, cB]
    case stop =>
      rintro D cc pre W _ _ h _
      exact h.elim
end Go.Proofs.Ytknbppolecahbaa
