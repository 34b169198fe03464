/- WHAT order.List LEANS ON behind its loops: the sort of a row that it owns; slices.Values; make. -/
import Derived.Test.YtpgkdpoehkdhcaaOrdN
import Derived.Test.YtpgkdpoehkdhcaaOrdC
import Derived.Test.YtpgkdpoehkdhcaaStS
import Derived.Test.YtpgkdpoehkdhcaaPlaces
import Derived.Laws.MakeOwn
namespace Go.Proofs.Ytpgkdpoehkdhcaa
open Go.RowKit Go.Shelf
attribute [local go_sem] Oper.semAt_some
attribute [local go_sem] opv opnd
set_option maxHeartbeats 40000000
set_option linter.unusedVariables false
set_option linter.unusedSimpArgs false
set_option maxRecDepth 1000000

theorem rowS_arr (L : List Spot) {k : Nat} (hk : k < L.length) : rowS L k = spotL L.toArray[k]! := by
  unfold rowS
  rw [List.getElem?_eq_getElem hk, getElem!_pos L.toArray k (by simpa using hk)]
  rfl
/-- the sort of a row that is the call's own -/
theorem sort_own (L : List Spot) (hL : L.length ≤ 1099511627776) (B : Nat) (A : Option Addr) (c : Nat) (w : World) (hB : B ≤ w.heap.size) (ho : OwnC w B 65 12 (.slice A L.length c) L.length (rowS L)) :
    Calls Try.prog 29 #[.slice A L.length c, .func (.func 30) #[] #[]] w fun e w' => e = .returned (.tuple #[]) ∧ ∃ K : List Spot, K.length = L.length ∧ K.Perm L ∧ K.Pairwise (fun a b => ltS b a = false) ∧
      OwnC w' B 65 12 (.slice A L.length c) L.length (rowS K) ∧ Below B w w' := by
  have ho' := ho
  obtain ⟨hf, hl, hcase⟩ := ho
  rcases hcase with ⟨e, hn⟩ | ⟨g, cap, cur, e, hb, hh, hnc, hm, hr, ht⟩
  · injection e with e1 e2 e3
    have h0 : L.length = 0 := e2
    have hnil : L = [] := List.eq_nil_of_length_eq_zero h0
    subst hnil e1 e3
    refine (sort_nil w).mono ?_
    rintro e w' ⟨rfl, hbl⟩
    exact ⟨rfl, [], rfl, List.Perm.refl _, List.Pairwise.nil, ho'.below hbl, hbl.mono hB⟩
  · injection e with e1 e2 e3
    subst e1 e3
    have hglt : g < w.heap.size := (Array.getElem?_eq_some_iff.1 hh).1
    have S : SW w B g c L.toArray w := ⟨ho'.congr (fun _ => rfl) (fun k hk => rowS_arr L hk), World.grownBy.refl w _, hglt⟩
    refine (sort_any w B g c L.length L.toArray w cmp_at S rfl hL).mono ?_
    rintro e w' ⟨rfl, d, hp, hs, S'⟩
    have hz : d.size = L.length := hp.1
    refine ⟨rfl, d.toList, by simpa using hz, ?_, ?_, ?_, ?_⟩
    · have h2 := hp.2.2
      have e1 : d.extract 0 L.length = d := by rw [← hz]; exact Array.extract_size
      have e2 : L.toArray.extract 0 L.length = L.toArray := by
        simp
      rw [e1, e2] at h2
      exact h2
    · rw [List.pairwise_iff_getElem]
      intro i j hi hj hij
      have hi' : i < d.size := by simpa using hi
      have hj' : j < d.size := by simpa using hj
      have := hs i j (Nat.zero_le _) hij (by omega)
      rw [getElem!_pos d i hi', getElem!_pos d j hj'] at this
      simp only [Array.getElem_toList]
      exact this
    · have h3 := S'.own
      rw [hz] at h3
      refine h3.congr (fun _ => rfl) (fun k hk => ?_)
      rw [rowS_arr d.toList (by simpa using (by omega : k < d.size))]
    · have h4 := S'.gr
      exact ⟨h4.os, h4.tape, h4.output, h4.size, fun k hk => h4.block k (by omega) (fun e => by injection e with e; omega)⟩
theorem values_any (A : Option Addr) (n c : Nat) (w : World) : Calls Try.prog 32 #[.slice A n c] w fun e w' => e = .returned (.func (.func 48) #[] #[.pointer (some ⟨w.heap.size, 0, none⟩)]) ∧ w' = w.alloc (.cells #[.slice A n c] 61) := by
  go_enter Try.func32, Try.ntmps32
  go_wp2_with fail
  go_ret
  exact ⟨rfl, rfl⟩
abbrev Ix (N : Nat) := { k : Nat // k < N }
abbrev encS (L : List Spot) (x : Ix L.length) : Array Value := #[.agg (rowS L x.1).toArray]
/-- the row that the iterator reads -/
def RowV (L : List Spot) (bp g : Nat) (A : Option Addr) (c : Nat) (V : World) : Prop := V.cell? ⟨bp, 0, none⟩ = some (.slice A L.length c) ∧ (0 < L.length → A = some ⟨g, 0, none⟩) ∧ ∀ k, k < L.length → ∀ (j : Nat) (u : Value), (rowS L k)[j]? = some u → V.cell? ⟨g, k * 12 + j, none⟩ = some u
theorem RowV.keeps {L : List Spot} {bp g : Nat} {A : Option Addr} {c : Nat} {V V' : World} (h : RowV L bp g A c V) (hk : Keeps2 bp g V V') : RowV L bp g A c V' :=
  ⟨hk.cell1.trans h.1, h.2.1, fun k hkn j u hu => hk.cell2.trans (h.2.2 k hkn j u hu)⟩
theorem lt_keeps {b : Nat} {W W' : World} (h : W'.heap[b]? = W.heap[b]?) (hb : b < W.heap.size) : b < W'.heap.size := by
  rcases Nat.lt_or_ge b W'.heap.size with hlt | hge
  · exact hlt
  · rw [Array.getElem?_eq_none hge, Array.getElem?_eq_getElem hb] at h; cases h
set_option maxRecDepth 1000000 in
theorem values_in (n : Nat) (hn : 1 ≤ n) (l bp g c : Nat) (A : Option Addr) (L : List Spot) (hL : L.length ≤ 1099511627776) (J Jx : List (Ix L.length) → World → Prop) (W0 : World) (hA : AbidesFrom W0.heap.size J)
    (hY : ∀ pre x V, J pre V → pre.length < L.length + 1 → YieldAt Fence.wide (n - 1) Try.prog l (encS L x) V fun e V' =>
      (e = .returned (.bool true) ∧ J (pre ++ [x]) V' ∧ Keeps2 bp g V V') ∨ (e = .returned (.bool false) ∧ Jx (pre ++ [x]) V'))
    (V : World) (hbp : bp < V.heap.size) (hg : g < V.heap.size) (hr : RowV L bp g A c V) (h0 : J [] V) :
    CallsIn Fence.wide n Try.prog 48 #[.func (.yield l) #[] #[], .pointer (some ⟨bp, 0, none⟩)] V fun e V' => (∃ v, e = .returned v) ∧
      ((∃ ys, (ys.map Subtype.val = List.range L.length) ∧ J ys V') ∨ (∃ pre, True ∧ Jx pre V')) := by
  refine callsIn_of_wp Try.func48 rfl trivial ?_ rfl
  simp only [Try.ntmps48, List.size_toArray, List.length_cons, List.length_nil, Nat.reduceAdd, Nat.reduceSub, Array.replicate_succ, Array.replicate_zero, List.push_toArray, List.append_toArray, List.nil_append, List.cons_append]
  have hc0 := hr.1
  gi_wp2
  clear hc0
  gi_loopw [7] (fun i wr => ∃ (k : Nat) (pre : List (Ix L.length)), k ≤ L.length ∧ i = .int .i64 k ∧ pre.map Subtype.val = List.range k ∧ J pre wr ∧ Keeps2 bp g V wr)
    (fun i _ => L.length - (intOf i).toNat)
  case atStart => exact ⟨0, [], Nat.zero_le _, rfl, by simp, h0, Keeps2.refl _ _ _⟩
  case round =>
    obtain ⟨k, pre, hk, rfl, hpre, hJ, hkp⟩ := hrel
    have hr1 := hr.keeps hkp
    by_cases hlt : k < L.length
    · have hltz : (k : Int) < (L.length : Int) := by omega
      have hl : pre.length < L.length + 1 := by
        have := congrArg List.length hpre
        simp at this
        omega
      obtain ⟨X, hX⟩ : ∃ X, L[k]?.getD default = X := ⟨_, rfl⟩
      obtain ⟨a0, a1, a2, a3, a4, a5, a6, a7, a8, a9, a10, a11⟩ := X
      have hrow : rowS L k = [.int .i64 a0, .int .i64 a1, .int .i64 a2, .int .i64 a3, .int .i64 a4, .int .i64 a5, .int .i64 a6, .int .i64 a7, .int .i64 a8, .int .i64 a9, .int .i64 a10, .int .i64 a11] := by unfold rowS; rw [hX]; rfl
      have hcl := fun (j : Nat) (u : Value) (hu : ([.int .i64 a0, .int .i64 a1, .int .i64 a2, .int .i64 a3, .int .i64 a4, .int .i64 a5, .int .i64 a6, .int .i64 a7, .int .i64 a8, .int .i64 a9, .int .i64 a10, .int .i64 a11] : List Value)[j]? = some u) => hr1.2.2 k hlt j u (by rw [hrow]; exact hu)
      obtain rfl := hr1.2.1 (by omega)
      have c0 : wr.cell? ⟨g, k * 12, none⟩ = some (.int .i64 a0) := hcl 0 _ rfl
      have c1 : wr.cell? ⟨g, k * 12 + 1, none⟩ = some (.int .i64 a1) := hcl 1 _ rfl
      have c2 : wr.cell? ⟨g, k * 12 + 2, none⟩ = some (.int .i64 a2) := hcl 2 _ rfl
      have c3 : wr.cell? ⟨g, k * 12 + 3, none⟩ = some (.int .i64 a3) := hcl 3 _ rfl
      have c4 : wr.cell? ⟨g, k * 12 + 4, none⟩ = some (.int .i64 a4) := hcl 4 _ rfl
      have c5 : wr.cell? ⟨g, k * 12 + 5, none⟩ = some (.int .i64 a5) := hcl 5 _ rfl
      have c6 : wr.cell? ⟨g, k * 12 + 6, none⟩ = some (.int .i64 a6) := hcl 6 _ rfl
      have c7 : wr.cell? ⟨g, k * 12 + 7, none⟩ = some (.int .i64 a7) := hcl 7 _ rfl
      have c8 : wr.cell? ⟨g, k * 12 + 8, none⟩ = some (.int .i64 a8) := hcl 8 _ rfl
      have c9 : wr.cell? ⟨g, k * 12 + 9, none⟩ = some (.int .i64 a9) := hcl 9 _ rfl
      have c10 : wr.cell? ⟨g, k * 12 + 10, none⟩ = some (.int .i64 a10) := hcl 10 _ rfl
      have c11 : wr.cell? ⟨g, k * 12 + 11, none⟩ = some (.int .i64 a11) := hcl 11 _ rfl
      have hJ2 := hA pre wr _ none hJ (World.grownBy_alloc wr (.cells #[.int .i64 a0, .int .i64 a1, .int .i64 a2, .int .i64 a3, .int .i64 a4, .int .i64 a5, .int .i64 a6, .int .i64 a7, .int .i64 a8, .int .i64 a9, .int .i64 a10, .int .i64 a11] 65) none) (fun r e => by cases e)
      have hk2 : Keeps2 bp g wr (wr.alloc (.cells #[.int .i64 a0, .int .i64 a1, .int .i64 a2, .int .i64 a3, .int .i64 a4, .int .i64 a5, .int .i64 a6, .int .i64 a7, .int .i64 a8, .int .i64 a9, .int .i64 a10, .int .i64 a11] 65)) := ⟨Below.heap_alloc _ _ _ (lt_keeps hkp.1 hbp), Below.heap_alloc _ _ _ (lt_keeps hkp.2 hg)⟩
      obtain ⟨fn, tmps, assign, body, hy', hR⟩ := hY pre ⟨k, hlt⟩ _ hJ2 hl
      have hy' : (Instr.yield l #[.agg #[.int .i64 a0, .int .i64 a1, .int .i64 a2, .int .i64 a3, .int .i64 a4, .int .i64 a5, .int .i64 a6, .int .i64 a7, .int .i64 a8, .int .i64 a9, .int .i64 a10, .int .i64 a11]]).run Try.prog (wr.alloc (.cells #[.int .i64 a0, .int .i64 a1, .int .i64 a2, .int .i64 a3, .int .i64 a4, .int .i64 a5, .int .i64 a6, .int .i64 a7, .int .i64 a8, .int .i64 a9, .int .i64 a10, .int .i64 a11] 65)) = .ok (.round l fn tmps assign body) (wr.alloc (.cells #[.int .i64 a0, .int .i64 a1, .int .i64 a2, .int .i64 a3, .int .i64 a4, .int .i64 a5, .int .i64 a6, .int .i64 a7, .int .i64 a8, .int .i64 a9, .int .i64 a10, .int .i64 a11] 65)) := by
        have h := hy'
        unfold encS at h
        rw [hrow] at h
        exact h
      have hR := Lib.hid hR
      clear hY h0 hcl hrow hX
      gi_wp2
      refine hR.out.mono ?_
      rintro e W3 (⟨rfl, hJ3, hk3⟩ | ⟨rfl, hJx3⟩)
      · clear c0 c1 c2 c3 c4 c5 c6 c7 c8 c9 c10 c11
        gi_wp2
        go_roundw
        case rel => exact ⟨k + 1, _, by omega, by go_num, by simp only [List.map_append, hpre, List.map_cons, List.map_nil, List.range_succ], hJ3, (hkp.trans hk2).trans hk3⟩
        case measure => simp [intOf]; omega
      · clear c0 c1 c2 c3 c4 c5 c6 c7 c8 c9 c10 c11
        gi_wp2
        refine bodyPost_ret (results_none rfl _ _ _) rfl ?_
        exact ⟨⟨_, rfl⟩, .inr ⟨_, trivial, hJx3⟩⟩
    · obtain rfl : k = L.length := by omega
      gi_wp2
      go_end0
      exact ⟨⟨_, rfl⟩, .inl ⟨pre, hpre, hJ⟩⟩
theorem run_makeK (n : Nat) (hn : n ≤ 1099511627776) (w : World) : (Instr.makeSlice 35 (.int .i64 0) (.int .i64 (n : Int))).run Try.prog w = .ok (.slice (some ⟨w.heap.size, 0, none⟩) 0 n) (w.alloc (.cells (madeCells #[.int .i64 0, .int .i64 0, .int .i64 0, .int .i64 0] (n * 4)) 42)) := by
  have hinfo : (Try.prog.info? 42).map (fun i => (i.zero, i.size, i.bytes)) = some (some (.agg #[.int .i64 0, .int .i64 0, .int .i64 0, .int .i64 0]), 4, 32) := by kernel_rfl
  rcases hp : Try.prog.info? 42 with _ | i
  · rw [hp] at hinfo; cases hinfo
  · rw [hp] at hinfo
    simp only [Option.map_some, Option.some.injEq, Prod.mk.injEq] at hinfo
    have h := run_make (P := Try.prog) (w := w) 35 42 i _ Try.underlying35 hp hinfo.1 .i64 .i64 0 (n : Int) (by omega) (by omega) (by rw [hinfo.2.2]; omega) (by omega)
    rw [hinfo.2.1] at h
    simpa [Value.cells] using h
theorem key_elem : ElemC Try.prog 35 42 4 := elemC_of (.agg #[.int .i64 0, .int .i64 0, .int .i64 0, .int .i64 0]) 32 (by kernel_rfl) rfl (by omega) (by omega) Try.underlying35
/-- the keys laid so far -/
def keyR (K : List Spot) (l : List Nat) (k : Nat) : List Value := (rowS K (l.getD k 0)).take 4
theorem keyR_len (K : List Spot) (l : List Nat) (k : Nat) : (keyR K l k).length = 4 := rfl
theorem keyR_lt (K : List Spot) (l : List Nat) (x : Nat) {k : Nat} (h : k < l.length) : keyR K (l ++ [x]) k = keyR K l k := by
  unfold keyR; rw [List.getD_eq_getElem?_getD, List.getD_eq_getElem?_getD, List.getElem?_append_left h]
theorem keyR_new (K : List Spot) (l : List Nat) (x : Nat) : keyR K (l ++ [x]) l.length = (rowS K x).take 4 := by
  unfold keyR; rw [List.getD_eq_getElem?_getD]; simp
theorem keyR_all (K : List Spot) {k n : Nat} (h : k < n) : keyR K (List.range n) k = (rowS K k).take 4 := by
  unfold keyR; rw [List.getD_eq_getElem?_getD, List.getElem?_range h]; rfl
/-- between two rounds -/
def KeyI (K : List Spot) (q M D : Nat) (w : World) (P : Value) (l : List Nat) (V : World) : Prop :=
  ∃ (X : Option Addr) (cx : Nat), Boxed V D 35 (.slice X l.length cx) ∧ OwnC V M 42 4 (.slice X l.length cx) l.length (keyR K l) ∧ Below q w V ∧ D + 2 ≤ V.heap.size ∧ Boxed V (D + 1) 61 P
theorem keyI_own {K : List Spot} {q M D : Nat} {w : World} {P : Value} {α : Type} {g : List α → List Nat} {B : Nat} (hB : D + 2 ≤ B) (hq : q ≤ D) : OwnFrom B (fun (pre : List α) W => KeyI K q M D w P (g pre) W) := by
  rintro s W W' row ⟨X, cx, h3, h4, h5, h6, h7⟩ hg hr
  have hr' := fun r e => (hr r e).2
  exact ⟨X, cx, Boxed.keptNC h3 hg hr', h4.keptNC hg hr', h5.grown hg (by omega) (fun k hk => by have := (hr k hk).1; omega), Nat.le_trans h6 hg.size, Boxed.keptNC h7 hg hr'⟩
theorem OwnC.made_ {w : World} {base sz : Nat} {e : TypeId} {cur : Array Value} {cap : Nat} {f : Nat → List Value} (hb : base ≤ w.heap.size) (hm : cap ≤ maxLen) (hs : cur.size = cap * sz) (hf : ∀ k, (f k).length = sz) :
    OwnC (w.alloc (.cells cur e)) base e sz (.slice (some ⟨w.heap.size, 0, none⟩) 0 cap) 0 f := ⟨hf, World.ownsRow_made w cur cap hb hm hs⟩
end Go.Proofs.Ytpgkdpoehkdhcaa
