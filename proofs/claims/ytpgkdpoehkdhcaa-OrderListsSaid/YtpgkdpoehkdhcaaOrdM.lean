/- A MADE PICTURE's TILE as order.List wants it. -/
import Derived.Test.YtpgkdpoehkdhcaaOrdK
import Derived.Test.YtpgkdpoehkdhcaaMadeLaw
import Derived.Test.YtpgkdpoehkdhcaaPlaR
import Derived.Test.YtpgkdpoehkdhcaaMake
namespace Go.Proofs.Ytpgkdpoehkdhcaa
open Go.RowKit
set_option maxHeartbeats 4000000
set_option linter.unusedVariables false

theorem MadeP.with_ {side : Nat} {fC fS : Int} {Xn Yn On Pn tx ty lv cw ch pr st od ly n dn : Nat} {rct PL : Bool} (h : MadeP side fC fS Xn Yn On Pn tx ty lv cw ch pr st od ly n dn rct PL) {pr' od' : Nat} (hp : 1 ≤ pr' ∧ pr' ≤ 15) (ho : od' ≤ 4) :
    MadeP side fC fS Xn Yn On Pn tx ty lv cw ch pr' st od' ly n dn rct PL := ⟨h.on, h.xs, h.ts, h.tiles, by have := h.bds; omega, h.num, h.rc, h.pl, h.dn⟩
def madeQ (x0 y0 x1 y1 lv pr od ly n : Nat) (F : Nat → CompD) : OrdQ := ⟨x0, y0, x1, y1, lv, pr, od, ly, n, fun k => (F k).dx.toNat, fun k => (F k).dy.toNat⟩
theorem madeQ_ok {x0 y0 x1 y1 lv pr od ly n Xn Yn On Pn dn : Nat} {sg PL : Bool} {F : Nat → CompD} {G : Nat → Nat → Int} (ht : x0 ≤ 64 ∧ y0 ≤ 64 ∧ x1 ≤ 64 ∧ y1 ≤ 64) (hlv : lv ≤ 5) (hpr : pr ≤ 15) (hod : od ≤ 4) (hly : ly ≤ 9) (hn : n ≤ 4)
    (hM : ∀ j, j < n → MadeC Xn Yn On Pn dn sg PL (F j) (G j)) : (madeQ x0 y0 x1 y1 lv pr od ly n F).Ok :=
  ⟨ht, hlv, hpr, hod, hly, hn, fun k hk => by
    have h := hM k hk
    have h1 := h.dx
    have h2 := h.dy
    show 1 ≤ (F k).dx.toNat ∧ (F k).dx.toNat ≤ 3 ∧ 1 ≤ (F k).dy.toNat ∧ (F k).dy.toNat ≤ 3
    omega⟩
theorem madeQ_d {x0 y0 x1 y1 lv pr od ly n Xn Yn On Pn dn : Nat} {sg PL : Bool} {F : Nat → CompD} {G : Nat → Nat → Int} (hM : ∀ j, j < n → MadeC Xn Yn On Pn dn sg PL (F j) (G j)) (k : Nat) (hk : k < n) :
    (F k).dx = ((madeQ x0 y0 x1 y1 lv pr od ly n F).dx k : Int) ∧ (F k).dy = ((madeQ x0 y0 x1 y1 lv pr od ly n F).dy k : Int) := by
  have h := hM k hk
  have h1 := h.dx
  have h2 := h.dy
  show (F k).dx = (((F k).dx.toNat : Nat) : Int) ∧ (F k).dy = (((F k).dy.toNat : Nat) : Int)
  omega
/-- with the greatest precincts there is one in each resolution that is there -/
theorem one_prec {a b c d : Nat} (h : a ≤ 64 ∧ b ≤ 64 ∧ c ≤ 64 ∧ d ≤ 64) :
    (preW ⟨(a : Nat), (b : Nat), (c : Nat), (d : Nat)⟩ 15).toNat * (preH ⟨(a : Nat), (b : Nat), (c : Nat), (d : Nat)⟩ 15).toNat = if 0 < areaR ⟨(a : Nat), (b : Nat), (c : Nat), (d : Nat)⟩ then 1 else 0 := by
  unfold preW preH emptyB areaR
  simp only
  have e1 : ∀ z : Nat, z ≤ 64 → flI (z : Int) 15 = 0 := fun z hz => by unfold flI; omega
  have e2 : ∀ z : Nat, 1 ≤ z → z ≤ 64 → ceI (z : Int) 15 = 1 := fun z h1 hz => by unfold ceI; omega
  by_cases h1 : (c : Int) ≤ a
  · have e0 : c - a = 0 := by omega
    simp [h1, e0]
  · by_cases h2 : (d : Int) ≤ b
    · have e0 : d - b = 0 := by omega
      simp [h2, e0]
    · simp only [h1, h2, decide_false, Bool.or_self, Bool.false_eq_true, if_false]
      rw [e2 c (by omega) h.2.2.1, e2 d (by omega) h.2.2.2, e1 a h.1, e1 b h.2.1]
      simp
      exact Nat.ne_of_gt (Nat.mul_pos (by omega) (by omega))
/-- sums in either order -/
def sumN (f : Nat → Nat) : Nat → Nat
  | 0 => 0
  | n + 1 => sumN f n + f n
theorem sumN_add (f g : Nat → Nat) : ∀ n, sumN (fun k => f k + g k) n = sumN f n + sumN g n
  | 0 => rfl
  | n + 1 => by rw [sumN, sumN, sumN, sumN_add f g n]; omega
theorem sumN_zero : ∀ n, sumN (fun _ => 0) n = 0
  | 0 => rfl
  | n + 1 => by rw [sumN, sumN_zero n]
theorem sumN_swap (f : Nat → Nat → Nat) (m : Nat) : ∀ n, sumN (fun r => sumN (fun c => f r c) m) n = sumN (fun c => sumN (fun r => f r c) n) m
  | 0 => by rw [sumN]; exact (sumN_zero m).symm
  | n + 1 => by rw [sumN, sumN_swap f m n, ← sumN_add]; rfl
theorem OrdQ.l3_cnt (q : OrdQ) (l r : Nat) : ∀ m, (q.l3 l r m).length = sumN (fun c => q.w r c * q.h r c) m
  | 0 => by unfold OrdQ.l3; simp [sumN]
  | m + 1 => by rw [q.l3_succ, List.length_append, q.l4_len, q.l3_cnt l r m]; rfl
theorem OrdQ.l2_cnt (q : OrdQ) (l : Nat) : ∀ m, (q.l2 l m).length = sumN (fun r => sumN (fun c => q.w r c * q.h r c) q.n) m
  | 0 => by unfold OrdQ.l2; simp [sumN]
  | m + 1 => by rw [q.l2_succ, List.length_append, q.l3_cnt, q.l2_cnt l m]; rfl
theorem OrdQ.l1_cnt (q : OrdQ) : ∀ m, (q.l1 m).length = m * sumN (fun c => sumN (fun r => q.w r c * q.h r c) (q.lv + 1)) q.n
  | 0 => by unfold OrdQ.l1; simp
  | m + 1 => by rw [q.l1_succ, List.length_append, q.l2_cnt, q.l1_cnt m, sumN_swap, Nat.add_mul, Nat.one_mul]

theorem OrdQ.mem {q : OrdQ} {m : Nat} {s : Spot} : s ∈ q.l1 m ↔ ∃ l r c k, l < m ∧ r < q.lv + 1 ∧ c < q.n ∧ k < q.w r c * q.h r c ∧ s = q.pk l r c k := by
  unfold OrdQ.l1 OrdQ.l2 OrdQ.l3 OrdQ.l4
  simp only [List.mem_flatMap, List.mem_map, List.mem_range]
  constructor
  · rintro ⟨l, hl, r, hr, c, hc, k, hk, rfl⟩
    exact ⟨l, r, c, k, hl, hr, hc, hk, rfl⟩
  · rintro ⟨l, r, c, k, hl, hr, hc, hk, rfl⟩
    exact ⟨l, hl, r, hr, c, hc, k, hk, rfl⟩
theorem OrdQ.pk_key (q : OrdQ) (l r c k : Nat) : (q.pk l r c k).ly = l ∧ (q.pk l r c k).rs = r ∧ (q.pk l r c k).cm = c ∧ (q.pk l r c k).pc = k := by
  unfold OrdQ.pk OrdQ.sp spotK rankS
  split <;> exact ⟨rfl, rfl, rfl, rfl⟩
theorem OrdQ.pk_rank (q : OrdQ) {l r c k l' r' c' k' : Nat} (h : rk (q.pk l r c k) = rk (q.pk l' r' c' k')) : l = l' ∧ r = r' ∧ c = c' ∧ k = k' := by
  unfold OrdQ.pk OrdQ.sp spotK rankS rk at h
  split at h <;> simp only [List.cons.injEq, and_true, Int.ofNat_inj] at h <;> omega
theorem ltS_eq {a b : Spot} (h1 : ltS a b = false) (h2 : ltS b a = false) : rk a = rk b :=
  lexL_eq (rk a) (rk b) rfl (of_decide_eq_false h1) (of_decide_eq_false h2)
theorem OrdQ.anti {q : OrdQ} {m m' : Nat} {a b : Spot} (ha : a ∈ q.l1 m) (hb : b ∈ q.l1 m') (h1 : ltS a b = false) (h2 : ltS b a = false) : a = b := by
  obtain ⟨l, r, c, k, _, _, _, _, rfl⟩ := OrdQ.mem.1 ha
  obtain ⟨l', r', c', k', _, _, _, _, rfl⟩ := OrdQ.mem.1 hb
  obtain ⟨rfl, rfl, rfl, rfl⟩ := q.pk_rank (ltS_eq h1 h2)
  rfl
/-- two sorted rows of one tile's packets are one -/
theorem OrdQ.one {q : OrdQ} {m : Nat} {K L : List Spot} (hk : K.Perm (q.l1 m)) (sk : K.Pairwise (fun a b => ltS b a = false)) (hl : L.Perm (q.l1 m)) (sl : L.Pairwise (fun a b => ltS b a = false)) : K = L :=
  List.Perm.eq_of_pairwise (le := fun a b => ltS b a = false) (fun a b ha hb h1 h2 => OrdQ.anti (hk.mem_iff.1 ha) (hl.mem_iff.1 hb) h2 h1) sk sl (hk.trans hl.symm)
/-- of more layers those of the first ones -/
theorem filter_same {m : Nat} {p : Spot → Bool} : ∀ L : List Spot, (∀ s ∈ L, p s = true) → L.filter p = L
  | [], _ => rfl
  | s :: L, h => by rw [List.filter_cons_of_pos (h s (by simp)), filter_same (m := m) L (fun t ht => h t (by simp [ht]))]
theorem filter_none {p : Spot → Bool} : ∀ L : List Spot, (∀ s ∈ L, p s = false) → L.filter p = []
  | [], _ => rfl
  | s :: L, h => by rw [List.filter_cons_of_neg (by simp [h s (by simp)]), filter_none L (fun t ht => h t (by simp [ht]))]
def fewL (m : Nat) (s : Spot) : Bool := decide (s.ly < m)
theorem OrdQ.l1_filter (q : OrdQ) (m : Nat) : ∀ d, (q.l1 (m + d)).filter (fewL m) = q.l1 m
  | 0 => filter_same (m := m) _ (fun s hs => by
    obtain ⟨l, r, c, k, hl, _, _, _, rfl⟩ := OrdQ.mem.1 hs
    unfold fewL
    rw [(q.pk_key l r c k).1]
    exact decide_eq_true (by omega))
  | d + 1 => by
    rw [← Nat.add_assoc, q.l1_succ, List.filter_append, q.l1_filter m d, filter_none _ (fun s hs => ?_), List.append_nil]
    have h2 : s ∈ q.l1 (m + d + 1) := by rw [q.l1_succ]; simp [hs]
    unfold OrdQ.l2 OrdQ.l3 OrdQ.l4 at hs
    simp only [List.mem_flatMap, List.mem_map, List.mem_range] at hs
    obtain ⟨r, _, c, _, k, _, rfl⟩ := hs
    unfold fewL
    rw [(q.pk_key _ r c k).1]
    exact decide_eq_false (by omega)
theorem OrdQ.layers {q : OrdQ} {m d : Nat} {K L : List Spot} (hk : K.Perm (q.l1 m)) (sk : K.Pairwise (fun a b => ltS b a = false)) (hl : L.Perm (q.l1 (m + d))) (sl : L.Pairwise (fun a b => ltS b a = false)) : L.filter (fewL m) = K := by
  refine OrdQ.one (q := q) (m := m) ?_ (sl.filter _) hk sk
  rw [← q.l1_filter m d]
  exact hl.filter _

theorem frame_ly {X Y Ox Oy : Int} {n : Nat} {F : Nat → CompD} {tx ty lv cw ch pr st od ly lz : Int} {rct : Bool} (h : frameE X Y Ox Oy n F tx ty lv cw ch pr st od ly rct = 0) (h1 : waysB lv cw ch pr st od ly = true) (h2 : waysB lv cw ch pr st od lz = true) : frameE X Y Ox Oy n F tx ty lv cw ch pr st od lz rct = 0 := by
  unfold frameE at h ⊢
  rw [h1] at h
  rw [h2]
  exact h
theorem ways_ly {lv cw ch pr st od ly lz : Int} (h1 : waysB lv cw ch pr st od ly = true) (h2 : 1 ≤ lz ∧ lz ≤ 8) : waysB lv cw ch pr st od lz = true := by
  unfold waysB at h1 ⊢
  simp only [Bool.and_eq_true] at h1 ⊢
  exact ⟨h1.1, h1.2.1, h1.2.2.1, h1.2.2.2.1, h1.2.2.2.2.1, h1.2.2.2.2.2.1, inT h2⟩
section
variable {p : Spot → Bool} {Ka Kb : List Spot} {i k : Nat}
theorem few_take (hi : i < Kb.length) : Kb.take (i + 1) = Kb.take i ++ [Kb[i]?.getD default] := by
  rw [List.take_succ_eq_append_getElem hi, List.getElem?_eq_getElem hi]; rfl
theorem few_skip (h : (Kb.take i).filter p = Ka.take k) (hi : i < Kb.length) (hp : p (Kb[i]?.getD default) = false) : (Kb.take (i + 1)).filter p = Ka.take k := by
  rw [few_take hi, List.filter_append, h, List.filter_cons_of_neg (by simp [hp])]; simp
theorem few_step (hf : Kb.filter p = Ka) (h : (Kb.take i).filter p = Ka.take k) (hk : k ≤ Ka.length) (hi : i < Kb.length) (hp : p (Kb[i]?.getD default) = true) :
    k < Ka.length ∧ Ka[k]?.getD default = Kb[i]?.getD default ∧ (Kb.take (i + 1)).filter p = Ka.take (k + 1) := by
  have h1 : (Kb.take (i + 1)).filter p = Ka.take k ++ [Kb[i]?.getD default] := by
    rw [few_take hi, List.filter_append, h, List.filter_cons_of_pos hp]; rfl
  have h2 : Ka = (Ka.take k ++ [Kb[i]?.getD default]) ++ (Kb.drop (i + 1)).filter p := by
    rw [← h1, ← List.filter_append, List.take_append_drop, hf]
  have hl : (Ka.take k).length = k := by rw [List.length_take]; omega
  have h3 : Ka[k]? = some (Kb[i]?.getD default) := by
    rw [h2, List.append_assoc, List.getElem?_append_right (by omega), hl, Nat.sub_self]
    rfl
  have hlt : k < Ka.length := by
    rcases Nat.lt_or_ge k Ka.length with h | h
    · exact h
    · rw [List.getElem?_eq_none h] at h3; cases h3
  refine ⟨hlt, by rw [h3]; rfl, ?_⟩
  rw [h1, List.take_add_one, h3]
  rfl
theorem few_end (hf : Kb.filter p = Ka) (h : (Kb.take Kb.length).filter p = Ka.take k) (hk : k ≤ Ka.length) : k = Ka.length := by
  rw [List.take_length, hf] at h
  have := congrArg List.length h
  rw [List.length_take] at this
  omega
end
/-- a Key's four cells -/
def Key4 (U : World) (b o : Nat) (c0 c1 c2 c3 : Value) : Prop := U.cell? ⟨b, o, none⟩ = some c0 ∧ U.cell? ⟨b, o + 1, none⟩ = some c1 ∧ U.cell? ⟨b, o + 2, none⟩ = some c2 ∧ U.cell? ⟨b, o + 3, none⟩ = some c3
theorem Key4.below {U V : World} {b o B : Nat} {c0 c1 c2 c3 : Value} (h : Key4 V b o c0 c1 c2 c3) (hb : Below B V U) (hlt : b < B) : Key4 U b o c0 c1 c2 c3 :=
  ⟨(hb.cell (p := ⟨b, o, none⟩) hlt).trans h.1, (hb.cell (p := ⟨b, o + 1, none⟩) hlt).trans h.2.1, (hb.cell (p := ⟨b, o + 2, none⟩) hlt).trans h.2.2.1, (hb.cell (p := ⟨b, o + 3, none⟩) hlt).trans h.2.2.2⟩
theorem Key4.load {P : Program} {U : World} {b o : Nat} {c0 c1 c2 c3 : Value} (h : Key4 U b o c0 c1 c2 c3) : (loadCells ⟨b, o, none⟩ 4).run P U = .ok #[c0, c1, c2, c3] U :=
  run_loadCells_list U ⟨b, o, none⟩ [c0, c1, c2, c3] (fun j v hj => by
    rw [add_plain]
    match j, hj with
    | 0, hj => cases hj; exact h.1
    | 1, hj => cases hj; exact h.2.1
    | 2, hj => cases hj; exact h.2.2.1
    | 3, hj => cases hj; exact h.2.2.2
    | j + 4, hj => simp at hj)
theorem key4_of {K : List Spot} {w : World} {base : Nat} {T : TypeId} {g n c k : Nat} (h : OwnC w base T 4 (.slice (some ⟨g, 0, none⟩) n c) n (fun k => (rowS K k).take 4)) (hk : k < n) :
    Key4 w g (k * 4) (.int .i64 (K[k]?.getD default).ly) (.int .i64 (K[k]?.getD default).rs) (.int .i64 (K[k]?.getD default).cm) (.int .i64 (K[k]?.getD default).pc) := by
  have h7 := fun (j : Nat) (u : Value) hu => h.at_.cells hk (j := j) (u := u) hu
  simp only [Nat.zero_add] at h7
  exact ⟨h7 0 _ rfl, h7 1 _ rfl, h7 2 _ rfl, h7 3 _ rfl⟩

theorem nodup_flat {α : Type} {f : Nat → List α} {g : α → Nat} (h1 : ∀ k, (f k).Nodup) (h2 : ∀ k, ∀ x ∈ f k, g x = k) : ∀ m, ((List.range m).flatMap f).Nodup
  | 0 => by simp
  | m + 1 => by
    rw [List.range_succ, List.flatMap_append, List.nodup_append]
    refine ⟨nodup_flat h1 h2 m, by simpa using h1 m, fun a ha b hb e => ?_⟩
    subst e
    obtain ⟨k, hk, hak⟩ := List.mem_flatMap.1 ha
    have e1 := h2 k a hak
    have e2 := h2 m a (by simpa using hb)
    have e3 := List.mem_range.1 hk
    omega
theorem OrdQ.l4_nodup (q : OrdQ) (l r c m : Nat) : (q.l4 l r c m).Nodup := by
  unfold OrdQ.l4
  refine List.pairwise_map.2 (List.Pairwise.imp (fun {a b} h e => h ?_) List.nodup_range)
  have h1 := (q.pk_key l r c a).2.2.2
  rw [e, (q.pk_key l r c b).2.2.2] at h1
  omega
theorem OrdQ.l4_mem {q : OrdQ} {l r c m : Nat} {s : Spot} (h : s ∈ q.l4 l r c m) : ∃ k, k < m ∧ s = q.pk l r c k := by
  unfold OrdQ.l4 at h
  obtain ⟨k, hk, rfl⟩ := List.mem_map.1 h
  exact ⟨k, List.mem_range.1 hk, rfl⟩
theorem OrdQ.l3_mem {q : OrdQ} {l r m : Nat} {s : Spot} (h : s ∈ q.l3 l r m) : ∃ c k, s = q.pk l r c k := by
  unfold OrdQ.l3 at h
  obtain ⟨c, _, h⟩ := List.mem_flatMap.1 h
  obtain ⟨k, _, rfl⟩ := OrdQ.l4_mem h
  exact ⟨c, k, rfl⟩
theorem OrdQ.l2_mem {q : OrdQ} {l m : Nat} {s : Spot} (h : s ∈ q.l2 l m) : ∃ r c k, s = q.pk l r c k := by
  unfold OrdQ.l2 at h
  obtain ⟨r, _, h⟩ := List.mem_flatMap.1 h
  obtain ⟨c, k, rfl⟩ := OrdQ.l3_mem h
  exact ⟨r, c, k, rfl⟩
theorem OrdQ.l1_nodup (q : OrdQ) (m : Nat) : (q.l1 m).Nodup := by
  refine nodup_flat (g := fun s => s.ly.toNat) (fun l => nodup_flat (g := fun s => s.rs.toNat) (fun r => nodup_flat (g := fun s => s.cm.toNat) (fun c => q.l4_nodup l r c _) ?_ q.n) ?_ _) ?_ m
  · intro c x hx
    obtain ⟨k, _, rfl⟩ := OrdQ.l4_mem hx
    simp only [(q.pk_key l r c k).2.2.1]
    omega
  · intro r x hx
    obtain ⟨c, k, rfl⟩ := OrdQ.l3_mem hx
    simp only [(q.pk_key l r c k).2.1]
    omega
  · intro l x hx
    obtain ⟨r, c, k, rfl⟩ := OrdQ.l2_mem hx
    simp only [(q.pk_key l r c k).1]
    omega
theorem OrdQ.key_inj {q : OrdQ} {m m' : Nat} {a b : Spot} (ha : a ∈ q.l1 m) (hb : b ∈ q.l1 m') (h1 : a.ly = b.ly) (h2 : a.rs = b.rs) (h3 : a.cm = b.cm) (h4 : a.pc = b.pc) : a = b := by
  obtain ⟨l, r, c, k, _, _, _, _, rfl⟩ := OrdQ.mem.1 ha
  obtain ⟨l', r', c', k', _, _, _, _, rfl⟩ := OrdQ.mem.1 hb
  rw [(q.pk_key _ _ _ _).1, (q.pk_key _ _ _ _).1] at h1
  rw [(q.pk_key _ _ _ _).2.1, (q.pk_key _ _ _ _).2.1] at h2
  rw [(q.pk_key _ _ _ _).2.2.1, (q.pk_key _ _ _ _).2.2.1] at h3
  rw [(q.pk_key _ _ _ _).2.2.2, (q.pk_key _ _ _ _).2.2.2] at h4
  rw [Int.ofNat.inj h1, Int.ofNat.inj h2, Int.ofNat.inj h3, Int.ofNat.inj h4]
section
variable {q : OrdQ} {m : Nat} {a b : Spot}
theorem OrdQ.rk0 (hod : q.od = 0) (ha : a ∈ q.l1 m) : rk a = [a.ly, a.rs, a.cm, a.pc, 0, 0] := by
  obtain ⟨l, r, c, k, _, _, _, _, rfl⟩ := OrdQ.mem.1 ha
  unfold OrdQ.pk
  rw [hod]; rfl
theorem OrdQ.rk1 (hod : q.od = 1) (ha : a ∈ q.l1 m) : rk a = [a.rs, a.ly, a.cm, a.pc, 0, 0] := by
  obtain ⟨l, r, c, k, _, _, _, _, rfl⟩ := OrdQ.mem.1 ha
  unfold OrdQ.pk
  rw [hod]; rfl
theorem OrdQ.rk2 (hod : q.od = 2) (ha : a ∈ q.l1 m) : rk a = [a.rs, a.y, a.x, a.cm, a.pc, a.ly] := by
  obtain ⟨l, r, c, k, _, _, _, _, rfl⟩ := OrdQ.mem.1 ha
  unfold OrdQ.pk
  rw [hod]; rfl
theorem OrdQ.rk3 (hod : q.od = 3) (ha : a ∈ q.l1 m) : rk a = [a.y, a.x, a.cm, a.rs, a.pc, a.ly] := by
  obtain ⟨l, r, c, k, _, _, _, _, rfl⟩ := OrdQ.mem.1 ha
  unfold OrdQ.pk
  rw [hod]; rfl
theorem OrdQ.rk4 (hod : q.od = 4) (ha : a ∈ q.l1 m) : rk a = [a.cm, a.y, a.x, a.rs, a.pc, a.ly] := by
  obtain ⟨l, r, c, k, _, _, _, _, rfl⟩ := OrdQ.mem.1 ha
  unfold OrdQ.pk
  rw [hod]; rfl
theorem OrdQ.first0 (hod : q.od = 0) (ha : a ∈ q.l1 m) (hb : b ∈ q.l1 m) (h : ltS b a = false) : ¬ b.ly < a.ly ∧ (b.ly = a.ly → ¬ b.rs < a.rs ∧ (b.rs = a.rs → ¬ b.cm < a.cm)) := by
  have h1 := of_decide_eq_false h
  unfold cfS at h1
  rw [OrdQ.rk0 hod ha, OrdQ.rk0 hod hb, lexL_neg, lexL_neg, lexL_neg] at h1
  omega
theorem OrdQ.first1 (hod : q.od = 1) (ha : a ∈ q.l1 m) (hb : b ∈ q.l1 m) (h : ltS b a = false) : ¬ b.rs < a.rs ∧ (b.rs = a.rs → ¬ b.ly < a.ly ∧ (b.ly = a.ly → ¬ b.cm < a.cm)) := by
  have h1 := of_decide_eq_false h
  unfold cfS at h1
  rw [OrdQ.rk1 hod ha, OrdQ.rk1 hod hb, lexL_neg, lexL_neg, lexL_neg] at h1
  omega
theorem OrdQ.first2 (hod : q.od = 2) (ha : a ∈ q.l1 m) (hb : b ∈ q.l1 m) (h : ltS b a = false) : ¬ b.rs < a.rs := by
  have h1 := of_decide_eq_false h
  unfold cfS at h1
  rw [OrdQ.rk2 hod ha, OrdQ.rk2 hod hb, lexL_neg] at h1
  omega
theorem OrdQ.first4 (hod : q.od = 4) (ha : a ∈ q.l1 m) (hb : b ∈ q.l1 m) (h : ltS b a = false) : ¬ b.cm < a.cm := by
  have h1 := of_decide_eq_false h
  unfold cfS at h1
  rw [OrdQ.rk4 hod ha, OrdQ.rk4 hod hb, lexL_neg] at h1
  omega
theorem OrdQ.lt_ly {l l' r c k : Nat} (h : l < l') : ltS (q.pk l r c k) (q.pk l' r c k) = true := by
  refine decide_eq_true ?_
  unfold cfS OrdQ.pk OrdQ.sp spotK rankS rk
  have hz : (l : Int) < (l' : Int) := by omega
  split <;> simp only [lexL, Int.lt_irrefl, hz, if_false, if_true] <;> decide
theorem OrdQ.next {K : List Spot} (hp : K.Perm (q.l1 m)) (hs : K.Pairwise (fun a b => ltS b a = false)) {i : Nat} (ha : K[i]? = some a) (hb : K[i + 1]? = some b) :
    ltS b a = false ∧ (a.cm = b.cm → a.rs = b.rs → a.pc = b.pc → b.ly = a.ly + 1) := by
  obtain ⟨hi, ea⟩ := List.getElem?_eq_some_iff.1 ha
  obtain ⟨hi1, eb⟩ := List.getElem?_eq_some_iff.1 hb
  have hpw := List.pairwise_iff_getElem.1 hs
  have hab : ltS b a = false := by
    have := hpw i (i + 1) hi hi1 (by omega)
    rw [ea, eb] at this
    exact this
  refine ⟨hab, fun h1 h2 h3 => ?_⟩
  have hnd : K.Nodup := hp.nodup_iff.2 (q.l1_nodup m)
  have ha' : a ∈ q.l1 m := hp.mem_iff.1 (ea ▸ List.getElem_mem hi)
  have hb' : b ∈ q.l1 m := hp.mem_iff.1 (eb ▸ List.getElem_mem hi1)
  obtain ⟨l, r, c, k, hl, hr, hc, hk, rfl⟩ := OrdQ.mem.1 ha'
  obtain ⟨l', r', c', k', hl', hr', hc', hk', rfl⟩ := OrdQ.mem.1 hb'
  rw [(q.pk_key _ _ _ _).2.1, (q.pk_key _ _ _ _).2.1] at h2
  rw [(q.pk_key _ _ _ _).2.2.1, (q.pk_key _ _ _ _).2.2.1] at h1
  rw [(q.pk_key _ _ _ _).2.2.2, (q.pk_key _ _ _ _).2.2.2] at h3
  cases Int.ofNat.inj h1
  cases Int.ofNat.inj h2
  cases Int.ofNat.inj h3
  rw [(q.pk_key _ _ _ _).1, (q.pk_key _ _ _ _).1]
  have n1 : ¬ l' < l := fun h => by rw [q.lt_ly h] at hab; cases hab
  have n2 : l ≠ l' := fun h => by
    subst h
    have := (List.getElem_inj (i := i) (j := i + 1) (h₀ := hi) (h₁ := hi1) hnd).1 (by rw [ea, eb])
    omega
  have n3 : ¬ l + 1 < l' := fun h => by
    have hz : q.pk (l + 1) r c k ∈ K := hp.mem_iff.2 (OrdQ.mem.2 ⟨l + 1, r, c, k, by omega, hr, hc, hk, rfl⟩)
    obtain ⟨j, hj, ez⟩ := List.getElem_of_mem hz
    have g1 : ltS (q.pk l r c k) (q.pk (l + 1) r c k) = true := q.lt_ly (by omega)
    have g2 : ltS (q.pk (l + 1) r c k) (q.pk l' r c k) = true := q.lt_ly h
    rcases Nat.lt_trichotomy j i with hh | hh | hh
    · have := hpw j i hj hi hh
      rw [ez, ea, g1] at this; cases this
    · subst hh
      rw [ez] at ea
      have := (q.pk_rank (congrArg rk ea)).1
      omega
    · rcases Nat.lt_or_ge (i + 1) j with hk | hk
      · have := hpw (i + 1) j hi1 hj hk
        rw [ez, eb, g2] at this; cases this
      · have : j = i + 1 := by omega
        subst this
        rw [ez] at eb
        have := (q.pk_rank (congrArg rk eb)).1
        omega
  omega
end
end Go.Proofs.Ytpgkdpoehkdhcaa
