/- THE PLAIN THEORY OF slices.stableCmpFunc's FELLOWS: swapRange, rotate, symMerge's two short cases, its one step, the blocks. No program in sight. -/
import Derived.Sort.LotA
namespace Go.Proofs.Ytpgkdpoehkdhcaa
open Go.Sort
set_option linter.unusedVariables false
set_option linter.unusedSectionVars false
section
variable {α : Type} [Inhabited α]

/-- 'for i := 0; i < n; i++ { swap a+i, b+i }' -/
def swapR (a b : Nat) : Nat → Array α → Array α
  | 0, d => d
  | n + 1, d => swp (swapR a b n d) (a + n) (b + n)
theorem size_swapR (a b : Nat) (d : Array α) : ∀ n, (swapR a b n d).size = d.size
  | 0 => rfl
  | n + 1 => by rw [swapR, size_swp, size_swapR a b d n]
theorem swapR_get (a b : Nat) (d : Array α) : ∀ n, a + n ≤ b → b + n ≤ d.size → ∀ t, (swapR a b n d)[t]! = if a ≤ t ∧ t < a + n then d[t - a + b]! else if b ≤ t ∧ t < b + n then d[t - b + a]! else d[t]!
  | 0, _, _, t => by rw [swapR, if_neg (by omega), if_neg (by omega)]
  | n + 1, h1, h2, t => by
    have ih := swapR_get a b d n (by omega) (by omega)
    have hs := size_swapR a b d n
    rw [swapR, swp_get _ (by omega) (by omega)]
    by_cases e1 : t = b + n
    · rw [if_pos e1, ih, if_neg (by omega), if_neg (by omega), if_neg (by omega), if_pos (by omega)]
      congr 1; omega
    · rw [if_neg e1]
      by_cases e2 : t = a + n
      · rw [if_pos e2, ih, if_neg (by omega), if_neg (by omega), if_pos (by omega)]
        congr 1; omega
      · rw [if_neg e2, ih]
        by_cases c1 : a ≤ t ∧ t < a + n
        · rw [if_pos c1, if_pos (show a ≤ t ∧ t < a + (n + 1) by omega)]
        · rw [if_neg c1, if_neg (show ¬ (a ≤ t ∧ t < a + (n + 1)) by omega)]
          by_cases c2 : b ≤ t ∧ t < b + n
          · rw [if_pos c2, if_pos (show b ≤ t ∧ t < b + (n + 1) by omega)]
          · rw [if_neg c2, if_neg (show ¬ (b ≤ t ∧ t < b + (n + 1)) by omega)]
theorem swapR_perm (a b lo hi : Nat) (d : Array α) (h1 : lo ≤ a) (h2 : lo ≤ b) (hs : hi ≤ d.size) : ∀ n, a + n ≤ hi → b + n ≤ hi → PermIn lo hi d (swapR a b n d)
  | 0, _, _ => permIn_refl _ _ _
  | n + 1, h3, h4 => permIn_trans _ _ _ _ _ (swapR_perm a b lo hi d h1 h2 hs n (by omega) (by omega)) (swp_permIn _ _ _ _ _ (by omega) (by omega) (by omega) (by omega) (by rw [size_swapR]; exact hs))

/-- d' is d with [m, hi) laid ahead of [lo, m) -/
def RotOf (lo m hi : Nat) (d d' : Array α) : Prop := ∀ t, d'[t]! = if t < lo ∨ hi ≤ t then d[t]! else if t < lo + (hi - m) then d[t + (m - lo)]! else d[t - (hi - m)]!
/-- one turn of rotate's loop, the left part longer -/
theorem rot_left {lo m hi j : Nat} {d d' : Array α} (hj : hi = m + j) (h0 : 0 < j) (hlt : lo + j < m) (hs : hi ≤ d.size) (h : RotOf (lo + j) m hi (swapR lo m j d) d') : RotOf lo m hi d d' := by
  have hg := swapR_get lo m d j (by omega) (by omega)
  intro t
  rw [h t]
  by_cases c0 : t < lo ∨ hi ≤ t
  · rw [if_pos (by omega), if_pos c0, hg, if_neg (by omega), if_neg (by omega)]
  · rw [if_neg c0]
    by_cases c1 : t < lo + j
    · rw [if_pos (by omega), if_pos (by omega), hg, if_pos (by omega)]
      congr 1; omega
    · rw [if_neg (show ¬ (t < lo + j ∨ hi ≤ t) by omega), if_neg (show ¬ t < lo + (hi - m) by omega)]
      by_cases c2 : t < lo + j + (hi - m)
      · rw [if_pos c2, hg, if_neg (by omega), if_pos (by omega)]
        congr 1; omega
      · rw [if_neg c2, hg, if_neg (by omega), if_neg (by omega)]
/-- .. the right part longer -/
theorem rot_right {lo m hi i : Nat} {d d' : Array α} (hi0 : lo + i = m) (h0 : 0 < i) (hlt : m + i < hi) (hs : hi ≤ d.size) (h : RotOf lo m (hi - i) (swapR lo (hi - i) i d) d') : RotOf lo m hi d d' := by
  have hg := swapR_get lo (hi - i) d i (by omega) (by omega)
  intro t
  rw [h t]
  by_cases c0 : t < lo ∨ hi ≤ t
  · rw [if_pos (by omega), if_pos c0, hg, if_neg (by omega), if_neg (by omega)]
  · rw [if_neg c0]
    by_cases c1 : hi - i ≤ t
    · rw [if_pos (by omega), if_neg (by omega), hg, if_neg (by omega), if_pos (by omega)]
      congr 1; omega
    · rw [if_neg (show ¬ (t < lo ∨ hi - i ≤ t) by omega)]
      by_cases c2 : t < lo + (hi - i - m)
      · rw [if_pos c2, if_pos (by omega), hg, if_neg (by omega), if_neg (by omega)]
      · rw [if_neg c2, hg]
        by_cases c3 : t < lo + (hi - m)
        · rw [if_pos (by omega), if_pos c3]
          congr 1; omega
        · exfalso; omega
/-- .. both as long -/
theorem rot_even {lo m hi i : Nat} {d : Array α} (hi0 : lo + i = m) (hj : m + i = hi) (hs : hi ≤ d.size) : RotOf lo m hi d (swapR lo m i d) := by
  have hg := swapR_get lo m d i (by omega) (by omega)
  intro t
  rw [hg]
  by_cases c0 : t < lo ∨ hi ≤ t
  · rw [if_neg (by omega), if_neg (by omega), if_pos c0]
  · rw [if_neg c0]
    by_cases c1 : t < lo + (hi - m)
    · rw [if_pos (by omega), if_pos c1]
      congr 1; omega
    · rw [if_neg (by omega), if_pos (by omega), if_neg c1]
      congr 1; omega
theorem rot_idle {lo m hi : Nat} {d : Array α} (h : lo = m ∨ m = hi) (h1 : lo ≤ m) (h2 : m ≤ hi) : RotOf lo m hi d d := by
  intro t
  rcases h with rfl | rfl
  · by_cases c0 : t < lo ∨ hi ≤ t
    · rw [if_pos c0]
    · rw [if_neg c0, if_pos (by omega), Nat.sub_self, Nat.add_zero]
  · by_cases c0 : t < lo ∨ m ≤ t
    · rw [if_pos c0]
    · rw [if_neg c0, if_neg (by omega), Nat.sub_self, Nat.sub_zero]

/-- 'for k := a; k < a+n; k++ { swap k, k+1 }' -/
def bubU (a : Nat) : Nat → Array α → Array α
  | 0, d => d
  | n + 1, d => swp (bubU a n d) (a + n) (a + n + 1)
theorem size_bubU (a : Nat) (d : Array α) : ∀ n, (bubU a n d).size = d.size
  | 0 => rfl
  | n + 1 => by rw [bubU, size_swp, size_bubU a d n]
theorem bubU_get (a : Nat) (d : Array α) : ∀ n, a + n < d.size → ∀ t, (bubU a n d)[t]! = if t = a + n then d[a]! else if a ≤ t ∧ t < a + n then d[t + 1]! else d[t]!
  | 0, _, t => by
    rw [bubU]
    by_cases c : t = a + 0
    · rw [if_pos c, c]; rfl
    · rw [if_neg c, if_neg (by omega)]
  | n + 1, h, t => by
    have ih := bubU_get a d n (by omega)
    have hs := size_bubU a d n
    rw [bubU, swp_get _ (by omega) (by omega)]
    by_cases e1 : t = a + n + 1
    · rw [if_pos e1, ih, if_pos rfl, if_pos (by omega)]
    · rw [if_neg e1, if_neg (show ¬ t = a + (n + 1) by omega)]
      by_cases e2 : t = a + n
      · rw [if_pos e2, ih, if_neg (by omega), if_neg (by omega), if_pos (by omega), e2]
      · rw [if_neg e2, ih, if_neg e2]
        by_cases c1 : a ≤ t ∧ t < a + n
        · rw [if_pos c1, if_pos (by omega)]
        · rw [if_neg c1, if_neg (by omega)]
theorem bubU_perm (a lo hi : Nat) (d : Array α) (h1 : lo ≤ a) (hs : hi ≤ d.size) : ∀ n, a + n < hi → PermIn lo hi d (bubU a n d)
  | 0, _ => permIn_refl _ _ _
  | n + 1, h => permIn_trans _ _ _ _ _ (bubU_perm a lo hi d h1 hs n (by omega)) (swp_permIn _ _ _ _ _ (by omega) (by omega) (by omega) (by omega) (by rw [size_bubU]; exact hs))
/-- 'for k := m; k > m-n; k-- { swap k, k-1 }' -/
def bubD (m : Nat) : Nat → Array α → Array α
  | 0, d => d
  | n + 1, d => swp (bubD m n d) (m - n) (m - n - 1)
theorem size_bubD (m : Nat) (d : Array α) : ∀ n, (bubD m n d).size = d.size
  | 0 => rfl
  | n + 1 => by rw [bubD, size_swp, size_bubD m d n]
theorem bubD_get (m : Nat) (d : Array α) (hm : m < d.size) : ∀ n, n ≤ m → ∀ t, (bubD m n d)[t]! = if t = m - n then d[m]! else if m - n < t ∧ t ≤ m then d[t - 1]! else d[t]!
  | 0, _, t => by
    rw [bubD]
    by_cases c : t = m - 0
    · rw [if_pos c, c]; rfl
    · rw [if_neg c, if_neg (by omega)]
  | n + 1, h, t => by
    have ih := bubD_get m d hm n (by omega)
    have hs := size_bubD m d n
    rw [bubD, swp_get _ (by omega) (by omega)]
    by_cases e1 : t = m - n - 1
    · rw [if_pos e1, ih, if_pos rfl, if_pos (by omega)]
    · rw [if_neg e1, if_neg (show ¬ t = m - (n + 1) by omega)]
      by_cases e2 : t = m - n
      · rw [if_pos e2, ih, if_neg (by omega), if_neg (by omega), if_pos (by omega), e2]
      · rw [if_neg e2, ih, if_neg e2]
        by_cases c1 : m - n < t ∧ t ≤ m
        · rw [if_pos c1, if_pos (by omega)]
        · rw [if_neg c1, if_neg (by omega)]
theorem bubD_perm (m lo hi : Nat) (d : Array α) (hm : m < hi) (hs : hi ≤ d.size) : ∀ n, lo + n ≤ m → PermIn lo hi d (bubD m n d)
  | 0, _ => permIn_refl _ _ _
  | n + 1, h => permIn_trans _ _ _ _ _ (bubD_perm m lo hi d hm hs n (by omega)) (swp_permIn _ _ _ _ _ (by omega) (by omega) (by omega) (by omega) (by rw [size_bubD]; exact hs))

variable {lt : α → α → Bool}
theorem swo_asymm (h : SWO lt) {x y : α} (hx : lt x y = true) : lt y x = false := by
  rcases hy : lt y x with _ | _
  · rfl
  · have := h.trans _ _ _ hx hy
    rw [h.irrefl] at this
    cases this
theorem sortedIn_le (h : SWO lt) {a b : Nat} {d : Array α} (hs : SortedIn lt a b d) {i j : Nat} (h1 : a ≤ i) (h2 : i ≤ j) (h3 : j < b) : lt d[j]! d[i]! = false := by
  rcases Nat.lt_or_ge i j with hlt | hge
  · exact hs i j h1 hlt h3
  · have : i = j := by omega
    subst this
    exact h.irrefl _
/-- one element ahead of a sorted row, laid in -/
theorem merge_one (h : SWO lt) {a b i : Nat} {d : Array α} (hb : b ≤ d.size) (h1 : a + 1 ≤ i) (h2 : i ≤ b) (hs : SortedIn lt (a + 1) b d) (hl : i = a + 1 ∨ lt d[i - 1]! d[a]! = true) (hr : i = b ∨ lt d[i]! d[a]! = false) :
    PermIn a b d (bubU a (i - 1 - a) d) ∧ SortedIn lt a b (bubU a (i - 1 - a) d) := by
  have hg := bubU_get a d (i - 1 - a) (by omega)
  refine ⟨bubU_perm a a b d (Nat.le_refl _) hb _ (by omega), fun p q hp hpq hq => ?_⟩
  have lo : ∀ p', a + 1 ≤ p' → p' < i → lt d[a]! d[p']! = false := fun p' k1 k2 => by
    rcases hl with e | e
    · omega
    · exact h.ntrans _ _ _ (swo_asymm h e) (sortedIn_le h hs k1 (by omega) (by omega))
  have hi : ∀ q', i ≤ q' → q' < b → lt d[q']! d[a]! = false := fun q' k1 k2 => by
    rcases hr with e | e
    · omega
    · exact h.ntrans _ _ _ (sortedIn_le h hs h1 k1 k2) e
  rw [hg, hg]
  by_cases e1 : p = a + (i - 1 - a)
  · rw [if_pos e1, if_neg (by omega), if_neg (by omega)]
    exact hi q (by omega) hq
  · rw [if_neg e1]
    by_cases e2 : q = a + (i - 1 - a)
    · rw [if_pos e2, if_pos (by omega)]
      exact lo (p + 1) (by omega) (by omega)
    · rw [if_neg e2]
      by_cases c1 : a ≤ p ∧ p < a + (i - 1 - a)
      · rw [if_pos c1]
        by_cases c2 : a ≤ q ∧ q < a + (i - 1 - a)
        · rw [if_pos c2]; exact sortedIn_le h hs (by omega) (by omega) (by omega)
        · rw [if_neg c2]; exact sortedIn_le h hs (by omega) (by omega) (by omega)
      · rw [if_neg c1, if_neg (by omega)]
        exact sortedIn_le h hs (by omega) (by omega) (by omega)
/-- one element behind a sorted row, laid in -/
theorem merge_last (h : SWO lt) {a m i : Nat} {d : Array α} (hb : m + 1 ≤ d.size) (h1 : a ≤ i) (h2 : i ≤ m) (hs : SortedIn lt a m d) (hl : i = a ∨ lt d[m]! d[i - 1]! = false) (hr : i = m ∨ lt d[m]! d[i]! = true) :
    PermIn a (m + 1) d (bubD m (m - i) d) ∧ SortedIn lt a (m + 1) (bubD m (m - i) d) := by
  have hg := bubD_get m d (by omega) (m - i) (by omega)
  have em : m - (m - i) = i := by omega
  rw [em] at hg
  refine ⟨bubD_perm m a (m + 1) d (by omega) hb _ (by omega), fun p q hp hpq hq => ?_⟩
  have lo : ∀ p', a ≤ p' → p' < i → lt d[m]! d[p']! = false := fun p' k1 k2 => by
    rcases hl with e | e
    · omega
    · exact h.ntrans _ _ _ e (sortedIn_le h hs k1 (by omega) (by omega))
  have hi : ∀ q', i ≤ q' → q' < m → lt d[q']! d[m]! = false := fun q' k1 k2 => by
    rcases hr with e | e
    · omega
    · exact h.ntrans _ _ _ (sortedIn_le h hs h1 k1 k2) (swo_asymm h e)
  rw [hg, hg]
  by_cases e1 : p = i
  · rw [if_pos e1, if_neg (by omega), if_pos (by omega)]
    exact hi (q - 1) (by omega) (by omega)
  · rw [if_neg e1]
    by_cases e2 : q = i
    · rw [if_pos e2, if_neg (by omega)]
      exact lo p hp (by omega)
    · rw [if_neg e2]
      by_cases c1 : i < p ∧ p ≤ m
      · rw [if_pos c1, if_pos (by omega)]
        exact sortedIn_le h hs (by omega) (by omega) (by omega)
      · rw [if_neg c1]
        by_cases c2 : i < q ∧ q ≤ m
        · rw [if_pos c2]; exact sortedIn_le h hs (by omega) (by omega) (by omega)
        · rw [if_neg c2]; exact sortedIn_le h hs (by omega) (by omega) (by omega)

/-- THE STEP: behind the search and the turn, the two halves want merging, each by itself; what the two calls are owed, and what they bring -/
theorem sym_step (h : SWO lt) {a m b mid s e r0 s0 : Nat} {d d1 : Array α} (hb : b ≤ d.size) (ham : a < m) (hmb : m < b) (hmid1 : a < mid) (hmid2 : mid < b) (he : e + s = mid + m) (hme : m ≤ e) (heb : e ≤ b) (has : a ≤ s) (hsm : s ≤ m) (hsd : s ≤ mid)
    (hA : SortedIn lt a m d) (hB : SortedIn lt m b d)
    (hl : s = a ∨ e = b ∨ lt d[e]! d[s - 1]! = false) (hr : s = m ∨ e = m ∨ lt d[e - 1]! d[s]! = true)
    (hz : d1.size = d.size) (hrot : RotOf s m e d d1) :
    SortedIn lt a s d1 ∧ SortedIn lt s mid d1 ∧ SortedIn lt mid e d1 ∧ SortedIn lt e b d1 ∧ ∀ p q, a ≤ p → p < mid → mid ≤ q → q < b → lt d1[q]! d1[p]! = false := by
  have g1 : ∀ t, t < s → d1[t]! = d[t]! := fun t ht => by rw [hrot t, if_pos (by omega)]
  have g2 : ∀ t, s ≤ t → t < mid → d1[t]! = d[t + (m - s)]! := fun t k1 k2 => by rw [hrot t, if_neg (by omega), if_pos (by omega)]
  have g3 : ∀ t, mid ≤ t → t < e → d1[t]! = d[t - (e - m)]! := fun t k1 k2 => by rw [hrot t, if_neg (by omega), if_neg (by omega)]
  have g4 : ∀ t, e ≤ t → d1[t]! = d[t]! := fun t k1 => by rw [hrot t, if_pos (by omega)]
  have sA : ∀ i j, a ≤ i → i ≤ j → j < m → lt d[j]! d[i]! = false := fun i j k1 k2 k3 => sortedIn_le h hA k1 k2 k3
  have sB : ∀ i j, m ≤ i → i ≤ j → j < b → lt d[j]! d[i]! = false := fun i j k1 k2 k3 => sortedIn_le h hB k1 k2 k3
  refine ⟨fun i j k1 k2 k3 => ?_, fun i j k1 k2 k3 => ?_, fun i j k1 k2 k3 => ?_, fun i j k1 k2 k3 => ?_, fun p q k1 k2 k3 k4 => ?_⟩
  · rw [g1 _ (by omega), g1 _ (by omega)]; exact sA _ _ k1 (by omega) (by omega)
  · rw [g2 _ (by omega) (by omega), g2 _ (by omega) (by omega)]; exact sB _ _ (by omega) (by omega) (by omega)
  · rw [g3 _ (by omega) (by omega), g3 _ (by omega) (by omega)]; exact sA _ _ (by omega) (by omega) (by omega)
  · rw [g4 _ (by omega), g4 _ (by omega)]; exact sB _ _ (by omega) (by omega) k3
  · by_cases cp : p < s
    · rw [g1 _ cp]
      by_cases cq : q < e
      · rw [g3 _ k3 cq]; exact sA _ _ k1 (by omega) (by omega)
      · rw [g4 _ (by omega)]
        rcases hl with hl | hl | hl
        · omega
        · omega
        · exact h.ntrans _ _ _ (sB e q hme (by omega) k4) (h.ntrans _ _ _ hl (sA p (s - 1) k1 (by omega) (by omega)))
    · rw [g2 _ (by omega) k2]
      by_cases cq : q < e
      · rw [g3 _ k3 cq]
        rcases hr with hr | hr | hr
        · omega
        · omega
        · exact h.ntrans _ _ _ (sA s (q - (e - m)) has (by omega) (by omega)) (h.ntrans _ _ _ (swo_asymm h hr) (sB (p + (m - s)) (e - 1) (by omega) (by omega) (by omega)))
      · rw [g4 _ (by omega)]
        exact sB _ _ (by omega) (by omega) k4
/-- .. the left half merged, the right half merged: all is -/
theorem sym_join (h : SWO lt) {a b mid : Nat} {d1 d2 d3 : Array α} (h1 : a ≤ mid) (h2 : mid ≤ b) (hb : b ≤ d1.size) (hx : ∀ p q, a ≤ p → p < mid → mid ≤ q → q < b → lt d1[q]! d1[p]! = false)
    (p2 : PermIn a mid d1 d2) (s2 : SortedIn lt a mid d2) (p3 : PermIn mid b d2 d3) (s3 : SortedIn lt mid b d3) : PermIn a b d1 d3 ∧ SortedIn lt a b d3 := by
  have z2 := p2.1
  refine ⟨permIn_trans _ _ _ _ _ (permIn_mono _ _ _ _ _ _ (Nat.le_refl _) h2 hb p2) (permIn_mono _ _ _ _ _ _ h1 (Nat.le_refl _) (by omega) p3), fun i j k1 k2 k3 => ?_⟩
  by_cases cj : j < mid
  · rw [p3.2.1 i (Or.inl (by omega)), p3.2.1 j (Or.inl cj)]
    exact s2 i j k1 k2 cj
  · by_cases ci : mid ≤ i
    · exact s3 i j ci k2 k3
    · have e1 : d3[i]! = d2[i]! := p3.2.1 i (Or.inl (by omega))
      have a2 : ∀ i, a ≤ i → i < mid → (∀ q, mid ≤ q → q < b → lt d1[q]! d2[i]! = false) :=
        permIn_all d1 d2 a mid (fun x => ∀ q, mid ≤ q → q < b → lt d1[q]! x = false) (by omega) p2 (fun i k1 k2 q k3 k4 => hx i q k1 k2 k3 k4)
      have a3 : ∀ j, mid ≤ j → j < b → lt d3[j]! d2[i]! = false :=
        permIn_all d2 d3 mid b (fun x => lt x d2[i]! = false) (by omega) p3 (fun j k1 k2 => by rw [p2.2.1 j (Or.inr k1)]; exact a2 i (by omega) (by omega) j k1 k2)
      rw [e1]
      exact a3 j (by omega) k3
theorem rot_perm_of {a b s m e : Nat} {d d1 : Array α} (hz : PermIn s e d d1) (h1 : a ≤ s) (h2 : e ≤ b) (hb : b ≤ d.size) : PermIn a b d d1 := permIn_mono _ _ _ _ _ _ h1 h2 hb hz
/-- what a permutation of other places leaves sorted -/
theorem sortedIn_out {a b lo hi : Nat} {d d' : Array α} (hs : SortedIn lt a b d) (hp : PermIn lo hi d d') (h : b ≤ lo ∨ hi ≤ a) : SortedIn lt a b d' := fun i j k1 k2 k3 => by
  rw [hp.2.1 i (by omega), hp.2.1 j (by omega)]
  exact hs i j k1 k2 k3
theorem sortedIn_empty {a b : Nat} {d : Array α} (h : b ≤ a + 1) : SortedIn lt a b d := fun i j _ _ _ => by omega
end
end Go.Proofs.Ytpgkdpoehkdhcaa
