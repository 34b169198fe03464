/- Plain arithmetic of rows: lifting as functions of the place. No program in sight. -/
namespace Go.Proofs.Ytmcdhdofgaoadaa
set_option linter.unusedVariables false

/-- the neighbours of a place, mirrored at the ends (n is at least 2) -/
def lft (k : Nat) : Nat := if k = 0 then 1 else k - 1
def rgt (n k : Nat) : Nat := if k + 1 = n then k - 1 else k + 1
def besF (n : Nat) (f : Nat → Int) (k : Nat) : Int := f (lft k) + f (rgt n k)

theorem lft_lt {n k : Nat} (hn : 2 ≤ n) (hk : k < n) : lft k < n := by unfold lft; split <;> omega
theorem rgt_lt {n k : Nat} (hn : 2 ≤ n) (hk : k < n) : rgt n k < n := by unfold rgt; split <;> omega
theorem lft_par (k : Nat) : lft k % 2 ≠ k % 2 := by unfold lft; split <;> omega
theorem rgt_par {n k : Nat} (hn : 2 ≤ n) (hk : k < n) : rgt n k % 2 ≠ k % 2 := by unfold rgt; split <;> omega

/-- the first step: odd places less half of their neighbours; of the places below m alone -/
def lift1 (n o : Nat) (f : Nat → Int) (m k : Nat) : Int := if k % 2 ≠ o ∧ k < m then f k - besF n f k / 2 else f k
/-- the second step: even places -/
def lift2 (n o : Nat) (h : Nat → Int) (m k : Nat) : Int := if k % 2 = o ∧ k < m then h k + (besF n h k + 2) / 4 else h k
/-- back -/
def drop2 (n o : Nat) (h : Nat → Int) (m k : Nat) : Int := if k % 2 = o ∧ k < m then h k - (besF n h k + 2) / 4 else h k
def drop1 (n o : Nat) (f : Nat → Int) (m k : Nat) : Int := if k % 2 ≠ o ∧ k < m then f k + besF n f k / 2 else f k

/-- how many places are even ones -/
def low (n o : Nat) : Nat := (n + 1 - o) / 2
/-- where the i-th of the parted row stands -/
def spot (n o i : Nat) : Nat := if i < low n o then 2 * i + o else 2 * (i - low n o) + (1 - o)
/-- where place k stands in the parted row -/
def home (n o k : Nat) : Nat := if k % 2 = o then k / 2 else low n o + k / 2

theorem low_le {n o : Nat} (ho : o ≤ 1) : low n o ≤ n := by unfold low; omega
theorem spot_lt {n o i : Nat} (ho : o ≤ 1) (hi : i < n) : spot n o i < n := by unfold spot low; split <;> omega
theorem home_lt {n o k : Nat} (ho : o ≤ 1) (hk : k < n) : home n o k < n := by unfold home low; split <;> omega
theorem home_spot {n o i : Nat} (ho : o ≤ 1) (hi : i < n) : home n o (spot n o i) = i := by
  unfold home spot
  by_cases h : i < low n o
  · rw [if_pos h, if_pos (by omega)]; omega
  · rw [if_neg h, if_neg (by omega)]; omega
theorem spot_home {n o k : Nat} (ho : o ≤ 1) (hk : k < n) : spot n o (home n o k) = k := by
  unfold home spot
  by_cases h : k % 2 = o
  · rw [if_pos h, if_pos (by unfold low; omega)]; omega
  · rw [if_neg h, if_neg (by omega)]; omega

/-- a row split: lower ones first -/
def splitF (n o : Nat) (f : Nat → Int) (i : Nat) : Int :=
  if n = 1 then (if o = 1 then 2 * f i else f i) else lift2 n o (lift1 n o f n) n (spot n o i)
/-- a row joined -/
def joinF (n o : Nat) (v : Nat → Int) (k : Nat) : Int :=
  if n = 1 then (if o = 1 then v k / 2 else v k) else drop1 n o (drop2 n o (fun j => v (home n o j)) n) n k

theorem besF_congr {n k : Nat} {f g : Nat → Int} (hn : 2 ≤ n) (hk : k < n) (h : ∀ j, j < n → j % 2 ≠ k % 2 → f j = g j) : besF n f k = besF n g k := by
  unfold besF
  rw [h _ (lft_lt hn hk) (lft_par k), h _ (rgt_lt hn hk) (rgt_par hn hk)]

/-- one step more of each -/
theorem lift1_step {n o m : Nat} {f : Nat → Int} (hn : 2 ≤ n) (hm : m < n) (ho : o ≤ 1) (hp : m % 2 ≠ o) (k : Nat) (hk : k < n) :
    (if k = m then lift1 n o f m m - besF n (lift1 n o f m) m / 2 else lift1 n o f m k) = lift1 n o f (m + 2) k := by
  have hb : besF n (lift1 n o f m) m = besF n f m := besF_congr hn hm fun j hj hp' => by unfold lift1; rw [if_neg (by omega)]
  by_cases e : k = m
  · subst e
    rw [if_pos rfl, hb]
    unfold lift1
    rw [if_neg (by omega), if_pos (by omega)]
  · rw [if_neg e]
    unfold lift1
    by_cases c : k % 2 ≠ o ∧ k < m
    · rw [if_pos c, if_pos (by omega)]
    · rw [if_neg c, if_neg (by omega)]
theorem lift2_step {n o m : Nat} {f : Nat → Int} (hn : 2 ≤ n) (hm : m < n) (ho : o ≤ 1) (hp : m % 2 = o) (k : Nat) (hk : k < n) :
    (if k = m then lift2 n o f m m + (besF n (lift2 n o f m) m + 2) / 4 else lift2 n o f m k) = lift2 n o f (m + 2) k := by
  have hb : besF n (lift2 n o f m) m = besF n f m := besF_congr hn hm fun j hj hp' => by unfold lift2; rw [if_neg (by omega)]
  by_cases e : k = m
  · subst e
    rw [if_pos rfl, hb]
    unfold lift2
    rw [if_neg (by omega), if_pos (by omega)]
  · rw [if_neg e]
    unfold lift2
    by_cases c : k % 2 = o ∧ k < m
    · rw [if_pos c, if_pos (by omega)]
    · rw [if_neg c, if_neg (by omega)]
theorem drop2_step {n o m : Nat} {f : Nat → Int} (hn : 2 ≤ n) (hm : m < n) (ho : o ≤ 1) (hp : m % 2 = o) (k : Nat) (hk : k < n) :
    (if k = m then drop2 n o f m m - (besF n (drop2 n o f m) m + 2) / 4 else drop2 n o f m k) = drop2 n o f (m + 2) k := by
  have hb : besF n (drop2 n o f m) m = besF n f m := besF_congr hn hm fun j hj hp' => by unfold drop2; rw [if_neg (by omega)]
  by_cases e : k = m
  · subst e
    rw [if_pos rfl, hb]
    unfold drop2
    rw [if_neg (by omega), if_pos (by omega)]
  · rw [if_neg e]
    unfold drop2
    by_cases c : k % 2 = o ∧ k < m
    · rw [if_pos c, if_pos (by omega)]
    · rw [if_neg c, if_neg (by omega)]
theorem drop1_step {n o m : Nat} {f : Nat → Int} (hn : 2 ≤ n) (hm : m < n) (ho : o ≤ 1) (hp : m % 2 ≠ o) (k : Nat) (hk : k < n) :
    (if k = m then drop1 n o f m m + besF n (drop1 n o f m) m / 2 else drop1 n o f m k) = drop1 n o f (m + 2) k := by
  have hb : besF n (drop1 n o f m) m = besF n f m := besF_congr hn hm fun j hj hp' => by unfold drop1; rw [if_neg (by omega)]
  by_cases e : k = m
  · subst e
    rw [if_pos rfl, hb]
    unfold drop1
    rw [if_neg (by omega), if_pos (by omega)]
  · rw [if_neg e]
    unfold drop1
    by_cases c : k % 2 ≠ o ∧ k < m
    · rw [if_pos c, if_pos (by omega)]
    · rw [if_neg c, if_neg (by omega)]

/-- bounds -/
def Within (n : Nat) (M : Int) (f : Nat → Int) : Prop := ∀ k, k < n → -M ≤ f k ∧ f k ≤ M
theorem besF_bd {n k : Nat} {M : Int} {f : Nat → Int} (hn : 2 ≤ n) (hk : k < n) (h : Within n M f) : -(2 * M) ≤ besF n f k ∧ besF n f k ≤ 2 * M := by
  have h1 := h _ (lft_lt hn hk)
  have h2 := h _ (rgt_lt hn hk)
  unfold besF; omega
theorem lift1_bd {n o m : Nat} {M : Int} {f : Nat → Int} (hn : 2 ≤ n) (h : Within n M f) : Within n (2 * M + 1) (lift1 n o f m) := fun k hk => by
  have h1 := h k hk
  have h2 := besF_bd hn hk h
  unfold lift1; split <;> omega
theorem lift2_bd {n o m : Nat} {M : Int} {f : Nat → Int} (hn : 2 ≤ n) (h : Within n M f) : Within n (2 * M + 1) (lift2 n o f m) := fun k hk => by
  have h1 := h k hk
  have h2 := besF_bd hn hk h
  unfold lift2; split <;> omega
theorem drop2_bd {n o m : Nat} {M : Int} {f : Nat → Int} (hn : 2 ≤ n) (h : Within n M f) : Within n (2 * M + 1) (drop2 n o f m) := fun k hk => by
  have h1 := h k hk
  have h2 := besF_bd hn hk h
  unfold drop2; split <;> omega
theorem drop1_bd {n o m : Nat} {M : Int} {f : Nat → Int} (hn : 2 ≤ n) (h : Within n M f) : Within n (2 * M + 1) (drop1 n o f m) := fun k hk => by
  have h1 := h k hk
  have h2 := besF_bd hn hk h
  unfold drop1; split <;> omega
theorem splitF_bd {n o : Nat} {M : Int} {f : Nat → Int} (ho : o ≤ 1) (h : Within n M f) : Within n (4 * M + 3) (splitF n o f) := fun k hk => by
  unfold splitF
  have h1 := h k hk
  split
  · split <;> omega
  · have := lift2_bd (o := o) (m := n) (by omega) (lift1_bd (o := o) (m := n) (by omega) h) _ (spot_lt ho hk)
    omega
theorem joinF_bd {n o : Nat} {M : Int} {f : Nat → Int} (ho : o ≤ 1) (h : Within n M f) : Within n (4 * M + 3) (joinF n o f) := fun k hk => by
  unfold joinF
  have h1 := h k hk
  split
  · split <;> omega
  · have h' : Within n M (fun j => f (home n o j)) := fun j hj => h _ (home_lt ho hj)
    have := drop1_bd (o := o) (m := n) (by omega) (drop2_bd (o := o) (m := n) (by omega) h') k hk
    omega

/-- THE ROW COMES BACK. -/
theorem join_split {n o : Nat} {f : Nat → Int} (ho : o ≤ 1) (k : Nat) (hk : k < n) : joinF n o (splitF n o f) k = f k := by
  unfold joinF
  by_cases h1 : n = 1
  · rw [if_pos h1]
    unfold splitF
    rw [if_pos h1]
    split <;> omega
  · rw [if_neg h1]
    have hn : 2 ≤ n := by omega
    have e0 : ∀ j, j < n → (fun j => splitF n o f (home n o j)) j = lift2 n o (lift1 n o f n) n j := fun j hj => by
      show splitF n o f (home n o j) = _
      unfold splitF
      rw [if_neg h1, spot_home ho hj]
    have e1 : ∀ j, j < n → drop2 n o (fun j => splitF n o f (home n o j)) n j = lift1 n o f n j := fun j hj => by
      have hb : besF n (fun j => splitF n o f (home n o j)) j = besF n (lift2 n o (lift1 n o f n) n) j := by
        unfold besF
        rw [e0 _ (lft_lt hn hj), e0 _ (rgt_lt hn hj)]
      unfold drop2
      rw [hb, e0 j hj]
      by_cases c : j % 2 = o
      · have hb2 : besF n (lift2 n o (lift1 n o f n) n) j = besF n (lift1 n o f n) j := besF_congr hn hj fun i hi hp => by
          show lift2 n o (lift1 n o f n) n i = _
          unfold lift2; rw [if_neg (by omega)]
        rw [if_pos ⟨c, hj⟩, hb2]
        show lift2 n o (lift1 n o f n) n j - _ = _
        unfold lift2; rw [if_pos ⟨c, hj⟩]; omega
      · rw [if_neg (by omega)]
        unfold lift2; rw [if_neg (by omega)]
    unfold drop1
    have hb : besF n (drop2 n o (fun j => splitF n o f (home n o j)) n) k = besF n (lift1 n o f n) k := by
      unfold besF
      rw [e1 _ (lft_lt hn hk), e1 _ (rgt_lt hn hk)]
    rw [hb, e1 k hk]
    by_cases c : k % 2 ≠ o
    · have hb2 : besF n (lift1 n o f n) k = besF n f k := besF_congr hn hk fun i hi hp => by
        unfold lift1; rw [if_neg (by omega)]
      rw [if_pos ⟨c, hk⟩, hb2]
      unfold lift1; rw [if_pos ⟨c, hk⟩]; omega
    · rw [if_neg (by omega)]
      unfold lift1; rw [if_neg (by omega)]
end Go.Proofs.Ytmcdhdofgaoadaa
