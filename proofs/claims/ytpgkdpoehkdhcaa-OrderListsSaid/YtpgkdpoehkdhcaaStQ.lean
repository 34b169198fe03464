/- THE PLAIN THEORY OF slices.stableCmpFunc: rows of sorted blocks. No program in sight. -/
import Derived.Test.YtpgkdpoehkdhcaaStabP
namespace Go.Proofs.Ytpgkdpoehkdhcaa
open Go.Sort
set_option linter.unusedVariables false
set_option linter.unusedSectionVars false
section
variable {α : Type} [Inhabited α] {lt : α → α → Bool}
/-- up to a: blocks of bs, each sorted -/
inductive Pre (lt : α → α → Bool) (d : Array α) (bs : Nat) : Nat → Prop
  | start : Pre lt d bs 0
  | step (a : Nat) : Pre lt d bs a → SortedIn lt a (a + bs) d → Pre lt d bs (a + bs)
/-- from a on: blocks of bs, each sorted, the last one perhaps shorter -/
inductive Blk (lt : α → α → Bool) (d : Array α) (bs n : Nat) : Nat → Prop
  | last (a : Nat) : a ≤ n → n < a + bs → SortedIn lt a n d → Blk lt d bs n a
  | cons (a : Nat) : a + bs ≤ n → SortedIn lt a (a + bs) d → Blk lt d bs n (a + bs) → Blk lt d bs n a
theorem Pre.join {d : Array α} {bs n a : Nat} (h : Pre lt d bs a) : Blk lt d bs n a → a ≤ n → Blk lt d bs n 0 := by
  induction h with
  | start => exact fun h _ => h
  | step a _ hs ih => exact fun hb hn => ih (Blk.cons a hn hs hb) (by omega)
theorem Pre.kept {d d' : Array α} {bs a lo hi : Nat} (h : Pre lt d bs a) (hp : PermIn lo hi d d') : a ≤ lo → Pre lt d' bs a := by
  induction h with
  | start => exact fun _ => Pre.start
  | step a _ hs ih => exact fun hn => Pre.step a (ih (by omega)) (sortedIn_out hs hp (Or.inl (by omega)))
theorem Pre.next {d : Array α} {bs a b : Nat} (e : a + bs = b) (h : Pre lt d bs a) (hs : SortedIn lt a b d) : Pre lt d bs b := by
  subst e; exact Pre.step a h hs
theorem Blk.kept {d d' : Array α} {bs n a lo hi : Nat} (h : Blk lt d bs n a) (hp : PermIn lo hi d d') : hi ≤ a → Blk lt d' bs n a := by
  induction h with
  | last a h1 h2 hs => exact fun hn => Blk.last a h1 h2 (sortedIn_out hs hp (Or.inr hn))
  | cons a h1 hs _ ih => exact fun hn => Blk.cons a h1 (sortedIn_out hs hp (Or.inr hn)) (ih (by omega))
theorem Blk.two {d : Array α} {bs n a : Nat} (h : Blk lt d bs n a) (hn : a + bs + bs ≤ n) (h0 : 0 < bs) : SortedIn lt a (a + bs) d ∧ SortedIn lt (a + bs) (a + bs + bs) d ∧ Blk lt d bs n (a + bs + bs) := by
  cases h with
  | last _ h1 h2 hs => exact absurd h2 (by omega)
  | cons _ h1 hs hb =>
    cases hb with
    | last _ h3 h4 h5 => exact absurd h4 (by omega)
    | cons _ h3 h4 h5 => exact ⟨hs, h4, h5⟩
theorem Blk.one {d : Array α} {bs n a : Nat} (h : Blk lt d bs n a) (hn : a + bs < n) (hn2 : n < a + bs + bs) : SortedIn lt a (a + bs) d ∧ SortedIn lt (a + bs) n d := by
  cases h with
  | last _ h1 h2 hs => exact absurd h2 (by omega)
  | cons _ h1 hs hb =>
    cases hb with
    | last _ h3 h4 h5 => exact ⟨hs, h5⟩
    | cons _ h3 h4 h5 => exact absurd h3 (by omega)
theorem Blk.none {d : Array α} {bs n a : Nat} (h : Blk lt d bs n a) (hn : n ≤ a + bs) : SortedIn lt a n d := by
  cases h with
  | last _ h1 h2 hs => exact hs
  | cons _ h1 hs hb =>
    have : n = a + bs := by omega
    rw [this]; exact hs
end
end Go.Proofs.Ytpgkdpoehkdhcaa
