/- A REGION THAT DRAWS, WHOSE LAST OPERATION (one that waits for all others) MAY BREAK S: S is owed behind every other operation, not behind that one. So what the last one stores into may be loaded first. -/
import Derived.Test.YtpgkdpoehkdhcaaTake
namespace Go.Proofs.Ytpgkdpoehkdhcaa
open Go.RowKit
set_option maxRecDepth 100000
set_option linter.unusedVariables false

section
variable {P : Program} {ops : Array Oper} {Q : Exit → Act → World → Prop} {md : Region.Mode} {S : World → Prop}

/-- the operation waits for all others -/
def isLast (md : Region.Mode) (ops : Array Oper) (j : Nat) : Bool := (List.range ops.size).all fun k => k == j || ((ops[j]?).map fun o => o.after.any fun e => Region.binds md e && e.on == k).getD false

def wpAnyL (P : Program) (md : Region.Mode) (ops : Array Oper) (Q : Exit → Act → World → Prop) (S : World → Prop) : Nat → Array Bool → Act → World → Prop
  | 0, listed, a, w => Region.ready md ops listed = [] ∧ Q .normal a w
  | fuel + 1, listed, a, w => (Region.ready md ops listed = [] → Q .normal a w) ∧
    ∀ i ∈ Region.ready md ops listed, wpOp P ops Q i (fun a' w' => (isLast md ops i = false → S w') ∧ wpAnyL P md ops Q S fuel (listed.setIfInBounds i true) a' w') a w

theorem wpAny_of_L : ∀ (fuel : Nat) (listed : Array Bool) (a : Act) (w : World), wpAnyL P md ops Q S fuel listed a w → wpAny P md ops Q fuel listed a w
  | 0, _, _, _, h => h
  | fuel + 1, _, _, _, h => ⟨h.1, fun i hi => wpOp_mono (fun a' w' h' => wpAny_of_L fuel _ a' w' h'.2) (h.2 i hi)⟩

theorem last_spec {i j : Nat} {listed : Array Bool} (hl : isLast md ops j = true) (hj : j ∈ Region.ready md ops listed) (hi : i ∈ Region.ready md ops listed) : j = i := by
  obtain ⟨_, oj, hoj, hall⟩ := mem_ready.1 hj
  obtain ⟨hiu, oi, hoi, _⟩ := mem_ready.1 hi
  unfold isLast at hl
  rw [List.all_eq_true] at hl
  have h := hl i (List.mem_range.2 (Array.getElem?_eq_some_iff.1 hoi).1)
  rw [hoj] at h
  simp only [Option.map_some, Option.getD_some, Bool.or_eq_true, beq_iff_eq, Array.any_eq_true, Bool.and_eq_true] at h
  rcases h with h | ⟨k, hk, hb, he⟩
  · exact h.symm
  · have h1 := hall _ (Array.getElem_mem hk) hb
    rw [he] at h1
    rcases Nat.lt_or_ge i listed.size with h' | h'
    · simp [h'] at hiu h1; rw [hiu] at h1; cases h1
    · simp [Array.getElem?_eq_none h'] at h1

theorem first_L {i : Nat} {oi : Oper} {v : Value} (Y : Act → Prop) (hs : ∀ a w (K : Act → World → Prop), Y a → S w → K (a.put oi.dst v) w → wpOp P ops Q i K a w)
    (hp : ∀ (j : Nat) (oj : Oper) a w (K : Act → World → Prop), ops[j]? = some oj → oi.apart ops oj = true → Y a → wpOp P ops Q j K (a.put oi.dst v) w → wpOp P ops Q j (fun a' w' => Y a' ∧ K (a'.put oi.dst v) w') a w) :
    ∀ (fuel : Nat) (listed : Array Bool) (a : Act) (w : World),
      (∀ j oj, ops[j]? = some oj → j ≠ i → listed.getD j true = false → (∀ e ∈ oj.after, Region.binds md e = true → e.on ≠ i) → oi.apart ops oj = true) →
      i ∈ Region.ready md ops listed → Y a → S w →
      wpAnyL P md ops Q S fuel (listed.setIfInBounds i true) (a.put oi.dst v) w → wpAnyL P md ops Q S (fuel + 1) listed a w := by
  intro fuel
  induction fuel with
  | zero =>
    intro listed a w _ hr hy hS H
    refine ⟨fun h => (by rw [h] at hr; cases hr), fun j hj => ?_⟩
    by_cases hji : j = i
    · subst hji; exact hs _ _ _ hy hS ⟨fun _ => hS, H⟩
    · have hb := ready_mono hj hji
      rw [H.1] at hb
      cases hb
  | succ n ih =>
    intro listed a w hfree hr hy hS H
    refine ⟨fun h => (by rw [h] at hr; cases hr), fun j hj => ?_⟩
    by_cases hji : j = i
    · subst hji; exact hs _ _ _ hy hS ⟨fun _ => hS, H⟩
    · obtain ⟨hjun, oj, hoj, hall⟩ := mem_ready.1 hj
      have hri := (mem_ready.1 hr).1
      have hnl : isLast md ops j = false := by
        rcases hl : isLast md ops j with _ | _
        · rfl
        · exact absurd (last_spec hl hj hr) hji
      have hnot : ∀ e ∈ oj.after, Region.binds md e = true → e.on ≠ i := fun e he hb heq => by
        have h1 := hall e he hb
        rw [heq] at h1
        rcases Nat.lt_or_ge i listed.size with h' | h'
        · simp [h'] at hri h1; rw [hri] at h1; cases h1
        · simp [Array.getElem?_eq_none h'] at h1
      have hq := hp j oj a w _ hoj (hfree j oj hoj hji hjun hnot) hy (H.2 j (ready_mono hj hji))
      refine wpOp_mono (fun a' w' ⟨hy', hS', hW'⟩ => ⟨hS', ih (listed.setIfInBounds j true) a' w' ?_ (ready_mono hr (Ne.symm hji)) hy' (hS' hnl) ?_⟩) hq
      · intro k ok hk hki hun hno
        refine hfree k ok hk hki ?_ hno
        by_cases hjk : j = k
        · subst hjk; exact hjun
        · rw [getD_set_ne true hjk] at hun; exact hun
      · rw [Array.setIfInBounds_comm _ _ hji]
        exact hW'

theorem wpAnyL_take {i : Nat} {oi : Oper} {v : Value} {fuel : Nat} {listed : Array Bool} {a : Act} {w : World} (hi : ops[i]? = some oi)
    (hs : Region.noSelect ops = true) (hf : Region.free md ops listed i = true) (hr : (Region.ready md ops listed).contains i = true)
    (hQ : ∀ c a w, Q (.panic c) (a.put oi.dst v) w → Q (.panic c) a w) (hy : YieldsIf P ops S oi v a) (hS : S w)
    (h : wpAnyL P md ops Q S fuel (listed.setIfInBounds i true) (a.put oi.dst v) w) : wpAnyL P md ops Q S (fuel + 1) listed a w :=
  first_L (fun a => YieldsIf P ops S oi v a) (fun a w K hy hS hK => hy.wpOp hi hS hK)
    (fun j oj a w K hj hap hy h => wpOp_putIf hj hap (fun cs b => Region.noSelect_spec hs i oi cs b hi) (fun cs b => Region.noSelect_spec hs j oj cs b hj) hQ hy h)
    fuel listed a w (Region.free_spec hi hf) (by simpa using hr) hy hS h

theorem wpAnyL_call {i : Nat} {oi : Oper} {v : Value} {f : FuncId} {args : Array Value} {fuel : Nat} {listed : Array Bool} {a : Act} {w : World} (hi : ops[i]? = some oi)
    (hs : Region.noSelect ops = true) (hf : Region.free md ops listed i = true) (hr : (Region.ready md ops listed).contains i = true)
    (hQ : ∀ c a w, Q (.panic c) (a.put oi.dst v) w → Q (.panic c) a w) (hy : Region.wanted oi (yielded ops a.tmps) = true) (hc : ∀ w, Calls P f args w fun e w' => e = .returned v ∧ w = w')
    (hrun : ∀ w, S w → (execOp a.eval oi).run P w = .ok (.enter f args) w) (hS : S w)
    (h : wpAnyL P md ops Q S fuel (listed.setIfInBounds i true) (a.put oi.dst v) w) : wpAnyL P md ops Q S (fuel + 1) listed a w :=
  first_L (fun a => Quiet P ops S oi f args v a) (fun a w K hy hS hK => hy.step hi hS hK)
    (fun j oj a w K hj hap hy h => Quiet.past hj hap (fun cs b => Region.noSelect_spec hs i oi cs b hi) (fun cs b => Region.noSelect_spec hs j oj cs b hj) hQ hy h)
    fuel listed a w (Region.free_spec hi hf) (by simpa using hr) ⟨hy, fun w hw => ⟨hrun w hw, hc w⟩⟩ hS h

def AllReadyL (P : Program) (md : Region.Mode) (ops : Array Oper) (Q : Exit → Act → World → Prop) (S : World → Prop) (fuel : Nat) (listed : Array Bool) (a : Act) (w : World) (rs : List Nat) : Prop :=
  ∀ i ∈ rs, wpOp P ops Q i (fun a' w' => (isLast md ops i = false → S w') ∧ wpAnyL P md ops Q S fuel (listed.setIfInBounds i true) a' w') a w
theorem AllReadyL.nil {fuel : Nat} {listed : Array Bool} {a : Act} {w : World} : AllReadyL P md ops Q S fuel listed a w [] := fun _ h => by cases h
theorem AllReadyL.cons {fuel : Nat} {listed : Array Bool} {a : Act} {w : World} {i : Nat} {o : Oper} {rs : List Nat} (ho : ops[i]? = some o)
    (h : ∀ K' : Act → World → Prop, Shut (∀ a w, S w → (S w → wpAnyL P md ops Q S fuel (listed.setIfInBounds i true) a w) → K' a w) → if Region.wanted o (yielded ops a.tmps) = true then Oper.wp P o a w K' Q else K' (a.put o.dst undef) w)
    (hs : AllReadyL P md ops Q S fuel listed a w rs) : AllReadyL P md ops Q S fuel listed a w (i :: rs) := fun j hj => by
  rcases List.mem_cons.1 hj with rfl | hj
  · exact wpOp_step ho (fun K' hK => h K' (fun a w hS hW => hK a w ⟨fun _ => hS, hW hS⟩))
  · exact hs j hj
theorem AllReadyL.last {fuel : Nat} {listed : Array Bool} {a : Act} {w : World} {i : Nat} {o : Oper} (ho : ops[i]? = some o) (hl : isLast md ops i = true)
    (h : ∀ K' : Act → World → Prop, Shut (∀ a w, wpAnyL P md ops Q S fuel (listed.setIfInBounds i true) a w → K' a w) → if Region.wanted o (yielded ops a.tmps) = true then Oper.wp P o a w K' Q else K' (a.put o.dst undef) w) :
    AllReadyL P md ops Q S fuel listed a w [i] := fun j hj => by
  rcases List.mem_cons.1 hj with rfl | hj
  · exact wpOp_step ho (fun K' hK => h K' (fun a w hW => hK a w ⟨fun hf => (by rw [hl] at hf; cases hf), hW⟩))
  · cases hj
theorem wpAnyL_ready {rs : List Nat} {fuel : Nat} {listed : Array Bool} {a : Act} {w : World} (hr : Region.ready md ops listed = rs) (hne : rs ≠ [])
    (h : AllReadyL P md ops Q S fuel listed a w rs) : wpAnyL P md ops Q S (fuel + 1) listed a w := ⟨fun h0 => absurd (hr ▸ h0) hne, hr ▸ h⟩
theorem wpAnyL_done {listed : Array Bool} {a : Act} {w : World} (hr : Region.ready md ops listed = []) (h : Q .normal a w) : ∀ fuel, wpAnyL P md ops Q S fuel listed a w
  | 0 => ⟨hr, h⟩
  | _ + 1 => ⟨fun _ => h, by rw [hr]; simp⟩
end

theorem last_region {P : Program} {ops : Array Oper} {Q : Exit → Act → World → Prop} {id : Nat} (hm : P.follows .mixedOrders = true) (S : World → Prop)
    {K : Act → World → Prop} (hK : ∀ a w, K a w → Q .normal a w) {a : Act} {w : World}
    (h : S w.drew → wpAnyL P .any ops (OnlyN K) S ops.size (Array.replicate ops.size false) a w.drew) (hS : S w.drew) : (Code.region id ops true).wp P Q a w :=
  wp_mono (wp_region_any hm (wpAny_of_L _ _ _ _ (h hS))) (onlyN_imp hK)
/-- J says what the region leaves; what comes behind it is walked once -/
theorem last_cut {P : Program} {ops : Array Oper} {Q : Exit → Act → World → Prop} {id : Nat} (hm : P.follows .mixedOrders = true) (S : World → Prop)
    (J : Act → Act → World → Prop) {a : Act} {w : World} (hS : S w.drew)
    (h : S w.drew → wpAnyL P .any ops (OnlyN (J a)) S ops.size (Array.replicate ops.size false) a w.drew) (hK : ∀ a' w', J a a' w' → Q .normal a' w') : (Code.region id ops true).wp P Q a w :=
  last_region hm S hK h hS
theorem last_round {P : Program} {ops : Array Oper} {Q : Exit → Act → World → Prop} {l n id : Nat} (hm : P.follows .mixedOrders = true) (hd : noDefer ops = true) (S : World → Prop)
    (J : Act → Act → World → Prop) {a : Act} {w : World} (hS : S w.drew)
    (h : S w.drew → wpAnyL P .any ops (OnlyN (J a)) S ops.size (Array.replicate ops.size false) a w.drew) (hK : ∀ a' w', J a a' w' → Q .normal a' w') : (Code.region id ops true).wpIn (Fence.wide.inRound l) n P Q a w :=
  wpIn_mono (wpIn_region_any hm (anyIn_of_any (noDefer_spec hd) onlyN_not _ _ _ _ (wpAny_of_L _ _ _ _ (h hS)))) (onlyN_imp hK)
end Go.Proofs.Ytpgkdpoehkdhcaa
