/- THE SWITCH of waveletlaw12.CanvasChecks: whatever is changed, a picture lies in the two boxes behind it. -/
import Derived.Test.YtmieoifagnpbiaaChkMem
import Derived.Test.YtmieoifagnpbiaaLoad
import Derived.Deep.CutBlock
namespace Go.Proofs.Ytmieoifagnpbiaa
open Go.RowKit
attribute [local go_sem] opv opnd
set_option maxHeartbeats 40000000
set_option linter.unusedVariables false
set_option linter.unusedSimpArgs false
set_option maxRecDepth 1000000

def blockOf (i : Nat) : Code → Option Code
  | .seq a b => match blockOf i a with
    | some c => some c
    | none => blockOf i b
  | .block j c => if j = i then some (.block j c) else blockOf i c
  | .scope c => blockOf i c
  | .cond _ a b => match blockOf i a with
    | some c => some c
    | none => blockOf i b
  | .loop c => blockOf i c
  | _ => none
noncomputable def chkSw : Code := (Try.f5.body.bind (blockOf 0)).getD .skip

theorem chk_sw {c0 c1 c2 c3 c5 c6 c7 c8 c9 c10 c16 c17 c18 c19 c20 c21 c22 c23 c24 c25 c26 c27 c28 c29 c30 c31 c32 c33 c34 c35 c36 c37 c38 c39 c40 c41 c42 c43 c44 c45 c46 c47 c48 c49 c50 c51 c52 c53 c54 c55 c56 c57 c58 c59 c60 c61 c62 c63 c64 c65 c66 c67 c68 c69 c70 c71 c72 c73 c74 c75 c76 c77 c78 c79 c80 c81 c82 c83 c84 c85 c86 c87 c88 c89 c90 c91 c92 c93 c94 c95 c96 c97 c98 c99 c100 c101 c102 c103 c104 c105 c106 c107 c108 c109 c110 c111 c112 c113 c114 c115 c116 c117 c118 c119 c120 c121 c122 c123 c124 c125 c126 c127 c128 c129 c130 c131 c132 c133 c134 c135 c136 c137 c138 c139 c140 c141 c142 c143 c144 c145 c146 c147 c148 c149 c150 c151 c152 c153 c154 c155 c156 c157 c158 c159 c160 c161 : Value} (base gm g kc lb k : Nat) (kI nn X Y Ox Oy : Int) (n c : Nat) (tx ty lv cw ch pr st od ly : Int) (rct sop eph : Bool) (F : Nat → CompD) (G : Nat → Nat → Int) (PC : CompD → (Nat → Int) → Prop) (V : World) (TL : TypeId)
    (S : SwIn V base gm g kc X Y Ox Oy n c tx ty lv cw ch pr st od ly rct sop eph F G PC) (hL : V.heap[lb]? = some (.cells (ptrs gm g kc) TL (0, 0))) (hkI : kI = (k : Int)) (hk : k < 20)
    (QQ : Exit → Act → World → Prop) (hexit : ∀ (u88 u89 u90 u91 u92 u93 u94 u95 u96 u97 u98 u99 u100 u101 u102 u103 u104 u105 u106 u107 u108 u109 u110 u111 u112 u113 u114 u115 u116 u117 u118 u119 u120 u121 u122 u123 u124 u125 u126 u127 u128 u129 u130 u131 u132 u133 u134 u135 u136 u137 u138 u139 u140 u141 u142 u143 u144 u145 : Value) (w' : World), SwOut V w' base gm → QQ .normal ⟨List.toArray (c0 :: c1 :: c2 :: c3 :: Value.int .i64 nn :: c5 :: c6 :: c7 :: c8 :: c9 :: c10 :: Value.pointer (some ⟨gm, 0, none⟩) :: Value.pointer (some ⟨gm + 1, 0, none⟩) :: Value.pointer (some ⟨g, kc * 5, none⟩) :: Value.slice (some ⟨lb, 0, none⟩) 16 16 :: Value.int .i64 kI :: c16 :: c17 :: c18 :: c19 :: c20 :: c21 :: c22 :: c23 :: c24 :: c25 :: c26 :: c27 :: c28 :: c29 :: c30 :: c31 :: c32 :: c33 :: c34 :: c35 :: c36 :: c37 :: c38 :: c39 :: c40 :: c41 :: c42 :: c43 :: c44 :: c45 :: c46 :: c47 :: c48 :: c49 :: c50 :: c51 :: c52 :: c53 :: c54 :: c55 :: c56 :: c57 :: c58 :: c59 :: c60 :: c61 :: c62 :: c63 :: c64 :: c65 :: c66 :: c67 :: c68 :: c69 :: c70 :: c71 :: c72 :: c73 :: c74 :: c75 :: c76 :: c77 :: c78 :: c79 :: c80 :: c81 :: c82 :: c83 :: c84 :: c85 :: c86 :: c87 :: u88 :: u89 :: u90 :: u91 :: u92 :: u93 :: u94 :: u95 :: u96 :: u97 :: u98 :: u99 :: u100 :: u101 :: u102 :: u103 :: u104 :: u105 :: u106 :: u107 :: u108 :: u109 :: u110 :: u111 :: u112 :: u113 :: u114 :: u115 :: u116 :: u117 :: u118 :: u119 :: u120 :: u121 :: u122 :: u123 :: u124 :: u125 :: u126 :: u127 :: u128 :: u129 :: u130 :: u131 :: u132 :: u133 :: u134 :: u135 :: u136 :: u137 :: u138 :: u139 :: u140 :: u141 :: u142 :: u143 :: u144 :: u145 :: c146 :: c147 :: c148 :: c149 :: c150 :: c151 :: c152 :: c153 :: c154 :: c155 :: c156 :: c157 :: c158 :: c159 :: c160 :: c161 :: []), []⟩ w') :
    Code.wp Try.prog chkSw QQ ⟨List.toArray (c0 :: c1 :: c2 :: c3 :: Value.int .i64 nn :: c5 :: c6 :: c7 :: c8 :: c9 :: c10 :: Value.pointer (some ⟨gm, 0, none⟩) :: Value.pointer (some ⟨gm + 1, 0, none⟩) :: Value.pointer (some ⟨g, kc * 5, none⟩) :: Value.slice (some ⟨lb, 0, none⟩) 16 16 :: Value.int .i64 kI :: c16 :: c17 :: c18 :: c19 :: c20 :: c21 :: c22 :: c23 :: c24 :: c25 :: c26 :: c27 :: c28 :: c29 :: c30 :: c31 :: c32 :: c33 :: c34 :: c35 :: c36 :: c37 :: c38 :: c39 :: c40 :: c41 :: c42 :: c43 :: c44 :: c45 :: c46 :: c47 :: c48 :: c49 :: c50 :: c51 :: c52 :: c53 :: c54 :: c55 :: c56 :: c57 :: c58 :: c59 :: c60 :: c61 :: c62 :: c63 :: c64 :: c65 :: c66 :: c67 :: c68 :: c69 :: c70 :: c71 :: c72 :: c73 :: c74 :: c75 :: c76 :: c77 :: c78 :: c79 :: c80 :: c81 :: c82 :: c83 :: c84 :: c85 :: c86 :: c87 :: c88 :: c89 :: c90 :: c91 :: c92 :: c93 :: c94 :: c95 :: c96 :: c97 :: c98 :: c99 :: c100 :: c101 :: c102 :: c103 :: c104 :: c105 :: c106 :: c107 :: c108 :: c109 :: c110 :: c111 :: c112 :: c113 :: c114 :: c115 :: c116 :: c117 :: c118 :: c119 :: c120 :: c121 :: c122 :: c123 :: c124 :: c125 :: c126 :: c127 :: c128 :: c129 :: c130 :: c131 :: c132 :: c133 :: c134 :: c135 :: c136 :: c137 :: c138 :: c139 :: c140 :: c141 :: c142 :: c143 :: c144 :: c145 :: c146 :: c147 :: c148 :: c149 :: c150 :: c151 :: c152 :: c153 :: c154 :: c155 :: c156 :: c157 :: c158 :: c159 :: c160 :: c161 :: []), []⟩ V := by
  conv => arg 2; whnf
  subst hkI
  have HX := Lib.hid hexit
  clear hexit
  have HS := Lib.hid S
  clear S
  by_cases h16 : k < 16
  · have d16 : decide ((k : Int) < 16) = true := by simp; omega
    obtain ⟨b, o, old, l1, l2, l3, l4⟩ := HS.out.ways hL h16
    have H4 := Lib.hid l4
    clear l4 hL
    go_wp2_with fail
    exact HX.out _ _ _ _ _ _ _ _ _ _ _ _ _ _ _ _ _ _ _ _ _ _ _ _ _ _ _ _ _ _ _ _ _ _ _ _ _ _ _ _ _ _ _ _ _ _ _ _ _ _ _ _ _ _ _ _ _ _ _ (H4.out nn)
  · have e : k = 16 ∨ k = 17 ∨ k = 18 ∨ k = 19 := by omega
    clear h16 hk hL
    have hdk := HS.out.made.data kc HS.out.kc
    have x4 : V.cell? ⟨g, kc * 5 + 4, none⟩ = some (.slice (F kc).A (F kc).n (F kc).c) := HS.out.compCell rfl
    have m4 : V.cell? ⟨gm, 4, none⟩ = some (.slice (some ⟨g, 0, none⟩) n c) := cell_of_row _ _ 4 _ _ (0, 0) HS.out.im
    have p9 : V.cell? ⟨gm + 1, 9, none⟩ = some (.bool rct) := cell_of_row _ _ 9 _ _ (0, 0) HS.out.par
    have m4z : V.frozen? ⟨gm, 4, none⟩ = false := frozen_of_row _ _ 4 _ _ HS.out.im
    have p9z : V.frozen? ⟨gm + 1, 9, none⟩ = false := frozen_of_row _ _ 9 _ _ HS.out.par
    have hsz : base ≤ V.heap.size := by have h1 := HS.out.base; have h2 := HS.out.lt; omega
    have hkn := HS.out.kc
    have hfew := HS.out.few
    have hcap := HS.out.made.comps.cap
    have hsm := HS.out.small kc hkn
    have hdcap : (F kc).n ≤ (F kc).c ∧ (F kc).c ≤ 9223372036854775807 := OwnI.cap hdk
    have HCC := HS.out.made.comps
    rcases e with rfl | rfl | rfl | rfl
    · have HDm : OwnC V base 3 1 (dataV (F kc)) (F kc).n (fun x => [.int .i64 (if x = (F kc).n then 0 else G kc x)]) := (ownI_C hdk).congr (fun _ => rfl) (fun x hx => by rw [if_neg (by omega)])
      unfold dataV at HDm hdk
      have hcell : ∀ (T : TypeId) (j : Nat) (u : Value), ([Value.int .i64 (if (F kc).n = (F kc).n then 0 else G kc (F kc).n)])[j]? = some u → (V.alloc (.cells #[.int .i64 0] T)).cell? ⟨V.heap.size, j, none⟩ = some u := by
        intro T j u hj
        match j, hj with
        | 0, hj =>
          simp at hj
          subst hj
          exact cell_of_row _ _ 0 _ _ (0, 0) (heap_alloc_new V _)
      have hone : ∀ u ∈ [Value.int .i64 (if (F kc).n = (F kc).n then 0 else G kc (F kc).n)], u.oneCell' = true := by
        intro u hu
        simp at hu
        subst hu
        rfl
      have hsep := (sep_CI HCC hdk (by decide)).symm
      have HH := Lib.hid (And.intro HDm (And.intro hcell (And.intro hone (And.intro HCC hsep))))
      clear HDm hcell hone HCC hsep hdk
      rw [show ((16 : Nat) : Int) = 16 from rfl]
      go_wp2_with (at_builtin; refine wpList_appC V ((Below.refl _ _).alloc (Nat.le_refl _) _) (KeepsOthers.alloc _ _) rfl _ _ 32 rfl 3 1 int_elem base (F kc).A (F kc).n (F kc).c _ rfl HH.out.1 V.heap.size rfl (HH.out.2.1 _) HH.out.2.2.1 (by omega) hsz ?_; intro g2 cap w2 o2 st2 lt2; have hc2 := st2.keep _ _ _ _ _ HH.out.2.2.2.1 HH.out.2.2.2.2; have y4 : w2.cell? ⟨g, kc * 5 + 4, none⟩ = some (.slice (F kc).A (F kc).n (F kc).c) := (by have := hc2.at_.cells hkn (j := 4) (u := .slice (F kc).A (F kc).n (F kc).c) rfl; rwa [Nat.zero_add] at this); have z4 : w2.frozen? ⟨g, kc * 5 + 4, none⟩ = false := hc2.frozen _)
      exact HX.out _ _ _ _ _ _ _ _ _ _ _ _ _ _ _ _ _ _ _ _ _ _ _ _ _ _ _ _ _ _ _ _ _ _ _ _ _ _ _ _ _ _ _ _ _ _ _ _ _ _ _ _ _ _ _ _ _ _ _ (HS.out.out_more 0 st2 o2)
    · rw [show ((17 : Nat) : Int) = 17 from rfl]
      by_cases h0 : 0 < (F kc).n
      · obtain ⟨gd, hgd⟩ := OwnI.row hdk h0
        have dgt : decide (((F kc).n : Int) > 0) = true := by simp; omega
        have hdk' := hdk
        unfold dataV at hdk'
        rw [hgd] at x4 hdk'
        have s0 : V.cell? ⟨gd, 0, none⟩ = some (.int .i64 (G kc 0)) := hdk'.cell h0
        have s0z : V.frozen? ⟨gd, 0, none⟩ = false := hdk'.frozen 0
        have HOS := Lib.hid (HS.out.out_sample (j := 0) hgd nn)
        clear hdk hdk' HCC hgd
        go_wp2_with fail
        exact HX.out _ _ _ _ _ _ _ _ _ _ _ _ _ _ _ _ _ _ _ _ _ _ _ _ _ _ _ _ _ _ _ _ _ _ _ _ _ _ _ _ _ _ _ _ _ _ _ _ _ _ _ _ _ _ _ _ _ _ _ HOS.out
      · have hz : (F kc).n = 0 := by omega
        rw [hz] at x4
        clear h0 hdk hdcap hsm hz
        have HH := Lib.hid HCC
        clear HCC
        go_wp2_with (at_builtin; refine wpList_appCC rfl _ _ 23 rfl 34 5 comp_elem base (some ⟨g, 0, none⟩) n c _ rfl rfl HH.out (fun k _ => one_comp (F k)) (by omega) (by omega) hsz ?_; intro g2 cap w2 o2 st2 lt2; have r2 : RowI w2 gm X Y Ox Oy (some ⟨g, 0, none⟩) n c := (st2.blocks gm (by have := HS.out.lt; omega) (HH.out.ne_block HS.out.im (by decide))).trans HS.out.im; have y4 : w2.cell? ⟨gm, 4, none⟩ = some (.slice (some ⟨g, 0, none⟩) n c) := cell_of_row _ _ 4 _ _ (0, 0) r2; have z4 : w2.frozen? ⟨gm, 4, none⟩ = false := frozen_of_row _ _ 4 _ _ r2)
        exact HX.out _ _ _ _ _ _ _ _ _ _ _ _ _ _ _ _ _ _ _ _ _ _ _ _ _ _ _ _ _ _ _ _ _ _ _ _ _ _ _ _ _ _ _ _ _ _ _ _ _ _ _ _ _ _ _ _ _ _ _ (HS.out.out_twice st2 o2)
    · rw [show ((18 : Nat) : Int) = 18 from rfl]
      go_wp2_with fail
      exact HX.out _ _ _ _ _ _ _ _ _ _ _ _ _ _ _ _ _ _ _ _ _ _ _ _ _ _ _ _ _ _ _ _ _ _ _ _ _ _ _ _ _ _ _ _ _ _ _ _ _ _ _ _ _ _ _ _ _ _ _ HS.out.out_rct
    · rw [show ((19 : Nat) : Int) = 19 from rfl]
      have HH := Lib.hid HCC
      clear hdk hdcap hsm HCC
      go_wp2_with (at_builtin; refine wpList_appCC rfl _ _ 23 rfl 34 5 comp_elem base (some ⟨g, 0, none⟩) n c _ rfl rfl HH.out (fun k _ => one_comp (F k)) (by omega) (by omega) hsz ?_; intro g2 cap w2 o2 st2 lt2; have r2 : RowI w2 gm X Y Ox Oy (some ⟨g, 0, none⟩) n c := (st2.blocks gm (by have := HS.out.lt; omega) (HH.out.ne_block HS.out.im (by decide))).trans HS.out.im; have y4 : w2.cell? ⟨gm, 4, none⟩ = some (.slice (some ⟨g, 0, none⟩) n c) := cell_of_row _ _ 4 _ _ (0, 0) r2; have z4 : w2.frozen? ⟨gm, 4, none⟩ = false := frozen_of_row _ _ 4 _ _ r2)
      exact HX.out _ _ _ _ _ _ _ _ _ _ _ _ _ _ _ _ _ _ _ _ _ _ _ _ _ _ _ _ _ _ _ _ _ _ _ _ _ _ _ _ _ _ _ _ _ _ _ _ _ _ _ _ _ _ _ _ _ _ _ (HS.out.out_twice st2 o2)
end Go.Proofs.Ytmieoifagnpbiaa
