/- AN ARGUMENT THAT IS A waveletlaw12.Form, BY VALUE, OPENED. -/
import Derived.Test.YtpgkdpoehkdhcaaMem
import Derived.ProofKit
import Derived.OpenShut
import Derived.ChangeOld
import Derived.Below
import Derived.Lib.SmallJoins
namespace Go.Proofs.Ytpgkdpoehkdhcaa
open Go.Joins Go.ChangeShapes Go.WideShapes Go.ChangeAt Go.RowKit Go.Deep
set_option linter.unusedVariables false
set_option linter.unusedSimpArgs false
set_option maxHeartbeats 2000000

/-- a slice of ints that came in: nil, or a row of so many cells -/
def IsRowF (w : World) (a : Option Addr) (len cap : Nat) (zs : List Int) : Prop :=
  (a = none ∧ len = 0 ∧ cap = 0 ∧ zs = []) ∨
  ∃ x, a = some x ∧ len ≤ cap ∧ cap ≤ maxLen ∧ zs.length = cap ∧ (∀ i, i < zs.length → w.cell? (x.add i) = some (.int .i64 (zs.getD i 0))) ∧ ∀ n ∈ zs, (Lit.int .i64 n).wf = true
theorem wf_bd {a : Int} (h : (Lit.int .i64 a).wf = true) : -9223372036854775808 ≤ a ∧ a ≤ 9223372036854775807 := by
  simp [Lit.wf] at h
  have e1 : IntKind.i64.min = -9223372036854775808 := rfl
  omega
theorem rowF_bd {w : World} {a : Option Addr} {len cap : Nat} {zs : List Int} (h : IsRowF w a len cap zs) : ∀ k, k < len → -9223372036854775808 ≤ zs.getD k 0 ∧ zs.getD k 0 ≤ 9223372036854775807 := by
  rcases h with ⟨rfl, rfl, rfl, rfl⟩ | ⟨x, rfl, hl, hm, hz, hc, hw⟩
  · intro k hk; omega
  · intro k hk
    have hk' : k < zs.length := by omega
    rw [List.getD_eq_getElem?_getD, List.getElem?_eq_getElem hk']
    exact wf_bd (hw _ (List.getElem_mem hk'))

section
variable {H : Type} {enc : TypeId × Value → H} {P : Program} {w : World} {base : Nat} {spare : Nat → Bool} {held : Bool}
theorem open_agg21 {r : Reach} {b0 : Nat} {t : TypeId} {f0 f1 f2 f3 f4 f5 f6 f7 f8 f9 f10 f11 f12 f13 f14 f15 f16 f17 f18 f19 f20 : Field} {v : Value} {d : DataW H} {p : List MemPlace} (hs : P.underlying t = some (.struct #[f0, f1, f2, f3, f4, f5, f6, f7, f8, f9, f10, f11, f12, f13, f14, f15, f16, f17, f18, f19, f20])) (hone : oneCellFields P #[f0, f1, f2, f3, f4, f5, f6, f7, f8, f9, f10, f11, f12, f13, f14, f15, f16, f17, f18, f19, f20] = true) (hC : P.cellsOf t = 21)
    (hv : Value.okWide P w r b0 t v) (h : DataW.Trod enc P w base spare held t v d p) :
    ∃ (c0 c1 c2 c3 c4 c5 c6 c7 c8 c9 c10 c11 c12 c13 c14 c15 c16 c17 c18 c19 c20 : Value) (y0 y1 y2 y3 y4 y5 y6 y7 y8 y9 y10 y11 y12 y13 y14 y15 y16 y17 y18 y19 y20 : DataW H × List MemPlace) (n : Nat), v = .agg #[c0, c1, c2, c3, c4, c5, c6, c7, c8, c9, c10, c11, c12, c13, c14, c15, c16, c17, c18, c19, c20] ∧
      DataW.trod enc P w base spare held n f0.type [c0] = some y0 ∧ DataW.trod enc P w base spare held n f1.type [c1] = some y1 ∧ DataW.trod enc P w base spare held n f2.type [c2] = some y2 ∧ DataW.trod enc P w base spare held n f3.type [c3] = some y3 ∧ DataW.trod enc P w base spare held n f4.type [c4] = some y4 ∧ DataW.trod enc P w base spare held n f5.type [c5] = some y5 ∧ DataW.trod enc P w base spare held n f6.type [c6] = some y6 ∧ DataW.trod enc P w base spare held n f7.type [c7] = some y7 ∧ DataW.trod enc P w base spare held n f8.type [c8] = some y8 ∧ DataW.trod enc P w base spare held n f9.type [c9] = some y9 ∧ DataW.trod enc P w base spare held n f10.type [c10] = some y10 ∧ DataW.trod enc P w base spare held n f11.type [c11] = some y11 ∧ DataW.trod enc P w base spare held n f12.type [c12] = some y12 ∧ DataW.trod enc P w base spare held n f13.type [c13] = some y13 ∧ DataW.trod enc P w base spare held n f14.type [c14] = some y14 ∧ DataW.trod enc P w base spare held n f15.type [c15] = some y15 ∧ DataW.trod enc P w base spare held n f16.type [c16] = some y16 ∧ DataW.trod enc P w base spare held n f17.type [c17] = some y17 ∧ DataW.trod enc P w base spare held n f18.type [c18] = some y18 ∧ DataW.trod enc P w base spare held n f19.type [c19] = some y19 ∧ DataW.trod enc P w base spare held n f20.type [c20] = some y20 := by
  obtain ⟨cs, rfl, hsz⟩ := okWide_struct hs hv
  obtain ⟨l⟩ := cs
  match l, hsz.trans hC with
  | [c0, c1, c2, c3, c4, c5, c6, c7, c8, c9, c10, c11, c12, c13, c14, c15, c16, c17, c18, c19, c20], _ =>
    obtain ⟨fuel, hf⟩ := h
    obtain ⟨xs, n, _, hx, _, hlen, hg⟩ := DataW.trod_struct hs hf
    obtain ⟨o0, k0⟩ := hone_of hone 0 f0 rfl
    obtain ⟨o1, k1⟩ := hone_of hone 1 f1 rfl
    obtain ⟨o2, k2⟩ := hone_of hone 2 f2 rfl
    obtain ⟨o3, k3⟩ := hone_of hone 3 f3 rfl
    obtain ⟨o4, k4⟩ := hone_of hone 4 f4 rfl
    obtain ⟨o5, k5⟩ := hone_of hone 5 f5 rfl
    obtain ⟨o6, k6⟩ := hone_of hone 6 f6 rfl
    obtain ⟨o7, k7⟩ := hone_of hone 7 f7 rfl
    obtain ⟨o8, k8⟩ := hone_of hone 8 f8 rfl
    obtain ⟨o9, k9⟩ := hone_of hone 9 f9 rfl
    obtain ⟨o10, k10⟩ := hone_of hone 10 f10 rfl
    obtain ⟨o11, k11⟩ := hone_of hone 11 f11 rfl
    obtain ⟨o12, k12⟩ := hone_of hone 12 f12 rfl
    obtain ⟨o13, k13⟩ := hone_of hone 13 f13 rfl
    obtain ⟨o14, k14⟩ := hone_of hone 14 f14 rfl
    obtain ⟨o15, k15⟩ := hone_of hone 15 f15 rfl
    obtain ⟨o16, k16⟩ := hone_of hone 16 f16 rfl
    obtain ⟨o17, k17⟩ := hone_of hone 17 f17 rfl
    obtain ⟨o18, k18⟩ := hone_of hone 18 f18 rfl
    obtain ⟨o19, k19⟩ := hone_of hone 19 f19 rfl
    obtain ⟨o20, k20⟩ := hone_of hone 20 f20 rfl
    match xs, hlen with
    | [y0, y1, y2, y3, y4, y5, y6, y7, y8, y9, y10, y11, y12, y13, y14, y15, y16, y17, y18, y19, y20], _ =>
      exact ⟨c0, c1, c2, c3, c4, c5, c6, c7, c8, c9, c10, c11, c12, c13, c14, c15, c16, c17, c18, c19, c20, y0, y1, y2, y3, y4, y5, y6, y7, y8, y9, y10, y11, y12, y13, y14, y15, y16, y17, y18, y19, y20, n, rfl, by simpa [Value.cells, o0, k0] using hg 0 f0 rfl, by simpa [Value.cells, o1, k1] using hg 1 f1 rfl, by simpa [Value.cells, o2, k2] using hg 2 f2 rfl, by simpa [Value.cells, o3, k3] using hg 3 f3 rfl, by simpa [Value.cells, o4, k4] using hg 4 f4 rfl, by simpa [Value.cells, o5, k5] using hg 5 f5 rfl, by simpa [Value.cells, o6, k6] using hg 6 f6 rfl, by simpa [Value.cells, o7, k7] using hg 7 f7 rfl, by simpa [Value.cells, o8, k8] using hg 8 f8 rfl, by simpa [Value.cells, o9, k9] using hg 9 f9 rfl, by simpa [Value.cells, o10, k10] using hg 10 f10 rfl, by simpa [Value.cells, o11, k11] using hg 11 f11 rfl, by simpa [Value.cells, o12, k12] using hg 12 f12 rfl, by simpa [Value.cells, o13, k13] using hg 13 f13 rfl, by simpa [Value.cells, o14, k14] using hg 14 f14 rfl, by simpa [Value.cells, o15, k15] using hg 15 f15 rfl, by simpa [Value.cells, o16, k16] using hg 16 f16 rfl, by simpa [Value.cells, o17, k17] using hg 17 f17 rfl, by simpa [Value.cells, o18, k18] using hg 18 f18 rfl, by simpa [Value.cells, o19, k19] using hg 19 f19 rfl, by simpa [Value.cells, o20, k20] using hg 20 f20 rfl⟩
end

theorem open_form {H : Type} {enc : TypeId × Value → H} {w : World} {r : Reach} {b0 base : Nat} {spare : Nat → Bool} (hsp : ∀ k, spare k = true) {held : Bool} {v : Value} {d : DataW H} {p : List MemPlace} (hv : Value.okWide Try.prog w r b0 24 v) (h : DataW.Trod enc Try.prog w base spare held 24 v d p) :
    ∃ (a0 : Int) (a1 : Int) (a2 : Int) (a3 : Int) (a4 : Int) (a5 : Int) (a6 : Int) (a7 : Bool) (a8 : Bool) (a9 : Bool) (a10 : Bool) (a11 : Int) (a12 : Int) (a13 : Int) (a14 : Int) (a15 : Int) (a16 : Int) (a17 : Int) (a18 : Int) (a19 : Int) (NA : Option Addr) (nN cN : Nat) (zs : List Int), v = .agg #[.int .i64 a0, .int .i64 a1, .int .i64 a2, .int .i64 a3, .int .i64 a4, .int .i64 a5, .int .i64 a6, .bool a7, .bool a8, .bool a9, .bool a10, .int .i64 a11, .int .i64 a12, .int .i64 a13, .int .i64 a14, .int .i64 a15, .int .i64 a16, .int .i64 a17, .int .i64 a18, .int .i64 a19, .slice NA nN cN] ∧ (-9223372036854775808 ≤ a6 ∧ a6 ≤ 9223372036854775807) ∧ IsRowF w NA nN cN zs := by
  obtain ⟨c0, c1, c2, c3, c4, c5, c6, c7, c8, c9, c10, c11, c12, c13, c14, c15, c16, c17, c18, c19, c20, y0, y1, y2, y3, y4, y5, y6, y7, y8, y9, y10, y11, y12, y13, y14, y15, y16, y17, y18, y19, y20, n, rfl, h0, h1, h2, h3, h4, h5, h6, h7, h8, h9, h10, h11, h12, h13, h14, h15, h16, h17, h18, h19, h20⟩ := open_agg21 Try.underlying24 (by kernel_rfl) (by kernel_rfl) hv h
  obtain ⟨a0, e0, _, w0⟩ := DataW.trod_int Try.underlying3 h0
  simp only [List.cons.injEq, and_true] at e0
  subst e0
  obtain ⟨a1, e1, _, w1⟩ := DataW.trod_int Try.underlying3 h1
  simp only [List.cons.injEq, and_true] at e1
  subst e1
  obtain ⟨a2, e2, _, w2⟩ := DataW.trod_int Try.underlying3 h2
  simp only [List.cons.injEq, and_true] at e2
  subst e2
  obtain ⟨a3, e3, _, w3⟩ := DataW.trod_int Try.underlying3 h3
  simp only [List.cons.injEq, and_true] at e3
  subst e3
  obtain ⟨a4, e4, _, w4⟩ := DataW.trod_int Try.underlying3 h4
  simp only [List.cons.injEq, and_true] at e4
  subst e4
  obtain ⟨a5, e5, _, w5⟩ := DataW.trod_int Try.underlying3 h5
  simp only [List.cons.injEq, and_true] at e5
  subst e5
  obtain ⟨a6, e6, _, w6⟩ := DataW.trod_int Try.underlying3 h6
  simp only [List.cons.injEq, and_true] at e6
  subst e6
  obtain ⟨a7, e7, _⟩ := DataW.trod_bool Try.underlying4 h7
  simp only [List.cons.injEq, and_true] at e7
  subst e7
  obtain ⟨a8, e8, _⟩ := DataW.trod_bool Try.underlying4 h8
  simp only [List.cons.injEq, and_true] at e8
  subst e8
  obtain ⟨a9, e9, _⟩ := DataW.trod_bool Try.underlying4 h9
  simp only [List.cons.injEq, and_true] at e9
  subst e9
  obtain ⟨a10, e10, _⟩ := DataW.trod_bool Try.underlying4 h10
  simp only [List.cons.injEq, and_true] at e10
  subst e10
  obtain ⟨a11, e11, _, w11⟩ := DataW.trod_int Try.underlying3 h11
  simp only [List.cons.injEq, and_true] at e11
  subst e11
  obtain ⟨a12, e12, _, w12⟩ := DataW.trod_int Try.underlying3 h12
  simp only [List.cons.injEq, and_true] at e12
  subst e12
  obtain ⟨a13, e13, _, w13⟩ := DataW.trod_int Try.underlying3 h13
  simp only [List.cons.injEq, and_true] at e13
  subst e13
  obtain ⟨a14, e14, _, w14⟩ := DataW.trod_int Try.underlying3 h14
  simp only [List.cons.injEq, and_true] at e14
  subst e14
  obtain ⟨a15, e15, _, w15⟩ := DataW.trod_int Try.underlying3 h15
  simp only [List.cons.injEq, and_true] at e15
  subst e15
  obtain ⟨a16, e16, _, w16⟩ := DataW.trod_int Try.underlying3 h16
  simp only [List.cons.injEq, and_true] at e16
  subst e16
  obtain ⟨a17, e17, _, w17⟩ := DataW.trod_int Try.underlying3 h17
  simp only [List.cons.injEq, and_true] at e17
  subst e17
  obtain ⟨a18, e18, _, w18⟩ := DataW.trod_int Try.underlying3 h18
  simp only [List.cons.injEq, and_true] at e18
  subst e18
  obtain ⟨a19, e19, _, w19⟩ := DataW.trod_int Try.underlying3 h19
  simp only [List.cons.injEq, and_true] at e19
  subst e19
  rcases open_ints Try.underlying22 Try.underlying3 (by kernel_rfl) h20 with ⟨hcs, _⟩ | ⟨x, l, c, zs, hcs, _, hl, hm, hz, _, hcell, hwz⟩
  · simp only [List.cons.injEq, and_true] at hcs
    subst hcs
    exact ⟨a0, a1, a2, a3, a4, a5, a6, a7, a8, a9, a10, a11, a12, a13, a14, a15, a16, a17, a18, a19, none, 0, 0, [], rfl, wf_bd w6, .inl ⟨rfl, rfl, rfl, rfl⟩⟩
  · simp only [List.cons.injEq, and_true] at hcs
    subst hcs
    exact ⟨a0, a1, a2, a3, a4, a5, a6, a7, a8, a9, a10, a11, a12, a13, a14, a15, a16, a17, a18, a19, _, _, _, zs, rfl, wf_bd w6, .inr ⟨_, rfl, hl, hm, by simpa [hsp] using hz, hcell, hwz⟩⟩
end Go.Proofs.Ytpgkdpoehkdhcaa
