/-
  No cell of these rows narrows 'for every input' (looked for: loops, veiled, ifaces, maps, wideKeys, modest, calm, conditions, laid).
  DERIVED. THE GIVEN ROWS OF THIS SEAT. 4 by the template 'for every input the law returns true; each argument reads behind the call as it read before'; 0 by the template 'total and deterministic' (their statements: YtmghnfblmoibhaaTotals.lean).
  GIVEN WITH THE SEED: the statements are not yours to turn. If you find one false, say at which input.
  Laid BY PROGRAM, IN A SANDBOX (cutbox-rows.mjs): the forced cells as the released guide's own fill.sh prints them over the translation 5fa7a1685dce2eaa… (all of the seat's roots in one cut). By AI agents, Wed Nov 11 2026. No macro, syntax, notation, axiom, sorry.
-/
import Derived.Test.YtmghnfblmoibhaaChecked
import GoSem.Claim
import GoSem.ClaimJoined
import GoSem.ClaimMapViews
import Derived.JoinedTies
import Derived.KernelRfl
namespace Go.Proofs.Ytmghnfblmoibhaa
/- THE CELL 'sum', in the pinned program and in every row, IS THE sha256 OF THE DUMP (.gsa) THAT YtmghnfblmoibhaaProg.lean LOADS. Nothing in Lean hashes anything: it is a label: what it is worth is what the hold of that sum in a sandbox is worth. -/
noncomputable def Try.pinned : Pinned := { name := "ytmghnfblmoibhaa", sum := "5fa7a1685dce2eaa57dd1e5c9a8990f58c837c069bc86b952e087519bc279745", checked := Try.checked }
namespace Rows
def none {H : Type} : Left H := { results := [], args := [] }

/-- 'waveletlaw6.ScanAt': WHATEVER THE INPUT: true; the input reads as it did. -/
def scanAtSpec : ChangeSpec := { name := "scanAt", fn := fun _ => fun
  | [d1, d2, d3] => { results := [.lit (.bool true)], args := [d1, d2, d3] }
  | _ => none }
def scanAtRow : OpenClaim := { program := "ytmghnfblmoibhaa", sum := "5fa7a1685dce2eaa57dd1e5c9a8990f58c837c069bc86b952e087519bc279745", func := "wavelet/waveletlaw6.ScanAt", spec := "scanAt", apart := false }
def ScanAtSaid : Prop := scanAtRow.holds Try.pinned (OpenSpec.ofChange scanAtSpec)

/-- ITS FALSE NEIGHBOUR: 'it returns false'. Refute it at one input. -/
def scanAtWrong : ChangeSpec := { name := "scanAt", fn := fun _ => fun
  | [d1, d2, d3] => { results := [.lit (.bool false)], args := [d1, d2, d3] }
  | _ => none }
def ScanAtWrongFalsely : Prop := scanAtRow.holds Try.pinned (OpenSpec.ofChange scanAtWrong)

/-- 'waveletlaw6.ScanOnce': WHATEVER THE INPUT: true; the input reads as it did. -/
def scanOnceSpec : ChangeSpec := { name := "scanOnce", fn := fun _ => fun
  | [d1, d2] => { results := [.lit (.bool true)], args := [d1, d2] }
  | _ => none }
def scanOnceRow : OpenClaim := { program := "ytmghnfblmoibhaa", sum := "5fa7a1685dce2eaa57dd1e5c9a8990f58c837c069bc86b952e087519bc279745", func := "wavelet/waveletlaw6.ScanOnce", spec := "scanOnce", apart := false }
def ScanOnceSaid : Prop := scanOnceRow.holds Try.pinned (OpenSpec.ofChange scanOnceSpec)

/-- ITS FALSE NEIGHBOUR: 'it returns false'. Refute it at one input. -/
def scanOnceWrong : ChangeSpec := { name := "scanOnce", fn := fun _ => fun
  | [d1, d2] => { results := [.lit (.bool false)], args := [d1, d2] }
  | _ => none }
def ScanOnceWrongFalsely : Prop := scanOnceRow.holds Try.pinned (OpenSpec.ofChange scanOnceWrong)

/-- 'waveletlaw6.ScanStripes': WHATEVER THE INPUT: true; the input reads as it did. -/
def scanStripesSpec : ChangeSpec := { name := "scanStripes", fn := fun _ => fun
  | [d1, d2, d3] => { results := [.lit (.bool true)], args := [d1, d2, d3] }
  | _ => none }
def scanStripesRow : OpenClaim := { program := "ytmghnfblmoibhaa", sum := "5fa7a1685dce2eaa57dd1e5c9a8990f58c837c069bc86b952e087519bc279745", func := "wavelet/waveletlaw6.ScanStripes", spec := "scanStripes", apart := false }
def ScanStripesSaid : Prop := scanStripesRow.holds Try.pinned (OpenSpec.ofChange scanStripesSpec)

/-- ITS FALSE NEIGHBOUR: 'it returns false'. Refute it at one input. -/
def scanStripesWrong : ChangeSpec := { name := "scanStripes", fn := fun _ => fun
  | [d1, d2, d3] => { results := [.lit (.bool false)], args := [d1, d2, d3] }
  | _ => none }
def ScanStripesWrongFalsely : Prop := scanStripesRow.holds Try.pinned (OpenSpec.ofChange scanStripesWrong)

/-- 'waveletlaw6.ScanNone': WHATEVER THE INPUT: true; the input reads as it did. -/
def scanNoneSpec : ChangeSpec := { name := "scanNone", fn := fun _ => fun
  | [d1, d2, d3] => { results := [.lit (.bool true)], args := [d1, d2, d3] }
  | _ => none }
def scanNoneRow : OpenClaim := { program := "ytmghnfblmoibhaa", sum := "5fa7a1685dce2eaa57dd1e5c9a8990f58c837c069bc86b952e087519bc279745", func := "wavelet/waveletlaw6.ScanNone", spec := "scanNone", apart := false }
def ScanNoneSaid : Prop := scanNoneRow.holds Try.pinned (OpenSpec.ofChange scanNoneSpec)

/-- ITS FALSE NEIGHBOUR: 'it returns false'. Refute it at one input. -/
def scanNoneWrong : ChangeSpec := { name := "scanNone", fn := fun _ => fun
  | [d1, d2, d3] => { results := [.lit (.bool false)], args := [d1, d2, d3] }
  | _ => none }
def ScanNoneWrongFalsely : Prop := scanNoneRow.holds Try.pinned (OpenSpec.ofChange scanNoneWrong)

/- THE SECOND FORM. 'bulk': how many values and letters a reading holds, each counted each time it is reached (what is shared counts as often as it is met; a slice's spare places count too). A statement '..UptoSaid' is the law's where the arguments, and the package variables that the reading takes, are together of bulk at most 1048576: NARROWER than '..Said'. Prove '..Said' where nothing that the law and all that it calls make is longer than what came in: it says more and counts as full. Else prove '..UptoSaid'. A law counts once. -/
mutual
def uptoBulk {H : Type} : DataW H → Nat
  | .lit (.string bytes) => bytes.length + 1
  | .lit _ => 1
  | .nil => 1
  | .ptr d => uptoBulk d + 1
  | .slice elems spare => uptoBulkAll elems + uptoBulkAll spare + 1
  | .agg parts => uptoBulkAll parts + 1
  | .iface _ d => uptoBulk d + 1
  | .map entries => uptoBulkEntries entries + 1
  | .held _ => 1
def uptoBulkAll {H : Type} : List (DataW H) → Nat
  | [] => 0
  | d :: r => uptoBulk d + uptoBulkAll r
def uptoBulkEntries {H : Type} : List (Lit × DataW H) → Nat
  | [] => 0
  | x :: r => uptoBulkEntry x + uptoBulkEntries r
def uptoBulkEntry {H : Type} : Lit × DataW H → Nat
  | (.string bytes, d) => bytes.length + uptoBulk d + 1
  | (_, d) => uptoBulk d + 1
 end
def uptoSmall : (H : Type) → List (DataW H) → Bool := fun _ ds => decide (uptoBulkAll ds ≤ 1048576)
def OpenSpec.upto (s : _root_.Go.ChangeSpec) : _root_.Go.OpenSpec := { _root_.Go.OpenSpec.ofChange s with cond := some uptoSmall }

/-- 'waveletlaw6.ScanAt', WHERE WHAT IT READS IS OF BULK AT MOST 1048576: true; the input reads as it did. -/
def scanAtUptoRow : OpenClaim := { program := "ytmghnfblmoibhaa", sum := "5fa7a1685dce2eaa57dd1e5c9a8990f58c837c069bc86b952e087519bc279745", func := "wavelet/waveletlaw6.ScanAt", spec := "scanAt", apart := false, narrowed := true }
def ScanAtUptoSaid : Prop := scanAtUptoRow.holds Try.pinned (OpenSpec.upto scanAtSpec)

/-- 'waveletlaw6.ScanOnce', WHERE WHAT IT READS IS OF BULK AT MOST 1048576: true; the input reads as it did. -/
def scanOnceUptoRow : OpenClaim := { program := "ytmghnfblmoibhaa", sum := "5fa7a1685dce2eaa57dd1e5c9a8990f58c837c069bc86b952e087519bc279745", func := "wavelet/waveletlaw6.ScanOnce", spec := "scanOnce", apart := false, narrowed := true }
def ScanOnceUptoSaid : Prop := scanOnceUptoRow.holds Try.pinned (OpenSpec.upto scanOnceSpec)

/-- 'waveletlaw6.ScanStripes', WHERE WHAT IT READS IS OF BULK AT MOST 1048576: true; the input reads as it did. -/
def scanStripesUptoRow : OpenClaim := { program := "ytmghnfblmoibhaa", sum := "5fa7a1685dce2eaa57dd1e5c9a8990f58c837c069bc86b952e087519bc279745", func := "wavelet/waveletlaw6.ScanStripes", spec := "scanStripes", apart := false, narrowed := true }
def ScanStripesUptoSaid : Prop := scanStripesUptoRow.holds Try.pinned (OpenSpec.upto scanStripesSpec)

/-- 'waveletlaw6.ScanNone', WHERE WHAT IT READS IS OF BULK AT MOST 1048576: true; the input reads as it did. -/
def scanNoneUptoRow : OpenClaim := { program := "ytmghnfblmoibhaa", sum := "5fa7a1685dce2eaa57dd1e5c9a8990f58c837c069bc86b952e087519bc279745", func := "wavelet/waveletlaw6.ScanNone", spec := "scanNone", apart := false, narrowed := true }
def ScanNoneUptoSaid : Prop := scanNoneUptoRow.holds Try.pinned (OpenSpec.upto scanNoneSpec)

end Rows
end Go.Proofs.Ytmghnfblmoibhaa
