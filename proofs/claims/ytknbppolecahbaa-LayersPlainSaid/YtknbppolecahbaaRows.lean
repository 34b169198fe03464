/-
  No cell of these rows narrows 'for every input' (looked for: loops, veiled, ifaces, maps, wideKeys, modest, calm, conditions, laid).
  DERIVED. THE GIVEN ROWS OF THIS SEAT. 6 by the template 'for every input the law returns true; each argument reads behind the call as it read before'; 0 by the template 'total and deterministic' (their statements: YtknbppolecahbaaTotals.lean).
  GIVEN WITH THE SEED: the statements are not yours to turn. If you find one false, say at which input.
  Laid BY PROGRAM, IN A SANDBOX (cutbox-rows.mjs): the forced cells as the released guide's own fill.sh prints them over the translation 1d86bd1da47f3c85… (all of the seat's roots in one cut). By AI agents, Wed Nov 11 2026. No macro, syntax, notation, axiom, sorry.
-/
import Derived.Test.YtknbppolecahbaaChecked
import GoSem.Claim
import GoSem.ClaimJoined
import GoSem.ClaimMapViews
import Derived.JoinedTies
import Derived.KernelRfl
namespace Go.Proofs.Ytknbppolecahbaa
/- THE CELL 'sum', in the pinned program and in every row, IS THE sha256 OF THE DUMP (.gsa) THAT YtknbppolecahbaaProg.lean LOADS. Nothing in Lean hashes anything: it is a label: what it is worth is what the hold of that sum in a sandbox is worth. -/
noncomputable def Try.pinned : Pinned := { name := "ytknbppolecahbaa", sum := "1d86bd1da47f3c85b8a6c2adc322174513b9334117124f43173292697b665058", checked := Try.checked }
namespace Rows
def none {H : Type} : Left H := { results := [], args := [] }

/-- 'waveletlaw14.LayersGrow': WHATEVER THE INPUT: true; the input reads as it did. -/
def layersGrowSpec : ChangeSpec := { name := "layersGrow", fn := fun _ => fun
  | [d1, d2] => { results := [.lit (.bool true)], args := [d1, d2] }
  | _ => none }
def layersGrowRow : OpenClaim := { program := "ytknbppolecahbaa", sum := "1d86bd1da47f3c85b8a6c2adc322174513b9334117124f43173292697b665058", func := "wavelet/waveletlaw14.LayersGrow", spec := "layersGrow", apart := false }
def LayersGrowSaid : Prop := layersGrowRow.holds Try.pinned (OpenSpec.ofChange layersGrowSpec)

/-- ITS FALSE NEIGHBOUR: 'it returns false'. Refute it at one input. -/
def layersGrowWrong : ChangeSpec := { name := "layersGrow", fn := fun _ => fun
  | [d1, d2] => { results := [.lit (.bool false)], args := [d1, d2] }
  | _ => none }
def LayersGrowWrongFalsely : Prop := layersGrowRow.holds Try.pinned (OpenSpec.ofChange layersGrowWrong)

/-- 'waveletlaw14.LayersEnds': WHATEVER THE INPUT: true; the input reads as it did. -/
def layersEndsSpec : ChangeSpec := { name := "layersEnds", fn := fun _ => fun
  | [d1, d2] => { results := [.lit (.bool true)], args := [d1, d2] }
  | _ => none }
def layersEndsRow : OpenClaim := { program := "ytknbppolecahbaa", sum := "1d86bd1da47f3c85b8a6c2adc322174513b9334117124f43173292697b665058", func := "wavelet/waveletlaw14.LayersEnds", spec := "layersEnds", apart := false }
def LayersEndsSaid : Prop := layersEndsRow.holds Try.pinned (OpenSpec.ofChange layersEndsSpec)

/-- ITS FALSE NEIGHBOUR: 'it returns false'. Refute it at one input. -/
def layersEndsWrong : ChangeSpec := { name := "layersEnds", fn := fun _ => fun
  | [d1, d2] => { results := [.lit (.bool false)], args := [d1, d2] }
  | _ => none }
def LayersEndsWrongFalsely : Prop := layersEndsRow.holds Try.pinned (OpenSpec.ofChange layersEndsWrong)

/-- 'waveletlaw14.LayersOne': WHATEVER THE INPUT: true; the input reads as it did. -/
def layersOneSpec : ChangeSpec := { name := "layersOne", fn := fun _ => fun
  | [d1, d2] => { results := [.lit (.bool true)], args := [d1, d2] }
  | _ => none }
def layersOneRow : OpenClaim := { program := "ytknbppolecahbaa", sum := "1d86bd1da47f3c85b8a6c2adc322174513b9334117124f43173292697b665058", func := "wavelet/waveletlaw14.LayersOne", spec := "layersOne", apart := false }
def LayersOneSaid : Prop := layersOneRow.holds Try.pinned (OpenSpec.ofChange layersOneSpec)

/-- ITS FALSE NEIGHBOUR: 'it returns false'. Refute it at one input. -/
def layersOneWrong : ChangeSpec := { name := "layersOne", fn := fun _ => fun
  | [d1, d2] => { results := [.lit (.bool false)], args := [d1, d2] }
  | _ => none }
def LayersOneWrongFalsely : Prop := layersOneRow.holds Try.pinned (OpenSpec.ofChange layersOneWrong)

/-- 'waveletlaw14.LayersAll': WHATEVER THE INPUT: true; the input reads as it did. -/
def layersAllSpec : ChangeSpec := { name := "layersAll", fn := fun _ => fun
  | [d1, d2, d3, d4, d5, d6, d7] => { results := [.lit (.bool true)], args := [d1, d2, d3, d4, d5, d6, d7] }
  | _ => none }
def layersAllRow : OpenClaim := { program := "ytknbppolecahbaa", sum := "1d86bd1da47f3c85b8a6c2adc322174513b9334117124f43173292697b665058", func := "wavelet/waveletlaw14.LayersAll", spec := "layersAll", unfollowed := true, recurses := true, apart := false }
def LayersAllSaid : Prop := layersAllRow.holds Try.pinned (OpenSpec.ofChange layersAllSpec)

/-- ITS FALSE NEIGHBOUR: 'it returns false'. Refute it at one input. -/
def layersAllWrong : ChangeSpec := { name := "layersAll", fn := fun _ => fun
  | [d1, d2, d3, d4, d5, d6, d7] => { results := [.lit (.bool false)], args := [d1, d2, d3, d4, d5, d6, d7] }
  | _ => none }
def LayersAllWrongFalsely : Prop := layersAllRow.holds Try.pinned (OpenSpec.ofChange layersAllWrong)

/-- 'waveletlaw14.LayersCuts': WHATEVER THE INPUT: true; the input reads as it did. -/
def layersCutsSpec : ChangeSpec := { name := "layersCuts", fn := fun _ => fun
  | [d1, d2, d3, d4] => { results := [.lit (.bool true)], args := [d1, d2, d3, d4] }
  | _ => none }
def layersCutsRow : OpenClaim := { program := "ytknbppolecahbaa", sum := "1d86bd1da47f3c85b8a6c2adc322174513b9334117124f43173292697b665058", func := "wavelet/waveletlaw14.LayersCuts", spec := "layersCuts", unfollowed := true, recurses := true, apart := false }
def LayersCutsSaid : Prop := layersCutsRow.holds Try.pinned (OpenSpec.ofChange layersCutsSpec)

/-- ITS FALSE NEIGHBOUR: 'it returns false'. Refute it at one input. -/
def layersCutsWrong : ChangeSpec := { name := "layersCuts", fn := fun _ => fun
  | [d1, d2, d3, d4] => { results := [.lit (.bool false)], args := [d1, d2, d3, d4] }
  | _ => none }
def LayersCutsWrongFalsely : Prop := layersCutsRow.holds Try.pinned (OpenSpec.ofChange layersCutsWrong)

/-- 'waveletlaw14.LayersPlain': WHATEVER THE INPUT: true; the input reads as it did. -/
def layersPlainSpec : ChangeSpec := { name := "layersPlain", fn := fun _ => fun
  | [d1, d2, d3] => { results := [.lit (.bool true)], args := [d1, d2, d3] }
  | _ => none }
def layersPlainRow : OpenClaim := { program := "ytknbppolecahbaa", sum := "1d86bd1da47f3c85b8a6c2adc322174513b9334117124f43173292697b665058", func := "wavelet/waveletlaw14.LayersPlain", spec := "layersPlain", unfollowed := true, recurses := true, apart := false }
def LayersPlainSaid : Prop := layersPlainRow.holds Try.pinned (OpenSpec.ofChange layersPlainSpec)

/-- ITS FALSE NEIGHBOUR: 'it returns false'. Refute it at one input. -/
def layersPlainWrong : ChangeSpec := { name := "layersPlain", fn := fun _ => fun
  | [d1, d2, d3] => { results := [.lit (.bool false)], args := [d1, d2, d3] }
  | _ => none }
def LayersPlainWrongFalsely : Prop := layersPlainRow.holds Try.pinned (OpenSpec.ofChange layersPlainWrong)

/- THE SECOND FORM. 'bulk': how many values and letters a reading holds, each counted each time it is reached (what is shared counts as often as it is met; a slice's spare places count too). A statement '..UptoSaid' is the law's where the arguments, and the package variables that the reading takes, are together of bulk at most 1048576: NARROWER than '..Said'. Prove '..Said' where nothing that the law and all that it calls make is longer than what came in: it says more and counts as full. Else prove '..UptoSaid'. A law counts once. -/
mutual
def uptoBulk {H : Type} : DataW H → Nat
  | .lit (.string bytes) => bytes.length + 1
  | .lit _ => 1
  | .nil => 1
  | .ptr d => uptoBulk d + 1
  | .slice elems spare => uptoBulkAll elems + uptoBulkAll spare + 1
  | .agg parts => uptoBulkAll parts + 1
  | .iface _ d => uptoBulk d + 1
  | .map entries => uptoBulkEntries entries + 1
  | .held _ => 1
def uptoBulkAll {H : Type} : List (DataW H) → Nat
  | [] => 0
  | d :: r => uptoBulk d + uptoBulkAll r
def uptoBulkEntries {H : Type} : List (Lit × DataW H) → Nat
  | [] => 0
  | x :: r => uptoBulkEntry x + uptoBulkEntries r
def uptoBulkEntry {H : Type} : Lit × DataW H → Nat
  | (.string bytes, d) => bytes.length + uptoBulk d + 1
  | (_, d) => uptoBulk d + 1
 end
def uptoSmall : (H : Type) → List (DataW H) → Bool := fun _ ds => decide (uptoBulkAll ds ≤ 1048576)
def OpenSpec.upto (s : _root_.Go.ChangeSpec) : _root_.Go.OpenSpec := { _root_.Go.OpenSpec.ofChange s with cond := some uptoSmall }

/-- 'waveletlaw14.LayersGrow', WHERE WHAT IT READS IS OF BULK AT MOST 1048576: true; the input reads as it did. -/
def layersGrowUptoRow : OpenClaim := { program := "ytknbppolecahbaa", sum := "1d86bd1da47f3c85b8a6c2adc322174513b9334117124f43173292697b665058", func := "wavelet/waveletlaw14.LayersGrow", spec := "layersGrow", apart := false, narrowed := true }
def LayersGrowUptoSaid : Prop := layersGrowUptoRow.holds Try.pinned (OpenSpec.upto layersGrowSpec)

/-- 'waveletlaw14.LayersEnds', WHERE WHAT IT READS IS OF BULK AT MOST 1048576: true; the input reads as it did. -/
def layersEndsUptoRow : OpenClaim := { program := "ytknbppolecahbaa", sum := "1d86bd1da47f3c85b8a6c2adc322174513b9334117124f43173292697b665058", func := "wavelet/waveletlaw14.LayersEnds", spec := "layersEnds", apart := false, narrowed := true }
def LayersEndsUptoSaid : Prop := layersEndsUptoRow.holds Try.pinned (OpenSpec.upto layersEndsSpec)

/-- 'waveletlaw14.LayersOne', WHERE WHAT IT READS IS OF BULK AT MOST 1048576: true; the input reads as it did. -/
def layersOneUptoRow : OpenClaim := { program := "ytknbppolecahbaa", sum := "1d86bd1da47f3c85b8a6c2adc322174513b9334117124f43173292697b665058", func := "wavelet/waveletlaw14.LayersOne", spec := "layersOne", apart := false, narrowed := true }
def LayersOneUptoSaid : Prop := layersOneUptoRow.holds Try.pinned (OpenSpec.upto layersOneSpec)

/-- 'waveletlaw14.LayersAll', WHERE WHAT IT READS IS OF BULK AT MOST 1048576: true; the input reads as it did. -/
def layersAllUptoRow : OpenClaim := { program := "ytknbppolecahbaa", sum := "1d86bd1da47f3c85b8a6c2adc322174513b9334117124f43173292697b665058", func := "wavelet/waveletlaw14.LayersAll", spec := "layersAll", unfollowed := true, recurses := true, apart := false, narrowed := true }
def LayersAllUptoSaid : Prop := layersAllUptoRow.holds Try.pinned (OpenSpec.upto layersAllSpec)

/-- 'waveletlaw14.LayersCuts', WHERE WHAT IT READS IS OF BULK AT MOST 1048576: true; the input reads as it did. -/
def layersCutsUptoRow : OpenClaim := { program := "ytknbppolecahbaa", sum := "1d86bd1da47f3c85b8a6c2adc322174513b9334117124f43173292697b665058", func := "wavelet/waveletlaw14.LayersCuts", spec := "layersCuts", unfollowed := true, recurses := true, apart := false, narrowed := true }
def LayersCutsUptoSaid : Prop := layersCutsUptoRow.holds Try.pinned (OpenSpec.upto layersCutsSpec)

/-- 'waveletlaw14.LayersPlain', WHERE WHAT IT READS IS OF BULK AT MOST 1048576: true; the input reads as it did. -/
def layersPlainUptoRow : OpenClaim := { program := "ytknbppolecahbaa", sum := "1d86bd1da47f3c85b8a6c2adc322174513b9334117124f43173292697b665058", func := "wavelet/waveletlaw14.LayersPlain", spec := "layersPlain", unfollowed := true, recurses := true, apart := false, narrowed := true }
def LayersPlainUptoSaid : Prop := layersPlainUptoRow.holds Try.pinned (OpenSpec.upto layersPlainSpec)

end Rows
end Go.Proofs.Ytknbppolecahbaa
